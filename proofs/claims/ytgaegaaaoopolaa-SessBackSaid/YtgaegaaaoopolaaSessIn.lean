/-
  What arguments read as: a segment, a list of segments. (seat law07)
-/
import Derived.Test.YtgaegaaaoopolaaSess1
import Derived.Test.YtgaegaaaoopolaaLift2
namespace Go.Proofs.Ytgaegaaaoopolaa
open Go Go.RowKit Go.ChangeShapes Go.WideShapes Go.ChangeAt

section
variable {H : Type} {enc : TypeId × Value → H} {W : World} {base : Nat} {sp : Nat → Bool} {held : Bool}
/-- What is known of a segment that was handed in. -/
def SX.inn (W : World) (s : SX) : Prop := s.life < 18446744073709551616 ∧ s.seq < 18446744073709551616 ∧ RdB W s.x.A s.x.cap s.x.l

set_option maxRecDepth 10000 in
theorem in_seg {m : Nat} {cs : List Value} {x : DataW H × List MemPlace} (h : DataW.trod enc Try.prog W base sp held m 36 cs = some x) : ∃ s : SX, cs = segE.cells s ∧ s.inn W := by
  obtain ⟨hl, m, hp⟩ := in_fields Try.underlying36 h
  have hl2 : cs.length = 4 := hl.trans (by kernel_rfl)
  match cs, hl2 with
  | [c0, c1, c2, c3], _ =>
    obtain ⟨y0, h0⟩ := hp 0 _ rfl
    obtain ⟨y1, h1⟩ := hp 1 _ rfl
    obtain ⟨y2, h2⟩ := hp 2 _ rfl
    obtain ⟨y3, h3⟩ := hp 3 _ rfl
    dsimp only at h0 h1 h2 h3
    obtain ⟨a, e0, ha⟩ := in_u64 Try.underlying22 h0
    obtain ⟨b, e1, hb⟩ := in_u64 Try.underlying22 h1
    obtain ⟨k, e2⟩ := in_bool Try.underlying4 h2
    obtain ⟨A, l, cap, e3, hr, _⟩ := in_bytes Try.underlying34 Try.underlying5 (by kernel_rfl) h3
    rw [show Program.cellsOf Try.prog 22 = 1 by kernel_rfl] at e0 e1
    rw [show Program.cellsOf Try.prog 4 = 1 by kernel_rfl] at e2
    rw [show Program.cellsOf Try.prog 34 = 1 by kernel_rfl] at e3
    obtain rfl : c0 = .int .u64 (a : Int) := by simpa using e0
    obtain rfl : c1 = .int .u64 (b : Int) := by simpa using e1
    obtain rfl : c2 = .bool k := by simpa using e2
    obtain rfl : c3 = .slice A l.length cap := by simpa using e3
    exact ⟨⟨a, b, k, ⟨A, cap, l⟩⟩, rfl, ha, hb, hr⟩

set_option maxRecDepth 10000 in
theorem seg_in {v : Value} {d : DataW H} {ps : List MemPlace} (hv : Value.okWide Try.prog W .any base 36 v)
    (h : DataW.Trod enc Try.prog W 0 (fun _ => true) true 36 v d ps) : ∃ s : SX, v = s.v ∧ s.inn W := by
  obtain ⟨fuel, x, cs, rfl, h2⟩ := arg_struct Try.underlying36 hv h
  obtain ⟨s, rfl, hs⟩ := in_seg h2
  exact ⟨s, rfl, hs⟩
set_option maxRecDepth 10000 in
theorem segs_in {v : Value} {d : DataW H} {ps : List MemPlace} (hv : Value.okWide Try.prog W .any base 45 v)
    (h : DataW.Trod enc Try.prog W 0 (fun _ => true) true 45 v d ps) : ∃ A l cap, v = .slice A (List.length l) cap ∧ RdL W segE A cap l ∧ (∀ s ∈ l, s.inn W) ∧ cap ≤ maxLen := by
  obtain ⟨fuel, x, h1, h⟩ := arg_slice Try.underlying45 hv h
  obtain ⟨A, l, cap, he, hR, hQ, hm⟩ := in_list (E := segE) (Q := fun s => s.inn W) Try.underlying45 (by kernel_rfl) (fun m cs x h => in_seg h) h
  exact ⟨A, l, cap, by simpa using he, hR, hQ, hm⟩
end
end Go.Proofs.Ytgaegaaaoopolaa
