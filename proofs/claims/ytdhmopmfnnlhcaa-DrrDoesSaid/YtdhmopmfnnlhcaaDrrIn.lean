/-
  Arguments: numbers, jobs, calls (seawalllaw21).
-/
import Derived.Test.YtdhmopmfnnlhcaaDrr1
import Derived.Test.YtdhmopmfnnlhcaaLift2
namespace Go.Proofs.Ytdhmopmfnnlhcaa
open Go Go.RowKit Go.ChangeShapes Go.WideShapes Go.ChangeAt

/-- A call. -/
structure ActX where
  pop : Bool
  j : JX
instance : Inhabited ActX := ⟨⟨false, default⟩⟩
def actE : Enc ActX := ⟨33, 4, fun a => [.bool a.pop, .int .i64 a.j.flow, .int .i64 a.j.cost, .int .u64 (a.j.id : Int)], fun _ => rfl, (fun a v hv => by
  simp only [List.mem_cons, List.not_mem_nil, or_false] at hv
  rcases hv with rfl | rfl | rfl | rfl <;> rfl), by decide⟩
section
variable {H : Type} {enc : TypeId × Value → H} {W : World} {base : Nat} {sp : Nat → Bool} {held : Bool}
theorem ints_in {v : Value} {d : DataW H} {ps : List MemPlace} (hv : Value.okWide Try.prog W .any base 22 v)
    (h : DataW.Trod enc Try.prog W 0 (fun _ => true) true 22 v d ps) : ∃ A l cap, v = .slice A (List.length l) cap ∧ RdL W intE A cap l ∧ (∀ z ∈ l, -9223372036854775808 ≤ z ∧ z ≤ 9223372036854775807) ∧ cap ≤ maxLen := by
  obtain ⟨fuel, x, h1, h⟩ := arg_slice Try.underlying22 hv h
  obtain ⟨A, l, cap, he, hR, hQ, hm⟩ := in_list (E := intE) (Q := fun z => -9223372036854775808 ≤ z ∧ z ≤ 9223372036854775807) Try.underlying22 (by kernel_rfl) (fun m cs x h => by
    obtain ⟨z, rfl, hz⟩ := in_i64 Try.underlying3 h
    exact ⟨z, rfl, hz⟩) h
  exact ⟨A, l, cap, by simpa using he, hR, hQ, hm⟩
set_option maxRecDepth 10000 in
theorem in_job {m : Nat} {cs : List Value} {x : DataW H × List MemPlace} (h : DataW.trod enc Try.prog W base sp held m 31 cs = some x) : ∃ j : JX, cs = jobE.cells j ∧ j.id < 18446744073709551616 := by
  obtain ⟨hl, m, hp⟩ := in_fields Try.underlying31 h
  have hl2 : cs.length = 3 := hl.trans (by kernel_rfl)
  match cs, hl2 with
  | [c0, c1, c2], _ =>
    obtain ⟨y0, h0⟩ := hp 0 _ rfl
    obtain ⟨y1, h1⟩ := hp 1 _ rfl
    obtain ⟨y2, h2⟩ := hp 2 _ rfl
    dsimp only at h0 h1 h2
    obtain ⟨a, e0, _⟩ := in_i64 Try.underlying3 h0
    obtain ⟨b, e1, _⟩ := in_i64 Try.underlying3 h1
    obtain ⟨c, e2, hc⟩ := in_u64 Try.underlying29 h2
    rw [show Program.cellsOf Try.prog 3 = 1 by kernel_rfl] at e0 e1
    rw [show Program.cellsOf Try.prog 29 = 1 by kernel_rfl] at e2
    obtain rfl : c0 = .int .i64 a := by simpa using e0
    obtain rfl : c1 = .int .i64 b := by simpa using e1
    obtain rfl : c2 = .int .u64 (c : Int) := by simpa using e2
    exact ⟨⟨a, b, c⟩, rfl, hc⟩
set_option maxRecDepth 10000 in
theorem job_in {v : Value} {d : DataW H} {ps : List MemPlace} (hv : Value.okWide Try.prog W .any base 31 v)
    (h : DataW.Trod enc Try.prog W 0 (fun _ => true) true 31 v d ps) : ∃ j : JX, v = j.v ∧ j.id < 18446744073709551616 := by
  obtain ⟨fuel, x, cs, rfl, h2⟩ := arg_struct Try.underlying31 hv h
  obtain ⟨s, rfl, hs⟩ := in_job h2
  exact ⟨s, rfl, hs⟩
set_option maxRecDepth 10000 in
theorem jobs_in {v : Value} {d : DataW H} {ps : List MemPlace} (hv : Value.okWide Try.prog W .any base 27 v)
    (h : DataW.Trod enc Try.prog W 0 (fun _ => true) true 27 v d ps) : ∃ A l cap, v = .slice A (List.length l) cap ∧ RdL W jobE A cap l ∧ (∀ j ∈ l, j.id < 18446744073709551616) ∧ cap ≤ maxLen := by
  obtain ⟨fuel, x, h1, h⟩ := arg_slice Try.underlying27 hv h
  obtain ⟨A, l, cap, he, hR, hQ, hm⟩ := in_list (E := jobE) (Q := fun j => j.id < 18446744073709551616) Try.underlying27 (by kernel_rfl) (fun m cs x h => in_job h) h
  exact ⟨A, l, cap, by simpa using he, hR, hQ, hm⟩
set_option maxRecDepth 10000 in
theorem in_act {m : Nat} {cs : List Value} {x : DataW H × List MemPlace} (h : DataW.trod enc Try.prog W base sp held m 33 cs = some x) : ∃ a : ActX, cs = actE.cells a ∧ a.j.id < 18446744073709551616 := by
  obtain ⟨hl, m, hp⟩ := in_fields Try.underlying33 h
  have hl2 : cs.length = 4 := hl.trans (by kernel_rfl)
  match cs, hl2 with
  | [c0, c1, c2, c3], _ =>
    obtain ⟨y0, h0⟩ := hp 0 _ rfl
    obtain ⟨y1, h1⟩ := hp 1 _ rfl
    dsimp only at h0 h1
    obtain ⟨k, e0⟩ := in_bool Try.underlying4 h0
    rw [show Program.cellsOf Try.prog 4 = 1 by kernel_rfl] at e0
    obtain rfl : c0 = .bool k := by simpa using e0
    obtain ⟨j, e1, hj⟩ := in_job h1
    rw [show Program.cellsOf Try.prog 31 = 3 by kernel_rfl] at e1
    have e2 : [c1, c2, c3] = jobE.cells j := by simpa using e1
    exact ⟨⟨k, j⟩, by show _ = Value.bool k :: jobE.cells j; rw [← e2], hj⟩
set_option maxRecDepth 10000 in
theorem acts_in {v : Value} {d : DataW H} {ps : List MemPlace} (hv : Value.okWide Try.prog W .any base 23 v)
    (h : DataW.Trod enc Try.prog W 0 (fun _ => true) true 23 v d ps) : ∃ A l cap, v = .slice A (List.length l) cap ∧ RdL W actE A cap l ∧ (∀ a ∈ l, a.j.id < 18446744073709551616) ∧ cap ≤ maxLen := by
  obtain ⟨fuel, x, h1, h⟩ := arg_slice Try.underlying23 hv h
  obtain ⟨A, l, cap, he, hR, hQ, hm⟩ := in_list (E := actE) (Q := fun a => a.j.id < 18446744073709551616) Try.underlying23 (by kernel_rfl) (fun m cs x h => in_act h) h
  exact ⟨A, l, cap, by simpa using he, hR, hQ, hm⟩
end
end Go.Proofs.Ytdhmopmfnnlhcaa
