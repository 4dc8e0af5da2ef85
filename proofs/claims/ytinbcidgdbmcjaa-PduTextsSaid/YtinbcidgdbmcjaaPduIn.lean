/-
  What arguments read as: a message, a list of messages, a command, a list of pairs. (seat law20)
-/
import Derived.Test.YtinbcidgdbmcjaaKnown20
import Derived.Test.YtinbcidgdbmcjaaLift2
namespace Go.Proofs.Ytinbcidgdbmcjaa
open Go Go.RowKit Go.ChangeShapes Go.WideShapes Go.ChangeAt Bin

theorem Mem.starRdP {fs : List PdX} {w0 w : World} {L : List Asr} (M : Mem w0 w L) (h : Has (Asr.star (fs.map PdX.O)) L) : ∀ f ∈ fs, RdB w f.x.A f.x.cap f.x.l := by
  intro f hf
  have hs : Sep (fs.map PdX.O) w := M.has h
  have := Sep.mem hs (PdX.O f) (List.mem_map_of_mem hf)
  exact ownRd this
theorem el_mapP {ps : List PdX} {i : Nat} (h : i < ps.length) : (ps.map PdX.m)[i]? = some (el ps i).m := by simp [el, h]
section
variable {H : Type} {enc : TypeId × Value → H} {W : World} {base : Nat} {sp : Nat → Bool} {held : Bool}
/-- What is known of a message that was handed in. -/
def PdX.inn (W : World) (p : PdX) : Prop := p.m.inn ∧ RdB W p.x.A p.x.cap p.x.l
theorem in_words {m : Nat} {cs : List Value} {x : DataW H × List MemPlace} (h : DataW.trod enc Try.prog W base sp held m 24 cs = some x) :
    ∃ ws : Nat → Nat, (∀ i, i < 7 → ws i < 4294967296) ∧ cs = [.int .u32 (ws 0 : Int), .int .u32 (ws 1 : Int), .int .u32 (ws 2 : Int), .int .u32 (ws 3 : Int), .int .u32 (ws 4 : Int), .int .u32 (ws 5 : Int), .int .u32 (ws 6 : Int)] := by
  obtain ⟨xs, m, _, _, hlen, hl, hel⟩ := DataW.trod_array Try.underlying24 h
  have hc1 : Program.cellsOf Try.prog 23 = 1 := by kernel_rfl
  have hc7 : Program.cellsOf Try.prog 24 = 7 := by kernel_rfl
  rw [hc7] at hlen
  rw [hc1] at hel
  have one : ∀ i, i < 7 → ∃ n : Nat, cs[i]? = some (.int .u32 (n : Int)) ∧ n < 4294967296 := by
    intro i hi
    have h1 := hel i hi
    rw [List.getElem?_eq_getElem (by omega)] at h1
    obtain ⟨n, e, hn⟩ := in_u32 Try.underlying23 h1
    rw [Nat.mul_one] at e
    refine ⟨n, ?_, hn⟩
    have e2 := congrArg (fun l => l[0]?) e
    simpa [List.getElem?_take, List.getElem?_drop] using e2
  obtain ⟨n0, e0, l0⟩ := one 0 (by decide)
  obtain ⟨n1, e1, l1⟩ := one 1 (by decide)
  obtain ⟨n2, e2, l2⟩ := one 2 (by decide)
  obtain ⟨n3, e3, l3⟩ := one 3 (by decide)
  obtain ⟨n4, e4, l4⟩ := one 4 (by decide)
  obtain ⟨n5, e5, l5⟩ := one 5 (by decide)
  obtain ⟨n6, e6, l6⟩ := one 6 (by decide)
  refine ⟨fun i => match i with | 0 => n0 | 1 => n1 | 2 => n2 | 3 => n3 | 4 => n4 | 5 => n5 | _ => n6, fun i hi => ?_, ?_⟩
  · match i, hi with
    | 0, _ => exact l0
    | 1, _ => exact l1
    | 2, _ => exact l2
    | 3, _ => exact l3
    | 4, _ => exact l4
    | 5, _ => exact l5
    | 6, _ => exact l6
  · apply List.ext_getElem?
    intro i
    rcases Nat.lt_or_ge i 7 with hi | hi
    · match i, hi with
      | 0, _ => exact e0
      | 1, _ => exact e1
      | 2, _ => exact e2
      | 3, _ => exact e3
      | 4, _ => exact e4
      | 5, _ => exact e5
      | 6, _ => exact e6
    · rw [List.getElem?_eq_none (by omega), List.getElem?_eq_none (by simpa using hi)]
set_option maxRecDepth 10000 in
theorem in_pdu {m : Nat} {cs : List Value} {x : DataW H × List MemPlace} (h : DataW.trod enc Try.prog W base sp held m 27 cs = some x) : ∃ p : PdX, cs = pduE.cells p ∧ p.inn W := by
  obtain ⟨hl, m, hp⟩ := in_fields Try.underlying27 h
  have hl2 : cs.length = 13 := hl.trans (by kernel_rfl)
  match cs, hl2 with
  | [c0, c1, c2, c3, c4, c5, c6, c7, c8, c9, c10, c11, c12], _ =>
    obtain ⟨y0, h0⟩ := hp 0 _ rfl
    obtain ⟨y1, h1⟩ := hp 1 _ rfl
    obtain ⟨y2, h2⟩ := hp 2 _ rfl
    obtain ⟨y3, h3⟩ := hp 3 _ rfl
    obtain ⟨y4, h4⟩ := hp 4 _ rfl
    obtain ⟨y5, h5⟩ := hp 5 _ rfl
    obtain ⟨y6, h6⟩ := hp 6 _ rfl
    dsimp only at h0 h1 h2 h3 h4 h5 h6
    obtain ⟨op, e0, _⟩ := in_i64 Try.underlying3 h0
    obtain ⟨now, e1⟩ := in_bool Try.underlying4 h1
    obtain ⟨fl, e2⟩ := in_u8 Try.underlying5 h2
    obtain ⟨lun, e3, q3⟩ := in_u64 Try.underlying22 h3
    obtain ⟨tag, e4, q4⟩ := in_u32 Try.underlying23 h4
    obtain ⟨ws, q5, e5⟩ := in_words h5
    obtain ⟨A, l, cap, e6, hr, _⟩ := in_bytes Try.underlying25 Try.underlying5 (by kernel_rfl) h6
    rw [show Program.cellsOf Try.prog 3 = 1 by kernel_rfl] at e0
    rw [show Program.cellsOf Try.prog 4 = 1 by kernel_rfl] at e1
    rw [show Program.cellsOf Try.prog 5 = 1 by kernel_rfl] at e2
    rw [show Program.cellsOf Try.prog 22 = 1 by kernel_rfl] at e3
    rw [show Program.cellsOf Try.prog 23 = 1 by kernel_rfl] at e4
    rw [show Program.cellsOf Try.prog 24 = 7 by kernel_rfl] at e5
    rw [show Program.cellsOf Try.prog 25 = 1 by kernel_rfl] at e6
    obtain rfl : c0 = .int .i64 op := by simpa using e0
    obtain rfl : c1 = .bool now := by simpa using e1
    obtain rfl : c2 = .int .u8 (fl.toNat : Int) := by simpa using e2
    obtain rfl : c3 = .int .u64 (lun : Int) := by simpa using e3
    obtain rfl : c4 = .int .u32 (tag : Int) := by simpa using e4
    obtain ⟨rfl, rfl, rfl, rfl, rfl, rfl, rfl⟩ : c5 = .int .u32 (ws 0 : Int) ∧ c6 = .int .u32 (ws 1 : Int) ∧ c7 = .int .u32 (ws 2 : Int) ∧ c8 = .int .u32 (ws 3 : Int) ∧ c9 = .int .u32 (ws 4 : Int) ∧ c10 = .int .u32 (ws 5 : Int) ∧ c11 = .int .u32 (ws 6 : Int) := by simpa using e5
    obtain rfl : c12 = .slice A l.length cap := by simpa using e6
    exact ⟨⟨op, now, fl, lun, tag, ws, ⟨A, cap, l⟩⟩, rfl, ⟨q3, q4, q5⟩, hr⟩
set_option maxRecDepth 10000 in
theorem pdu_in {v : Value} {d : DataW H} {ps : List MemPlace} (hv : Value.okWide Try.prog W .any base 27 v)
    (h : DataW.Trod enc Try.prog W 0 (fun _ => true) true 27 v d ps) : ∃ p : PdX, v = p.v ∧ p.inn W := by
  obtain ⟨fuel, x, cs, rfl, h2⟩ := arg_struct Try.underlying27 hv h
  obtain ⟨s, rfl, hs⟩ := in_pdu h2
  exact ⟨s, rfl, hs⟩
set_option maxRecDepth 10000 in
theorem pdus_in {v : Value} {d : DataW H} {ps : List MemPlace} (hv : Value.okWide Try.prog W .any base 55 v)
    (h : DataW.Trod enc Try.prog W 0 (fun _ => true) true 55 v d ps) : ∃ A l cap, v = .slice A (List.length l) cap ∧ RdL W pduE A cap l ∧ (∀ s ∈ l, s.inn W) ∧ cap ≤ maxLen := by
  obtain ⟨fuel, x, h1, h⟩ := arg_slice Try.underlying55 hv h
  obtain ⟨A, l, cap, he, hR, hQ, hm⟩ := in_list (E := pduE) (Q := fun s => s.inn W) Try.underlying55 (by kernel_rfl) (fun m cs x h => in_pdu h) h
  exact ⟨A, l, cap, by simpa using he, hR, hQ, hm⟩
set_option maxRecDepth 10000 in
theorem in_cmd {m : Nat} {cs : List Value} {x : DataW H × List MemPlace} (h : DataW.trod enc Try.prog W base sp held m 36 cs = some x) : ∃ c : CmX, cs = c.cells ∧ c.lba < 18446744073709551616 ∧ -9223372036854775808 ≤ c.count ∧ c.count ≤ 9223372036854775807 ∧ -9223372036854775808 ≤ c.room ∧ c.room ≤ 9223372036854775807 := by
  obtain ⟨hl, m, hp⟩ := in_fields Try.underlying36 h
  have hl2 : cs.length = 4 := hl.trans (by kernel_rfl)
  match cs, hl2 with
  | [c0, c1, c2, c3], _ =>
    obtain ⟨y0, h0⟩ := hp 0 _ rfl
    obtain ⟨y1, h1⟩ := hp 1 _ rfl
    obtain ⟨y2, h2⟩ := hp 2 _ rfl
    obtain ⟨y3, h3⟩ := hp 3 _ rfl
    dsimp only at h0 h1 h2 h3
    obtain ⟨op, e0, _⟩ := in_i64 Try.underlying3 h0
    obtain ⟨lba, e1, q1⟩ := in_u64 Try.underlying22 h1
    obtain ⟨ct, e2, q2⟩ := in_i64 Try.underlying3 h2
    obtain ⟨rm, e3, q3⟩ := in_i64 Try.underlying3 h3
    rw [show Program.cellsOf Try.prog 3 = 1 by kernel_rfl] at e0 e2 e3
    rw [show Program.cellsOf Try.prog 22 = 1 by kernel_rfl] at e1
    obtain rfl : c0 = .int .i64 op := by simpa using e0
    obtain rfl : c1 = .int .u64 (lba : Int) := by simpa using e1
    obtain rfl : c2 = .int .i64 ct := by simpa using e2
    obtain rfl : c3 = .int .i64 rm := by simpa using e3
    exact ⟨⟨op, lba, ct, rm⟩, rfl, q1, q2.1, q2.2, q3⟩
set_option maxRecDepth 10000 in
theorem cmd_in {v : Value} {d : DataW H} {ps : List MemPlace} (hv : Value.okWide Try.prog W .any base 36 v)
    (h : DataW.Trod enc Try.prog W 0 (fun _ => true) true 36 v d ps) : ∃ c : CmX, v = c.v ∧ c.lba < 18446744073709551616 ∧ -9223372036854775808 ≤ c.count ∧ c.count ≤ 9223372036854775807 ∧ -9223372036854775808 ≤ c.room ∧ c.room ≤ 9223372036854775807 := by
  obtain ⟨fuel, x, cs, rfl, h2⟩ := arg_struct Try.underlying36 hv h
  obtain ⟨s, rfl, hs⟩ := in_cmd h2
  exact ⟨s, rfl, hs⟩
set_option maxRecDepth 10000 in
theorem pairs_in {v : Value} {d : DataW H} {ps : List MemPlace} (hv : Value.okWide Try.prog W .any base 66 v)
    (h : DataW.Trod enc Try.prog W 0 (fun _ => true) true 66 v d ps) : ∃ A l cap, v = .slice A (List.length l) cap ∧ RdL W pairE A cap l ∧ (∀ s ∈ l, s.1.length ≤ maxLen ∧ s.2.length ≤ maxLen) ∧ cap ≤ maxLen := by
  obtain ⟨fuel, x, h1, h⟩ := arg_slice Try.underlying66 hv h
  obtain ⟨A, l, cap, he, hR, hQ, hm⟩ := in_list (E := pairE) (Q := fun s => s.1.length ≤ maxLen ∧ s.2.length ≤ maxLen) Try.underlying66 (by kernel_rfl) (fun m cs x h => by
    obtain ⟨hl, m, hp⟩ := in_fields Try.underlying68 h
    have hl2 : cs.length = 2 := hl.trans (by kernel_rfl)
    match cs, hl2 with
    | [c0, c1], _ =>
      obtain ⟨y0, h0⟩ := hp 0 _ rfl
      obtain ⟨y1, h1⟩ := hp 1 _ rfl
      dsimp only at h0 h1
      obtain ⟨k, e0, q0⟩ := in_string Try.underlying9 h0
      obtain ⟨u, e1, q1⟩ := in_string Try.underlying9 h1
      rw [show Program.cellsOf Try.prog 9 = 1 by kernel_rfl] at e0 e1
      obtain rfl : c0 = str k := by simpa using e0
      obtain rfl : c1 = str u := by simpa using e1
      exact ⟨(k, u), rfl, q0, q1⟩) h
  exact ⟨A, l, cap, by simpa using he, hR, hQ, hm⟩
end
end Go.Proofs.Ytinbcidgdbmcjaa
