/-
  Law: a sender stays well; calls as arguments.
-/
import Derived.Test.YtgaegaaaoopolaaSess3
import Derived.Test.YtgaegaaaoopolaaSessIn
namespace Go.Proofs.Ytgaegaaaoopolaa
open Go Go.RowKit Go.ChangeShapes Go.WideShapes Go.ChangeAt

/-- Well, after no more than i calls. -/
structure Sn.wel (s : Sn) (i : Nat) : Prop where
  life : s.life < 18446744073709551616
  win : 1 ≤ s.window ∧ s.window ≤ 64
  span : 1 ≤ s.span ∧ s.span ≤ 1000
  acked : s.acked + s.l.length ≤ i
  now : s.now ≤ i
  len : s.l.length ≤ 128
  body : ∀ p ∈ s.l, p.1.length ≤ 1000
  sent : ∀ p ∈ s.l, p.2 ≤ s.now
theorem Sn.wel.ok {s : Sn} {i : Nat} (h : s.wel i) (hi : i < 1000000000) : s.ok := ⟨h.life, h.win, h.span, by have := h.acked; omega, by have := h.now; omega, h.len, h.body, h.sent⟩
theorem Sn.wel.le {s : Sn} {i j : Nat} (h : s.wel i) (hi : i ≤ j) : s.wel j := ⟨h.life, h.win, h.span, by have := h.acked; omega, by have := h.now; omega, h.len, h.body, h.sent⟩
theorem pushS_wel {s : Sn} {i : Nat} (h : s.wel i) (b : List UInt8) : (pushS s b).wel (i + 1) := by
  unfold pushS
  split
  · rename_i he
    unfold pushE at he
    split at he
    · omega
    · split at he
      · omega
      · refine ⟨h.life, h.win, h.span, by have := h.acked; simp; omega, by have := h.now; dsimp only; omega, by simp; omega, ?_, ?_⟩
        · intro p hp
          rcases List.mem_append.1 hp with hp | hp
          · exact h.body p hp
          · rw [List.mem_singleton] at hp; subst hp; dsimp only; omega
        · intro p hp
          rcases List.mem_append.1 hp with hp | hp
          · exact h.sent p hp
          · rw [List.mem_singleton] at hp; subst hp; exact Nat.zero_le _
  · exact h.le (Nat.le_succ _)
theorem sentTo_mem {span now k : Nat} {l : List (List UInt8 × Nat)} {p : List UInt8 × Nat} (hp : p ∈ sentTo span now k l) : ∃ q ∈ l, p.1 = q.1 ∧ (p.2 = now ∨ p.2 = q.2) := by
  unfold sentTo at hp
  obtain ⟨j, hj, rfl⟩ := List.mem_map.1 hp
  rw [List.mem_range] at hj
  refine ⟨el l j, el_mem hj, ?_⟩
  split
  · exact ⟨rfl, .inl rfl⟩
  · exact ⟨rfl, .inr rfl⟩
theorem tickS_wel {s : Sn} {i : Nat} (h : s.wel i) : (tickS s).wel (i + 1) := by
  unfold tickS
  refine ⟨h.life, h.win, h.span, by have := h.acked; dsimp only; rw [sentTo_length]; omega, by have := h.now; dsimp only; omega, by dsimp only; rw [sentTo_length]; exact h.len, ?_, ?_⟩
  · intro p hp
    obtain ⟨q, hq, e, _⟩ := sentTo_mem hp
    rw [e]
    exact h.body q hq
  · intro p hp
    obtain ⟨q, hq, _, e⟩ := sentTo_mem hp
    have := h.sent q hq
    dsimp only
    omega
theorem hearS_wel {s : Sn} {i : Nat} (h : s.wel i) (g : Nat × Nat × Bool × List UInt8) : (hearS s g).wel (i + 1) := by
  unfold hearS
  split
  · rename_i he
    obtain ⟨he, hl⟩ := he
    have hd : g.2.1 - s.acked ≤ s.l.length := by
      unfold hearE at he
      split at he
      · omega
      · split at he
        · omega
        · split at he
          · omega
          · split at he
            · omega
            · rename_i h1
              rcases Nat.lt_or_ge s.l.length (g.2.1 - s.acked) with h2 | h2
              · exact absurd ⟨hl, h2⟩ h1
              · exact h2
    refine ⟨h.life, h.win, h.span, by have := h.acked; dsimp only; rw [List.length_drop]; omega, by have := h.now; dsimp only; omega, by have := h.len; dsimp only; rw [List.length_drop]; omega, ?_, ?_⟩
    · exact fun p hp => h.body p (List.mem_of_mem_drop hp)
    · exact fun p hp => h.sent p (List.mem_of_mem_drop hp)
  · exact h.le (Nat.le_succ _)

/-- A call as it lies. -/
structure AX where
  kind : Int
  s : SX
instance : Inhabited AX := ⟨⟨0, default⟩⟩
def actE : Enc AX := ⟨38, 5, fun a => [.int .i64 a.kind, .int .u64 (a.s.life : Int), .int .u64 (a.s.seq : Int), .bool a.s.ack, a.s.x.v], fun _ => rfl, (fun a v hv => by
  simp only [List.mem_cons, List.not_mem_nil, or_false] at hv
  rcases hv with rfl | rfl | rfl | rfl | rfl <;> rfl), by decide⟩

section
variable {H : Type} {enc : TypeId × Value → H} {W : World} {base : Nat} {sp : Nat → Bool} {held : Bool}
set_option maxRecDepth 10000 in
theorem in_act {m : Nat} {cs : List Value} {x : DataW H × List MemPlace} (h : DataW.trod enc Try.prog W base sp held m 38 cs = some x) : ∃ a : AX, cs = actE.cells a ∧ a.s.inn W := by
  obtain ⟨hl, m, hp⟩ := in_fields Try.underlying38 h
  have hl2 : cs.length = 5 := hl.trans (by kernel_rfl)
  match cs, hl2 with
  | [c0, c1, c2, c3, c4], _ =>
    obtain ⟨y0, h0⟩ := hp 0 _ rfl
    obtain ⟨y1, h1⟩ := hp 1 _ rfl
    dsimp only at h0 h1
    obtain ⟨k, e0, _⟩ := in_i64 Try.underlying3 h0
    rw [show Program.cellsOf Try.prog 3 = 1 by kernel_rfl] at e0
    obtain rfl : c0 = .int .i64 k := by simpa using e0
    obtain ⟨s, e1, hs⟩ := in_seg h1
    rw [show Program.cellsOf Try.prog 36 = 4 by kernel_rfl] at e1
    have e2 : [c1, c2, c3, c4] = segE.cells s := by simpa using e1
    exact ⟨⟨k, s⟩, by show _ = Value.int .i64 k :: segE.cells s; rw [← e2], hs⟩
set_option maxRecDepth 10000 in
theorem acts_in {v : Value} {d : DataW H} {ps : List MemPlace} (hv : Value.okWide Try.prog W .any base 23 v)
    (h : DataW.Trod enc Try.prog W 0 (fun _ => true) true 23 v d ps) : ∃ A l cap, v = .slice A (List.length l) cap ∧ RdL W actE A cap l ∧ (∀ a ∈ l, a.s.inn W) ∧ cap ≤ maxLen := by
  obtain ⟨fuel, x, h1, h⟩ := arg_slice Try.underlying23 hv h
  obtain ⟨A, l, cap, he, hR, hQ, hm⟩ := in_list (E := actE) (Q := fun a => a.s.inn W) Try.underlying23 (by kernel_rfl) (fun m cs x h => in_act h) h
  exact ⟨A, l, cap, by simpa using he, hR, hQ, hm⟩
end
section
variable {P : Program} {n : Nat} {ρ : List (Nat × Value)} {w : World} {rest : List Oper} {X : SqV P n}
variable {d : Nat} {ty : TypeId} {pos : String} {aft : Array Edge} {x : Operand} {t : TypeId} {α : Type} {E : Enc α}
/-- A part of a thing of a list. -/
theorem WL.loadLP [Inhabited α] {A : Option Addr} {cap j o : Nat} {l : List α} {cs : List Value} (hA : ∀ w, (isAgg t).run P w = .ok true w) (hs : ∀ w, (sizeOf t).run P w = .ok cs.length w) (hx : ev ρ x = some (.pointer (some (atA A (j * E.size + o))))) (h : RdL w E A cap l) (hj : j < l.length)
    (hcs : ((E.cells (el l j)).drop o).take cs.length = cs) (hd : Nat.blt d n = true) (kk : X.S rest ((d, .agg cs.toArray) :: ρ) w) : X.S (⟨some d, .load t x, ty, pos, aft, none⟩ :: rest) ρ w := by
  refine WL.loadAgg hA hs hx (fun q v hv => ?_) hd kk
  rw [atA_add, Nat.add_assoc]
  refine h.cell hj ?_
  rw [← hcs, List.getElem?_take] at hv
  split at hv
  · rw [List.getElem?_drop] at hv
    exact hv
  · cases hv
end
end Go.Proofs.Ytgaegaaaoopolaa
