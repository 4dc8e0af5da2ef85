/-
  Proved: seawalltop.TopHeal answers true for every script that may be handed in, and leaves its argument as it was. No condition.
-/
import Derived.Test.YtcmlehggfkjagaaTopHeal
import Derived.Test.YtcmlehggfkjagaaLift2
namespace Go.Proofs.Ytcmlehggfkjagaa
open Go Go.RowKit Go.ChangeShapes Go.WideShapes Go.ChangeAt

section
variable {H : Type} {enc : TypeId × Value → H} {W : World} {base : Nat} {sp : Nat → Bool} {held : Bool}
set_option maxRecDepth 10000 in
theorem in_turn {m : Nat} {cs : List Value} {x : DataW H × List MemPlace} (h : DataW.trod enc Try.prog W base sp held m 43 cs = some x) : ∃ s : TnX, cs = turnE.cells s ∧ s.inn := by
  obtain ⟨hl, m, hp⟩ := in_fields Try.underlying43 h
  have hl2 : cs.length = 4 := hl.trans (by kernel_rfl)
  match cs, hl2 with
  | [c0, c1, c2, c3], _ =>
    obtain ⟨y0, h0⟩ := hp 0 _ rfl
    obtain ⟨y1, h1⟩ := hp 1 _ rfl
    obtain ⟨y2, h2⟩ := hp 2 _ rfl
    obtain ⟨y3, h3⟩ := hp 3 _ rfl
    dsimp only at h0 h1 h2 h3
    obtain ⟨z, e0, hz⟩ := in_i64 Try.underlying3 h0
    obtain ⟨a, e1, ha⟩ := in_i64 Try.underlying3 h1
    obtain ⟨b, e2, hb⟩ := in_u64 Try.underlying23 h2
    obtain ⟨u, e3⟩ := in_u8 Try.underlying5 h3
    rw [show Program.cellsOf Try.prog 3 = 1 by kernel_rfl] at e0 e1
    rw [show Program.cellsOf Try.prog 23 = 1 by kernel_rfl] at e2
    rw [show Program.cellsOf Try.prog 5 = 1 by kernel_rfl] at e3
    obtain rfl : c0 = .int .i64 z := by simpa using e0
    obtain rfl : c1 = .int .i64 a := by simpa using e1
    obtain rfl : c2 = .int .u64 (b : Int) := by simpa using e2
    obtain rfl : c3 = .int .u8 (u.toNat : Int) := by simpa using e3
    exact ⟨⟨z, a, b, u⟩, rfl, ha, hb⟩
set_option maxRecDepth 10000 in
theorem turns_in {v : Value} {d : DataW H} {ps : List MemPlace} (hv : Value.okWide Try.prog W .any base 22 v)
    (h : DataW.Trod enc Try.prog W 0 (fun _ => true) true 22 v d ps) : ∃ A l cap, v = .slice A (List.length l) cap ∧ RdL W turnE A cap l ∧ (∀ s ∈ l, s.inn) ∧ cap ≤ maxLen := by
  obtain ⟨fuel, x, h1, h⟩ := arg_slice Try.underlying22 hv h
  obtain ⟨A, l, cap, he, hR, hQ, hm⟩ := in_list (E := turnE) (Q := fun s => s.inn) Try.underlying22 (by kernel_rfl) (fun m cs x h => in_turn h) h
  exact ⟨A, l, cap, by simpa using he, hR, hQ, hm⟩
end

theorem own_TopHeal : ownKnob Try.prog.godebug = none := by kernel_rfl
theorem laidOut_TopHeal : laidOutB Try.prog = true := by kernel_rfl
set_option maxRecDepth 100000 in
theorem lifted_TopHeal (os : Os) (started : os.Started) (H : Type) (enc : TypeId × Value → H) :
    ReturnsInHanded {} Try.checked os 3 .any (Rows.topHealSpec.pre6 enc Try.prog Try.f3 Rows.topHealRow.domain false) (Rows.topHealSpec.post enc Try.prog Try.f3 false true false false) := by
  refine returnsInHanded_of_change (C := Try.checked) own_TopHeal started (by kernel_rfl) Try.func3
    (ChangeSpec.witness6 (enc := enc) (C := Try.checked) false ⟨#[], #[.slice none 0 0], []⟩ 8 (by kernel_rfl) (by kernel_rfl) (by kernel_rfl) (by kernel_rfl)) ?_
  intro W base args ds gs before hval0 hW hcnd _
  have hval : ∀ (j : Nat) t v, Try.f3.params[j]? = some t → args[j]? = some v → Value.okWide Try.prog W .any base t v := hval0
  have hW' := hW
  obtain ⟨p, q, hA0, hV, rfl, hfz, hnd⟩ := hW
  have hA : DataW.TrodAll enc Try.prog W 0 (fun _ => true) true Try.f3.params.toList args.toList ds p := hA0
  rw [Try.params3] at hA hval
  obtain ⟨v0, vs0, d0, ds0, p0, q0, hargs, rfl, rfl, h0, r0⟩ := trodAll_cons hA
  obtain ⟨rfl, rfl, rfl⟩ := trodAll_nil r0
  obtain rfl : args = #[v0] := by cases args; simp_all
  obtain ⟨rfl, rfl⟩ := trodVars_none hV
  have k0 := h0
  have lt0 : ∀ x ∈ p0, x.block < W.heap.size := by obtain ⟨m, hm⟩ := k0; exact DataW.trod_lt m _ _ _ hm
  obtain ⟨A0, l0, c0, rfl, hb0, hq0, hm0⟩ := turns_in (hval 0 22 v0 rfl rfl) h0
  clear hA0 hval0
  refine Calls.mono (TopHeal_ok A0 c0 l0 W hb0 hq0 hm0) fun e W' ⟨v, he, hv, m⟩ => ?_
  have bel := m.base.below
  subst hv
  subst he
  exact ⟨_, rfl, _, _, _, [], _, [], hW', trodAll_mk1 (shut_bool Try.underlying4 _), (trodAll_cons_mk (Below.trod laidOut_TopHeal (by kernel_rfl) (of_decide_eq_true (by kernel_rfl)) k0 bel lt0) trodAll_mk0), rfl, bel.frame _, fun h => by cases h⟩

/-- The statement. -/
theorem topHeal_holds : Rows.TopHealSaid :=
  OpenClaim.holds_of_wide 3 Try.f3 rfl rfl rfl rfl rfl rfl rfl ⟨rfl, rfl, rfl, rfl, rfl⟩ rfl rfl rfl rfl rfl (by kernel_rfl) Try.func3 (by kernel_rfl)
    (of_decide_eq_true (by kernel_rfl)) (by unfold Func.isWrapper; first | (rw [if_pos (by decide +kernel)]; kernel_rfl) | (rw [if_neg (by decide +kernel)]; exact ⟨rfl, rfl⟩))
    (fun os started H enc _ => lifted_TopHeal os started H enc)
#print axioms topHeal_holds
end Go.Proofs.Ytcmlehggfkjagaa
