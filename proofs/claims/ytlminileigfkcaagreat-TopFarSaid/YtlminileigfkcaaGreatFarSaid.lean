/-
  Proved: seawalltop.TopFar answers true for any changes, marks, order, act in which the power goes, and whatever is kept, and leaves its arguments as they were. No condition.
-/
import Derived.Test.YtlminileigfkcaaGreatFarJ
namespace Go.Proofs.YtlminileigfkcaaGreat
open Go Go.RowKit Go.ChangeShapes Go.WideShapes Go.ChangeAt
section
variable {H : Type} {enc : TypeId × Value → H} {W : World} {base : Nat}
set_option maxRecDepth 10000 in
theorem ints_in {v : Value} {d : DataW H} {ps : List MemPlace} (hv : Value.okWide Tryz.prog W .any base 24 v)
 (h : DataW.Trod enc Tryz.prog W 0 (fun _ => true) true 24 v d ps) : ∃ A l cap, v = .slice A (List.length l) cap ∧ RdL W intE A cap l ∧ (∀ z ∈ l, -9223372036854775808 ≤ z ∧ z ≤ 9223372036854775807) ∧ cap ≤ maxLen := by
 obtain ⟨fuel, x, h1, h⟩ := arg_slice Tryz.underlying24 hv h
 obtain ⟨A, l, cap, he, hR, hQ, hm⟩ := in_list (E := intE) (Q := fun z => -9223372036854775808 ≤ z ∧ z ≤ 9223372036854775807) Tryz.underlying24 (by kernel_rfl) (fun m cs x h => by
  obtain ⟨z, rfl, hz⟩ := in_i64 Tryz.underlying3 h
  exact ⟨z, rfl, hz⟩) h
 exact ⟨A, l, cap, by simpa using he, hR, hQ, hm⟩
set_option maxRecDepth 10000 in
theorem bools_in {v : Value} {d : DataW H} {ps : List MemPlace} (hv : Value.okWide Tryz.prog W .any base 23 v)
 (h : DataW.Trod enc Tryz.prog W 0 (fun _ => true) true 23 v d ps) : ∃ A l cap, v = .slice A (List.length l) cap ∧ RdL W boolE A cap l ∧ (∀ z ∈ l, True) ∧ cap ≤ maxLen := by
 obtain ⟨fuel, x, h1, h⟩ := arg_slice Tryz.underlying23 hv h
 obtain ⟨A, l, cap, he, hR, hQ, hm⟩ := in_list (E := boolE) (Q := fun _ => True) Tryz.underlying23 (by kernel_rfl) (fun m cs x h => by
  obtain ⟨z, rfl⟩ := in_bool Tryz.underlying4 h
  exact ⟨z, rfl, trivial⟩) h
 exact ⟨A, l, cap, by simpa using he, hR, hQ, hm⟩
set_option maxRecDepth 10000 in
theorem changes_in {v : Value} {d : DataW H} {ps : List MemPlace} (hv : Value.okWide Tryz.prog W .any base 22 v)
 (h : DataW.Trod enc Tryz.prog W 0 (fun _ => true) true 22 v d ps) : ∃ A l cap, v = .slice A (List.length l) cap ∧ RdL W cgE A cap l ∧ (∀ s ∈ l, s.key.length ≤ maxLen) ∧ cap ≤ maxLen := by
 obtain ⟨fuel, x, h1, h⟩ := arg_slice Tryz.underlying22 hv h
 obtain ⟨A, l, cap, he, hR, hQ, hm⟩ := in_list (E := cgE) (Q := fun s => s.key.length ≤ maxLen) Tryz.underlying22 (by kernel_rfl) (fun m cs x h => by
  obtain ⟨hl, m, hp⟩ := in_fields Tryz.underlying63 h
  have hl2 : cs.length = 3 := hl.trans (by kernel_rfl)
  match cs, hl2 with
  | [c0, c1, c2], _ =>
    obtain ⟨y0, h0⟩ := hp 0 _ rfl
    obtain ⟨y1, h1⟩ := hp 1 _ rfl
    obtain ⟨y2, h2⟩ := hp 2 _ rfl
    dsimp only at h0 h1 h2
    obtain ⟨k, e0, q0⟩ := in_string Tryz.underlying9 h0
    obtain ⟨u, e1, q1⟩ := in_string Tryz.underlying9 h1
    obtain ⟨b, e2⟩ := in_bool Tryz.underlying4 h2
    rw [show Program.cellsOf Tryz.prog 9 = 1 by kernel_rfl] at e0 e1
    rw [show Program.cellsOf Tryz.prog 4 = 1 by kernel_rfl] at e2
    obtain rfl : c0 = str k := by simpa using e0
    obtain rfl : c1 = str u := by simpa using e1
    obtain rfl : c2 = .bool b := by simpa using e2
    exact ⟨⟨k, u, b⟩, rfl, q0⟩) h
 exact ⟨A, l, cap, by simpa using he, hR, hQ, hm⟩
end
theorem own_TopFar : ownKnob Tryz.prog.godebug = none := by kernel_rfl
theorem laidOut_TopFar : laidOutB Tryz.prog = true := by kernel_rfl
set_option maxRecDepth 100000 in
theorem lifted_TopFar (os : Os) (started : os.Started) (H : Type) (enc : TypeId × Value → H) :
 ReturnsInHanded {} Tryz.checked os 3 .any (Rows.topFarSpec.pre6 enc Tryz.prog Tryz.f3 Rows.topFarRow.domain false) (Rows.topFarSpec.post enc Tryz.prog Tryz.f3 false true false false) := by
 refine returnsInHanded_of_change (C := Tryz.checked) own_TopFar started (by kernel_rfl) Tryz.func3
  (ChangeSpec.witness6 (enc := enc) (C := Tryz.checked) false ⟨#[], #[.slice none 0 0, .slice none 0 0, .slice none 0 0, .int .i64 0, .slice none 0 0], []⟩ 8 (by kernel_rfl) (by kernel_rfl) (by kernel_rfl) (by kernel_rfl)) ?_
 intro W base args ds gs before hval0 hW hcnd _
 have hval : ∀ (j : Nat) t v, Tryz.f3.params[j]? = some t → args[j]? = some v → Value.okWide Tryz.prog W .any base t v := hval0
 have hW' := hW
 obtain ⟨p, q, hA0, hV, rfl, hfz, hnd⟩ := hW
 have hA : DataW.TrodAll enc Tryz.prog W 0 (fun _ => true) true Tryz.f3.params.toList args.toList ds p := hA0
 rw [Tryz.params3] at hA hval
 obtain ⟨v0, vs0, d0, ds0, p0, q0, hargs, rfl, rfl, h0, r0⟩ := trodAll_cons hA
 obtain ⟨v1, vs1, d1, ds1, p1, q1, rfl, rfl, rfl, h1, r1⟩ := trodAll_cons r0
 obtain ⟨v2, vs2, d2, ds2, p2, q2, rfl, rfl, rfl, h2, r2⟩ := trodAll_cons r1
 obtain ⟨v3, vs3, d3, ds3, p3, q3, rfl, rfl, rfl, h3, r3⟩ := trodAll_cons r2
 obtain ⟨v4, vs4, d4, ds4, p4, q4, rfl, rfl, rfl, h4, r4⟩ := trodAll_cons r3
 obtain ⟨rfl, rfl, rfl⟩ := trodAll_nil r4
 obtain rfl : args = #[v0, v1, v2, v3, v4] := by cases args; simp_all
 obtain ⟨rfl, rfl⟩ := trodVars_none hV
 have k0 := h0
 have lt0 : ∀ x ∈ p0, x.block < W.heap.size := by obtain ⟨m, hm⟩ := k0; exact DataW.trod_lt m _ _ _ hm
 obtain ⟨A0, l0, c0, rfl, hb0, hq0, hm0⟩ := changes_in (hval 0 22 v0 rfl rfl) h0
 have k1 := h1
 have lt1 : ∀ x ∈ p1, x.block < W.heap.size := by obtain ⟨m, hm⟩ := k1; exact DataW.trod_lt m _ _ _ hm
 obtain ⟨A1, l1, c1, rfl, hb1, hq1, hm1⟩ := bools_in (hval 1 23 v1 rfl rfl) h1
 have k2 := h2
 have lt2 : ∀ x ∈ p2, x.block < W.heap.size := by obtain ⟨m, hm⟩ := k2; exact DataW.trod_lt m _ _ _ hm
 obtain ⟨A2, l2, c2, rfl, hb2, hq2, hm2⟩ := ints_in (hval 2 24 v2 rfl rfl) h2
 obtain ⟨z3, rfl, rfl, rfl, w3⟩ := open_int Tryz.underlying3 (hval 3 3 v3 rfl rfl) h3
 have hz3 := bounds_i64 w3
 have k4 := h4
 have lt4 : ∀ x ∈ p4, x.block < W.heap.size := by obtain ⟨m, hm⟩ := k4; exact DataW.trod_lt m _ _ _ hm
 obtain ⟨A4, l4, c4, rfl, hb4, hq4, hm4⟩ := ints_in (hval 4 24 v4 rfl rfl) h4
 clear hA0 hval0
 refine Calls.mono (TopFar_ok A0 c0 l0 A1 c1 l1 A2 c2 l2 z3 A4 c4 l4 W hb0 hq0 hm0 hb1 hm1 hb2 hm2 hz3.2 hb4) fun e W' ⟨v, he, hv, m⟩ => ?_
 have bel := m.base.below
 subst hv
 subst he
 exact ⟨_, rfl, _, _, _, [], _, [], hW', trodAll_mk1 (shut_bool Tryz.underlying4 _), (trodAll_cons_mk (Below.trod laidOut_TopFar (by kernel_rfl) (of_decide_eq_true (by kernel_rfl)) k0 bel lt0) (trodAll_cons_mk (Below.trod laidOut_TopFar (by kernel_rfl) (of_decide_eq_true (by kernel_rfl)) k1 bel lt1) (trodAll_cons_mk (Below.trod laidOut_TopFar (by kernel_rfl) (of_decide_eq_true (by kernel_rfl)) k2 bel lt2) (trodAll_cons_mk (shut_int Tryz.underlying3 w3) (trodAll_cons_mk (Below.trod laidOut_TopFar (by kernel_rfl) (of_decide_eq_true (by kernel_rfl)) k4 bel lt4) trodAll_mk0))))), rfl, bel.frame _, fun h => by cases h⟩
/-- The statement. -/
theorem topFar_holds : Rows.TopFarSaid :=
 OpenClaim.holds_of_wide 3 Tryz.f3 rfl rfl rfl rfl rfl rfl rfl ⟨rfl, rfl, rfl, rfl, rfl⟩ rfl rfl rfl rfl rfl (by kernel_rfl) Tryz.func3 (by kernel_rfl)
  (of_decide_eq_true (by kernel_rfl)) (by unfold Func.isWrapper; first | (rw [if_pos (by decide +kernel)]; kernel_rfl) | (rw [if_neg (by decide +kernel)]; exact ⟨rfl, rfl⟩))
  (fun os started H enc _ => lifted_TopFar os started H enc)
#print axioms topFar_holds
end Go.Proofs.YtlminileigfkcaaGreat
