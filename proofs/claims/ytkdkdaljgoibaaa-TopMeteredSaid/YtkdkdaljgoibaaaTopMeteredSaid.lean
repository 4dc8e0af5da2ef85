/-
  Proved: seawalltop.TopMetered answers true for any rate, burst, sites, nodes that are up and places, and leaves its arguments as they were. No condition.
-/
import Derived.Test.YtkdkdaljgoibaaaTopMetered
import Derived.Test.YtkdkdaljgoibaaaLift2
namespace Go.Proofs.Ytkdkdaljgoibaaa
open Go Go.RowKit Go.ChangeShapes Go.WideShapes Go.ChangeAt

theorem ints_in {H : Type} {enc : TypeId × Value → H} {W : World} {base : Nat} {v : Value} {d : DataW H} {ps : List MemPlace} (hv : Value.okWide Try.prog W .any base 22 v)
    (h : DataW.Trod enc Try.prog W 0 (fun _ => true) true 22 v d ps) : ∃ A l cap, v = .slice A (List.length l) cap ∧ RdL W intE A cap l ∧ (∀ z ∈ l, -9223372036854775808 ≤ z ∧ z ≤ 9223372036854775807) ∧ cap ≤ maxLen := by
  obtain ⟨fuel, x, h1, h⟩ := arg_slice Try.underlying22 hv h
  obtain ⟨A, l, cap, he, hR, hQ, hm⟩ := in_list (E := intE) (Q := fun z => -9223372036854775808 ≤ z ∧ z ≤ 9223372036854775807) Try.underlying22 (by kernel_rfl) (fun m cs x h => by
    obtain ⟨z, rfl, hz⟩ := in_i64 Try.underlying3 h
    exact ⟨z, rfl, hz⟩) h
  exact ⟨A, l, cap, by simpa using he, hR, hQ, hm⟩
section
variable {H : Type} {enc : TypeId × Value → H} {W : World} {base : Nat}
set_option maxRecDepth 10000 in
theorem places_in {v : Value} {d : DataW H} {ps : List MemPlace} (hv : Value.okWide Try.prog W .any base 24 v)
    (h : DataW.Trod enc Try.prog W 0 (fun _ => true) true 24 v d ps) : ∃ A l cap, v = .slice A (List.length l) cap ∧ RdL W placeE A cap l ∧ (∀ s ∈ l, RdL W intE s.A s.cap s.nodes ∧ s.cap ≤ maxLen) ∧ cap ≤ maxLen := by
  obtain ⟨fuel, x, h1, h⟩ := arg_slice Try.underlying24 hv h
  obtain ⟨A, l, cap, he, hR, hQ, hm⟩ := in_list (E := placeE) (Q := fun s => RdL W intE s.A s.cap s.nodes ∧ s.cap ≤ maxLen) Try.underlying24 (by kernel_rfl) (fun m cs x h => by
    obtain ⟨hl, m, hp⟩ := in_fields Try.underlying44 h
    have hl2 : cs.length = 2 := hl.trans (by kernel_rfl)
    match cs, hl2 with
    | [c0, c1], _ =>
      obtain ⟨y0, h0⟩ := hp 0 _ rfl
      obtain ⟨y1, h1⟩ := hp 1 _ rfl
      dsimp only at h0 h1
      obtain ⟨z, e0, hz⟩ := in_i64 Try.underlying3 h0
      obtain ⟨A, l, cap, e1, hr, _, hm⟩ := in_list (E := intE) (Q := fun _ => True) Try.underlying22 (by kernel_rfl) (fun m cs x h => by
        obtain ⟨z, e, hz⟩ := in_i64 Try.underlying3 h
        exact ⟨z, e, trivial⟩) h1
      rw [show Program.cellsOf Try.prog 3 = 1 by kernel_rfl] at e0
      rw [show Program.cellsOf Try.prog 22 = 1 by kernel_rfl] at e1
      obtain rfl : c0 = .int .i64 z := by simpa using e0
      obtain rfl : c1 = .slice A l.length cap := by simpa using e1
      exact ⟨⟨z, A, cap, l⟩, rfl, hr, hm⟩) h
  exact ⟨A, l, cap, by simpa using he, hR, hQ, hm⟩
end

theorem own_TopMetered : ownKnob Try.prog.godebug = none := by kernel_rfl
theorem laidOut_TopMetered : laidOutB Try.prog = true := by kernel_rfl
set_option maxRecDepth 100000 in
theorem lifted_TopMetered (os : Os) (started : os.Started) (H : Type) (enc : TypeId × Value → H) :
    ReturnsInHanded {} Try.checked os 3 .any (Rows.topMeteredSpec.pre6 enc Try.prog Try.f3 Rows.topMeteredRow.domain false) (Rows.topMeteredSpec.post enc Try.prog Try.f3 false true false false) := by
  refine returnsInHanded_of_change (C := Try.checked) own_TopMetered started (by kernel_rfl) Try.func3
    (ChangeSpec.witness6 (enc := enc) (C := Try.checked) false ⟨#[], #[.int .i64 0, .int .i64 0, .slice none 0 0, .int .u32 0, .slice none 0 0], []⟩ 8 (by kernel_rfl) (by kernel_rfl) (by kernel_rfl) (by kernel_rfl)) ?_
  intro W base args ds gs before hval0 hW hcnd _
  have hval : ∀ (j : Nat) t v, Try.f3.params[j]? = some t → args[j]? = some v → Value.okWide Try.prog W .any base t v := hval0
  have hW' := hW
  obtain ⟨p, q, hA0, hV, rfl, hfz, hnd⟩ := hW
  have hA : DataW.TrodAll enc Try.prog W 0 (fun _ => true) true Try.f3.params.toList args.toList ds p := hA0
  rw [Try.params3] at hA hval
  obtain ⟨v0, vs0, d0, ds0, p0, q0, hargs, rfl, rfl, h0, r0⟩ := trodAll_cons hA
  obtain ⟨v1, vs1, d1, ds1, p1, q1, rfl, rfl, rfl, h1, r1⟩ := trodAll_cons r0
  obtain ⟨v2, vs2, d2, ds2, p2, q2, rfl, rfl, rfl, h2, r2⟩ := trodAll_cons r1
  obtain ⟨v3, vs3, d3, ds3, p3, q3, rfl, rfl, rfl, h3, r3⟩ := trodAll_cons r2
  obtain ⟨v4, vs4, d4, ds4, p4, q4, rfl, rfl, rfl, h4, r4⟩ := trodAll_cons r3
  obtain ⟨rfl, rfl, rfl⟩ := trodAll_nil r4
  obtain rfl : args = #[v0, v1, v2, v3, v4] := by cases args; simp_all
  obtain ⟨rfl, rfl⟩ := trodVars_none hV
  obtain ⟨z0, rfl, rfl, rfl, w0⟩ := open_int Try.underlying3 (hval 0 3 v0 rfl rfl) h0
  have hz0 := bounds_i64 w0
  obtain ⟨z1, rfl, rfl, rfl, w1⟩ := open_int Try.underlying3 (hval 1 3 v1 rfl rfl) h1
  have hz1 := bounds_i64 w1
  have k2 := h2
  have lt2 : ∀ x ∈ p2, x.block < W.heap.size := by obtain ⟨m, hm⟩ := k2; exact DataW.trod_lt m _ _ _ hm
  obtain ⟨A2, l2, c2, rfl, hb2, hq2, hm2⟩ := ints_in (hval 2 22 v2 rfl rfl) h2
  obtain ⟨a3, rfl, rfl, rfl, w3⟩ := open_int Try.underlying23 (hval 3 23 v3 rfl rfl) h3
  obtain ⟨n3, rfl, hn3⟩ := wf_u32 w3
  have k4 := h4
  have lt4 : ∀ x ∈ p4, x.block < W.heap.size := by obtain ⟨m, hm⟩ := k4; exact DataW.trod_lt m _ _ _ hm
  obtain ⟨A4, l4, c4, rfl, hb4, hq4, hm4⟩ := places_in (hval 4 24 v4 rfl rfl) h4
  clear hA0 hval0
  refine Calls.mono (TopMetered_ok z0 z1 A2 c2 l2 n3 hn3 A4 c4 l4 (by have := hb2.le; have := hm2; unfold maxLen at this; omega) (by have := hb4.le; have := hm4; unfold maxLen at this; omega) (fun p hp => by have h1 := (hq4 p hp).1.le; have h2 := (hq4 p hp).2; unfold maxLen at h2; omega) W hb2 ⟨hb4, fun p hp => (hq4 p hp).1⟩) fun e W' ⟨v, he, hv, m⟩ => ?_
  have bel := m.base.below
  subst hv
  subst he
  exact ⟨_, rfl, _, _, _, [], _, [], hW', trodAll_mk1 (shut_bool Try.underlying4 _), (trodAll_cons_mk (shut_int Try.underlying3 w0) (trodAll_cons_mk (shut_int Try.underlying3 w1) (trodAll_cons_mk (Below.trod laidOut_TopMetered (by kernel_rfl) (of_decide_eq_true (by kernel_rfl)) k2 bel lt2) (trodAll_cons_mk (shut_int Try.underlying23 w3) (trodAll_cons_mk (Below.trod laidOut_TopMetered (by kernel_rfl) (of_decide_eq_true (by kernel_rfl)) k4 bel lt4) trodAll_mk0))))), rfl, bel.frame _, fun h => by cases h⟩

/-- The statement. -/
theorem topMetered_holds : Rows.TopMeteredSaid :=
  OpenClaim.holds_of_wide 3 Try.f3 rfl rfl rfl rfl rfl rfl rfl ⟨rfl, rfl, rfl, rfl, rfl⟩ rfl rfl rfl rfl rfl (by kernel_rfl) Try.func3 (by kernel_rfl)
    (of_decide_eq_true (by kernel_rfl)) (by unfold Func.isWrapper; first | (rw [if_pos (by decide +kernel)]; kernel_rfl) | (rw [if_neg (by decide +kernel)]; exact ⟨rfl, rfl⟩))
    (fun os started H enc _ => lifted_TopMetered os started H enc)
#print axioms topMetered_holds
end Go.Proofs.Ytkdkdaljgoibaaa
