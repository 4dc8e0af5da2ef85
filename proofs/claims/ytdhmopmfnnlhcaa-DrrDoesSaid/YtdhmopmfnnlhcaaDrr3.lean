/-
  Walks: begin, Push (drr).
-/
import Derived.Test.YtdhmopmfnnlhcaaDrr2
namespace Go.Proofs.Ytdhmopmfnnlhcaa
open Go Go.RowKit

theorem begin_ok (g : Nat) (Af : Option Addr) (cf : Nat) (fw : List FwX) (Ar : Option Addr) (cr : Nat) (k : Nat) (r : List Nat) (on : Bool) (n : Int) (hl : fw.length ≤ 100) (hk : k < fw.length) (h1 : 0 ≤ (el fw k).credit ∧ (el fw k).credit ≤ 200000) (h2 : 1 ≤ (el fw k).share ∧ (el fw k).share ≤ 100000)
    (w0 w : World) (L : List Asr) (M : Mem w0 w (SdX.L ⟨g, Af, cf, fw, Ar, cr, k :: r, on, n⟩ ++ L)) :
    Fn Try.prog 26 [.pointer (some ⟨g, 0, none⟩)] w fun _ w' => Mem w0 w' (SdX.L ⟨g, Af, cf, fw.set k { el fw k with credit := (el fw k).credit + (el fw k).share }, Ar, cr, k :: r, true, n⟩ ++ L) := by
  unfold SdX.L SdX.row at M
  simp only [List.cons_append, List.nil_append] at M
  dsimp only at M ⊢
  have hel : el (ints (k :: r)) 0 = (k : Int) := rfl
  have hr0 : 0 < (ints (k :: r)).length := by simp
  have hr1 : 0 < (List.map (fun k : Nat => (k : Int)) (k :: r)).length := by simp
  have hst : (fw.set k { el fw k with credit := (el fw k).credit + (el fw k).share }).map FwX.O = fw.map FwX.O := by
    rw [List.map_set]
    apply List.ext_getElem?
    intro i
    rw [List.getElem?_set]
    split
    · rename_i e
      subst e
      rw [if_pos (by simpa using hk), List.getElem?_map, el_get hk]
      rfl
    · rfl
  refine Fn.enter Try.func26 rfl Try.ntmps26 rfl ?_
  refine W.sub [(0, _)] (.cons rfl .nil) ?_
  refine W.seq ?_
  refine W.drawM (_) (by kernel_rfl) (fun j => [3, 7, 8, 9].contains j) M Sel.refl ?_
  clear M; intro M
  apply DG.pure_ [0, 1, 2, 4, 5, 6] 6 rfl (by kernel_rfl) (by kernel_rfl)
  · intro w
    refine WL.move rfl rfl ?_
    refine WL.nilCheck rfl rfl ?_
    refine WL.fieldR (off := 0) Try.underlying59 rfl rfl Try.sizeOf57 rfl rfl rfl ?_
    refine WL.move rfl rfl ?_
    refine WL.nilCheck rfl rfl ?_
    refine WL.fieldR (off := 1) Try.underlying59 rfl rfl Try.sizeOf22 rfl rfl rfl ?_
    exact Chain.end_ rfl
  apply DG.take [3, 7, 8, 9, 10, 11] 0 rfl (by kernel_rfl) (by kernel_rfl) (M.sel (by first | ((repeat (first | with_reducible exact Sel.refl | with_reducible exact Sel.nil | with_reducible exact Del.here | with_reducible apply Del.there | with_reducible apply Sel.cons | with_reducible apply Sel.drop)); done) | (repeat (first | exact Sel.refl | exact Sel.nil | exact Del.here | apply Del.there | apply Sel.cons | apply Sel.drop))))
  · intro w M
    refine WL.loadR Try.isAgg57 rfl M (by first | ((repeat (first | with_reducible exact Has.here | with_reducible refine Has.there ?_)); done) | (repeat (first | exact Has.here | refine Has.there ?_))) rfl rfl ?_
    refine WL.loadR Try.isAgg22 rfl M (by first | ((repeat (first | with_reducible exact Has.here | with_reducible refine Has.there ?_)); done) | (repeat (first | exact Has.here | refine Has.there ?_))) rfl rfl ?_
    refine WL.idxA (jn := 0) Try.underlying22 Try.sizeOf3 rfl rfl (RdL.isSome (E := intE) (by first | with_reducible assumption | with_reducible exact RdL.mem (by with_reducible assumption) M | exact M.rdL (by first | ((repeat (first | with_reducible exact Has.here | with_reducible refine Has.there ?_)); done) | (repeat (first | exact Has.here | refine Has.there ?_))) | exact RdLH.at (by assumption) (M.sel (by first | ((repeat (first | with_reducible exact Sel.refl | with_reducible exact Sel.nil | with_reducible exact Del.here | with_reducible apply Del.there | with_reducible apply Sel.cons | with_reducible apply Sel.drop)); done) | (repeat (first | exact Sel.refl | exact Sel.nil | exact Del.here | apply Del.there | apply Sel.cons | apply Sel.drop)))) | exact RdL.nil _ _ _) (by omega)) (by omega) (by omega) (by first | exact rfl | exact (Int.toNat_of_nonneg (by omega)).symm) rfl ?_
    refine WL.loadE0 (E := intE) Try.isAgg3 rfl (by first | with_reducible assumption | with_reducible exact RdL.mem (by with_reducible assumption) M | exact M.rdL (by first | ((repeat (first | with_reducible exact Has.here | with_reducible refine Has.there ?_)); done) | (repeat (first | exact Has.here | refine Has.there ?_))) | exact RdLH.at (by assumption) (M.sel (by first | ((repeat (first | with_reducible exact Sel.refl | with_reducible exact Sel.nil | with_reducible exact Del.here | with_reducible apply Del.there | with_reducible apply Sel.cons | with_reducible apply Sel.drop)); done) | (repeat (first | exact Sel.refl | exact Sel.nil | exact Del.here | apply Del.there | apply Sel.cons | apply Sel.drop)))) | exact RdL.nil _ _ _) (by omega) rfl rfl ?_
    refine WL.idxA Try.underlying57 Try.sizeOf62 rfl rfl (RdL.isSome (E := flowE) (by first | with_reducible assumption | with_reducible exact RdL.mem (by with_reducible assumption) M | exact M.rdL (by first | ((repeat (first | with_reducible exact Has.here | with_reducible refine Has.there ?_)); done) | (repeat (first | exact Has.here | refine Has.there ?_))) | exact RdLH.at (by assumption) (M.sel (by first | ((repeat (first | with_reducible exact Sel.refl | with_reducible exact Sel.nil | with_reducible exact Del.here | with_reducible apply Del.there | with_reducible apply Sel.cons | with_reducible apply Sel.drop)); done) | (repeat (first | exact Sel.refl | exact Sel.nil | exact Del.here | apply Del.there | apply Sel.cons | apply Sel.drop)))) | exact RdL.nil _ _ _) (by omega)) (by omega) (by omega) (by first | exact rfl | exact (Int.toNat_of_nonneg (by omega)).symm) rfl ?_
    refine WL.assign rfl rfl ?_
    exact Chain.end_ rfl
  refine DG.end_ (by kernel_rfl) ?_
  refine WX.next ?_
  refine W.sub [(0, _), (2, _)] (.cons rfl (.cons rfl .nil)) ?_
  refine W.seq ?_
  refine W.drawM (_) (by kernel_rfl) (fun j => [3, 7].contains j) M Sel.refl ?_
  clear M; intro M
  apply DG.pure_ [0, 1, 2, 4, 5, 6] 6 rfl (by kernel_rfl) (by kernel_rfl)
  · intro w
    refine WL.move rfl rfl ?_
    refine WL.nilCheck rfl rfl ?_
    refine WL.fieldA (off := 1) Try.underlying62 rfl rfl Try.sizeOf3 rfl rfl rfl ?_
    refine WL.move rfl rfl ?_
    refine WL.nilCheck rfl rfl ?_
    refine WL.fieldA (off := 0) Try.underlying62 rfl rfl Try.sizeOf3 rfl rfl rfl ?_
    exact Chain.end_ rfl
  apply DG.take [3, 7, 8, 9, 10] 1 rfl (by kernel_rfl) (by kernel_rfl) (M.sel (by first | ((repeat (first | with_reducible exact Sel.refl | with_reducible exact Sel.nil | with_reducible exact Del.here | with_reducible apply Del.there | with_reducible apply Sel.cons | with_reducible apply Sel.drop)); done) | (repeat (first | exact Sel.refl | exact Sel.nil | exact Del.here | apply Del.there | apply Sel.cons | apply Sel.drop))))
  · intro w M
    refine WL.loadE (E := flowE) Try.isAgg3 rfl (by first | with_reducible assumption | with_reducible exact RdL.mem (by with_reducible assumption) M | exact M.rdL (by first | ((repeat (first | with_reducible exact Has.here | with_reducible refine Has.there ?_)); done) | (repeat (first | exact Has.here | refine Has.there ?_))) | exact RdLH.at (by assumption) (M.sel (by first | ((repeat (first | with_reducible exact Sel.refl | with_reducible exact Sel.nil | with_reducible exact Del.here | with_reducible apply Del.there | with_reducible apply Sel.cons | with_reducible apply Sel.drop)); done) | (repeat (first | exact Sel.refl | exact Sel.nil | exact Del.here | apply Del.there | apply Sel.cons | apply Sel.drop)))) | exact RdL.nil _ _ _) (by omega) rfl rfl ?_
    refine WL.loadE (E := flowE) Try.isAgg3 rfl (by first | with_reducible assumption | with_reducible exact RdL.mem (by with_reducible assumption) M | exact M.rdL (by first | ((repeat (first | with_reducible exact Has.here | with_reducible refine Has.there ?_)); done) | (repeat (first | exact Has.here | refine Has.there ?_))) | exact RdLH.at (by assumption) (M.sel (by first | ((repeat (first | with_reducible exact Sel.refl | with_reducible exact Sel.nil | with_reducible exact Del.here | with_reducible apply Del.there | with_reducible apply Sel.cons | with_reducible apply Sel.drop)); done) | (repeat (first | exact Sel.refl | exact Sel.nil | exact Del.here | apply Del.there | apply Sel.cons | apply Sel.drop)))) | exact RdL.nil _ _ _) (by omega) rfl rfl ?_
    refine WL.add rfl rfl (by first | exact wI64 (by omega) | rfl) rfl ?_
    refine WL.nilCheck rfl rfl ?_
    refine WL.fieldA (off := 1) Try.underlying62 rfl rfl Try.sizeOf3 rfl rfl rfl ?_
    exact Chain.end_ rfl
  refine DG.step 11 0 rfl (by kernel_rfl) ?_
  refine WL.storeE (E := flowE) (x' := { el fw k with credit := (el fw k).credit + (el fw k).share }) Try.sizeOf3 rfl rfl rfl M (by first | ((repeat (first | with_reducible exact Has.here | with_reducible refine Has.there ?_)); done) | (repeat (first | exact Has.here | refine Has.there ?_))) (by omega) (by repeat (first | exact SetAt.zero | apply SetAt.succ)) (by first | ((repeat (first | with_reducible exact Upd.here | with_reducible apply Upd.there)); done) | (repeat (first | exact Upd.here | apply Upd.there))) ?_
  intro w M
  refine DG.go (G := fun j => [3, 7].contains j) (i := 11) (f' := 0) (done := [0, 1, 2, 4, 5, 6, 3, 7, 8, 9, 10]) (fun h => by cases h) ?_
  refine DG.end_ (by kernel_rfl) ?_
  refine WX.next ?_
  refine W.sub [(0, _)] (.cons rfl .nil) ?_
  refine W.region ?_
  refine WL.move rfl rfl ?_
  refine WL.nilCheck rfl rfl ?_
  refine WL.fieldR (off := 2) Try.underlying59 rfl rfl Try.sizeOf4 rfl rfl rfl ?_
  refine WL.storeR Try.sizeOf4 rfl rfl rfl M (by first | ((repeat (first | with_reducible exact Has.here | with_reducible refine Has.there ?_)); done) | (repeat (first | exact Has.here | refine Has.there ?_))) (by repeat (first | exact SetAt.zero | apply SetAt.succ)) (by first | ((repeat (first | with_reducible exact Upd.here | with_reducible apply Upd.there)); done) | (repeat (first | exact Upd.here | apply Upd.there))) ?_
  intro w M
  refine WL.nil ?_
  refine WX.end0 rfl ?_
  unfold SdX.L SdX.row
  dsimp only
  rw [hst, List.length_set]
  exact M.sel (by first | ((repeat (first | with_reducible exact Sel.refl | with_reducible exact Sel.nil | with_reducible exact Del.here | with_reducible apply Del.there | with_reducible apply Sel.cons | with_reducible apply Sel.drop)); done) | (repeat (first | exact Sel.refl | exact Sel.nil | exact Del.here | apply Del.there | apply Sel.cons | apply Sel.drop)))

theorem pushE_bad {s : Sd} {j : JX} (h : ¬ (0 ≤ j.flow ∧ j.flow < (s.fl.length : Int)) ∨ j.cost < 1 ∨ j.cost > 100000) : pushE s j = 2 := by
  unfold pushE
  rw [if_pos (by omega)]
theorem pushS_no {s : Sd} {j : JX} (h : pushE s j ≠ 0) : pushS s j = s := by
  unfold pushS
  rw [if_neg h]
theorem mem_ints {k : Nat} {l : List Nat} : (k : Int) ∈ ints l ↔ k ∈ l := by
  unfold ints
  rw [List.mem_map]
  constructor
  · rintro ⟨a, h, e⟩
    obtain rfl : a = k := by omega
    exact h
  · intro h
    exact ⟨k, h, rfl⟩
theorem key_set (fw : List FwX) (k : Nat) (x : FwX) : (fw.set k x).map FwX.key = (fw.map FwX.key).set k x.key := List.map_set
theorem el_key (fw : List FwX) (k : Nat) (hk : k < fw.length) : el (fw.map FwX.key) k = (el fw k).key := by simp [el, hk]

theorem nodup_lt' : ∀ (N : Nat) (l : List Nat), l.Nodup → (∀ x ∈ l, x < N) → l.length ≤ N
  | 0, l, _, h => by
    cases l with
    | nil => exact Nat.le_refl _
    | cons x l => exact absurd (h x (by simp)) (by omega)
  | N + 1, l, hn, h => by
    have h1 := nodup_lt' N (l.erase N) (hn.erase N) (fun x hx => by
      have h2 := (hn.mem_erase_iff).1 hx
      have h3 := h x h2.2
      have h4 := h2.1
      omega)
    by_cases hm : N ∈ l
    · rw [List.length_erase_of_mem hm] at h1
      omega
    · rw [List.erase_of_not_mem hm] at h1
      omega

set_option maxHeartbeats 1000000 in
theorem Push_ok (x : SdX) (hok : Ok x.s) (hn : x.n = (nJ x.s.fl : Int)) (j : JX) (w0 w : World) (L : List Asr) (M : Mem w0 w (x.L ++ L)) :
    Fn Try.prog 12 [.pointer (some ⟨x.g, 0, none⟩), j.v] w fun v w' => ∃ x' : SdX, v = .int .i64 (pushE x.s j) ∧ x.g = x'.g ∧ x'.s = pushS x.s j ∧ x'.n = (nJ x'.s.fl : Int) ∧ Mem w0 w' (x'.L ++ L) := by
  have M1 := M
  obtain ⟨g, Af, cf, fw, Ar, cr, round, on, n⟩ := x
  obtain ⟨jf, jc, ji⟩ := j
  have hlen := hok.len
  have htot := hok.total
  have hfl : (SdX.s ⟨g, Af, cf, fw, Ar, cr, round, on, n⟩).fl.length = fw.length := by simp [SdX.s]
  rw [hfl] at hlen
  unfold SdX.L SdX.row at M
  simp only [List.cons_append, List.nil_append] at M
  unfold JX.v
  dsimp only at hn htot M ⊢
  have bad : ∀ e : Int, e ≠ 0 → pushE (SdX.s ⟨g, Af, cf, fw, Ar, cr, round, on, n⟩) ⟨jf, jc, ji⟩ = e → ∀ w', Mem w0 w' (SdX.L ⟨g, Af, cf, fw, Ar, cr, round, on, n⟩ ++ L) → ∃ x' : SdX, Value.int .i64 e = .int .i64 (pushE (SdX.s ⟨g, Af, cf, fw, Ar, cr, round, on, n⟩) ⟨jf, jc, ji⟩) ∧ g = x'.g ∧ x'.s = pushS (SdX.s ⟨g, Af, cf, fw, Ar, cr, round, on, n⟩) ⟨jf, jc, ji⟩ ∧ x'.n = (nJ x'.s.fl : Int) ∧ Mem w0 w' (x'.L ++ L) := by
    intro e he hp w' M'
    exact ⟨⟨g, Af, cf, fw, Ar, cr, round, on, n⟩, by rw [hp], rfl, (pushS_no (by rw [hp]; exact he)).symm, hn, M'⟩
  refine Fn.enter Try.func12 rfl Try.ntmps12 rfl ?_
  refine W.sub [(0, _), (1, _)] (.cons rfl (.cons rfl .nil)) ?_
  refine W.seq ?_
  refine W.region ?_
  refine WL.box rfl M rfl ?_
  intro g0_0 w M
  try simp only [Value.cells] at M
  try simp only [List.toList_toArray] at M
  refine WL.assign rfl rfl ?_
  refine WL.nil ?_
  refine WX.next ?_
  refine W.sub [(0, _), (3, _)] (.cons rfl (.cons rfl .nil)) ?_
  refine W.seq ?_
  refine W.block ?_
  refine W.seq ?_
  refine W.region ?_
  refine WL.move rfl rfl ?_
  refine WL.eqNilF Try.underlying24 rfl rfl rfl ?_
  refine WL.assign rfl rfl ?_
  refine WL.nil ?_
  refine WX.next ?_
  refine W.sub [(0, _), (3, _), (6, _)] (.cons rfl (.cons rfl (.cons rfl .nil))) ?_
  refine W.condF rfl ?_
  refine W.seq ?_
  refine W.region ?_
  refine WL.move rfl rfl ?_
  refine WL.fieldR (off := 0) Try.underlying31 rfl rfl Try.sizeOf3 rfl rfl rfl ?_
  refine WL.loadR Try.isAgg3 rfl M (by first | ((repeat (first | with_reducible exact Has.here | with_reducible refine Has.there ?_)); done) | (repeat (first | exact Has.here | refine Has.there ?_))) rfl rfl ?_
  refine WL.call Try.call24 rfl (is_ok ⟨g, Af, cf, fw, Ar, cr, round, on, n⟩ (by dsimp only; omega) jf w0 _ _ (M.sel (K := SdX.L ⟨g, Af, cf, fw, Ar, cr, round, on, n⟩ ++ L) (by first | ((repeat (first | with_reducible exact Sel.refl | with_reducible exact Sel.nil | with_reducible exact Del.here | with_reducible apply Del.there | with_reducible apply Sel.cons | with_reducible apply Sel.drop)); done) | (repeat (first | exact Sel.refl | exact Sel.nil | exact Del.here | apply Del.there | apply Sel.cons | apply Sel.drop))))) rfl ?_
  rintro _ _ ⟨rfl, rfl⟩
  dsimp only
  refine WL.not rfl rfl ?_
  refine WL.moveIfB rfl rfl (fun c1 => ?_) (fun c1 => ?_)
  · have c1' : ¬ (0 ≤ jf ∧ jf < (fw.length : Int)) := fun h => by simp [h.1, h.2] at c1
    refine WL.off rfl rfl rfl rfl ?_
    refine WL.off rfl rfl rfl rfl ?_
    refine WL.off rfl rfl rfl rfl ?_
    refine WL.pickT rfl rfl rfl ?_
    refine WL.move rfl rfl ?_
    refine WL.off rfl rfl rfl rfl ?_
    refine WL.off rfl rfl rfl rfl ?_
    refine WL.off rfl rfl rfl rfl ?_
    refine WL.pickT rfl rfl rfl ?_
    refine WL.assign rfl rfl ?_
    refine WL.nil ?_
    refine WX.next ?_
    refine W.sub [(0, _), (3, _), (9, _)] (.cons rfl (.cons rfl (.cons rfl .nil))) ?_
    refine W.condT rfl ?_
    refine W.seq ?_
    refine W.region ?_
    refine WL.assign rfl rfl ?_
    refine WL.nil ?_
    refine WX.next ?_
    refine W.sub [(4, _)] (.cons rfl .nil) ?_
    refine W.ret ?_
    refine WX.blockRet ?_
    refine WX.thenRet ?_
    refine WX.ret1 rfl rfl ?_
    exact bad 2 (by decide) (pushE_bad (by rw [hfl]; dsimp only; omega)) _ (M.sel (by first | ((repeat (first | with_reducible exact Sel.refl | with_reducible exact Sel.nil | with_reducible exact Del.here | with_reducible apply Del.there | with_reducible apply Sel.cons | with_reducible apply Sel.drop)); done) | (repeat (first | exact Sel.refl | exact Sel.nil | exact Del.here | apply Del.there | apply Sel.cons | apply Sel.drop))))
  · refine WL.on rfl rfl ?_
    refine WL.fieldR (off := 1) Try.underlying31 rfl rfl Try.sizeOf3 rfl rfl rfl ?_
    refine WL.on rfl rfl ?_
    refine WL.loadR Try.isAgg3 rfl M (by first | ((repeat (first | with_reducible exact Has.here | with_reducible refine Has.there ?_)); done) | (repeat (first | exact Has.here | refine Has.there ?_))) rfl rfl ?_
    refine WL.on rfl rfl ?_
    refine WL.lss rfl rfl rfl ?_
    refine WL.pickF rfl rfl rfl ?_
    refine WL.moveIf rfl rfl (fun c2 => ?_) (fun c2 => ?_)
    · refine WL.off rfl rfl rfl rfl ?_
      refine WL.off rfl rfl rfl rfl ?_
      refine WL.off rfl rfl rfl rfl ?_
      refine WL.pickT rfl rfl rfl ?_
      refine WL.assign rfl rfl ?_
      refine WL.nil ?_
      refine WX.next ?_
      refine W.sub [(0, _), (3, _), (9, _)] (.cons rfl (.cons rfl (.cons rfl .nil))) ?_
      refine W.condT rfl ?_
      refine W.seq ?_
      refine W.region ?_
      refine WL.assign rfl rfl ?_
      refine WL.nil ?_
      refine WX.next ?_
      refine W.sub [(4, _)] (.cons rfl .nil) ?_
      refine W.ret ?_
      refine WX.blockRet ?_
      refine WX.thenRet ?_
      refine WX.ret1 rfl rfl ?_
      exact bad 2 (by decide) (pushE_bad (by rw [hfl]; dsimp only; omega)) _ (M.sel (by first | ((repeat (first | with_reducible exact Sel.refl | with_reducible exact Sel.nil | with_reducible exact Del.here | with_reducible apply Del.there | with_reducible apply Sel.cons | with_reducible apply Sel.drop)); done) | (repeat (first | exact Sel.refl | exact Sel.nil | exact Del.here | apply Del.there | apply Sel.cons | apply Sel.drop))))
    · refine WL.on rfl rfl ?_
      refine WL.fieldR (off := 1) Try.underlying31 rfl rfl Try.sizeOf3 rfl rfl rfl ?_
      refine WL.on rfl rfl ?_
      refine WL.loadR Try.isAgg3 rfl M (by first | ((repeat (first | with_reducible exact Has.here | with_reducible refine Has.there ?_)); done) | (repeat (first | exact Has.here | refine Has.there ?_))) rfl rfl ?_
      refine WL.on rfl rfl ?_
      refine WL.gtr rfl rfl rfl ?_
      refine WL.pickF rfl rfl rfl ?_
      refine WL.assign rfl rfl ?_
      refine WL.nil ?_
      refine WX.next ?_
      refine W.sub [(0, _), (3, _), (9, _)] (.cons rfl (.cons rfl (.cons rfl .nil))) ?_
      refine W.ite rfl (fun c3 => ?_) (fun c3 => ?_)
      · refine W.seq ?_
        refine W.region ?_
        refine WL.assign rfl rfl ?_
        refine WL.nil ?_
        refine WX.next ?_
        refine W.sub [(4, _)] (.cons rfl .nil) ?_
        refine W.ret ?_
        refine WX.blockRet ?_
        refine WX.thenRet ?_
        refine WX.ret1 rfl rfl ?_
        exact bad 2 (by decide) (pushE_bad (by rw [hfl]; dsimp only; omega)) _ (M.sel (by first | ((repeat (first | with_reducible exact Sel.refl | with_reducible exact Sel.nil | with_reducible exact Del.here | with_reducible apply Del.there | with_reducible apply Sel.cons | with_reducible apply Sel.drop)); done) | (repeat (first | exact Sel.refl | exact Sel.nil | exact Del.here | apply Del.there | apply Sel.cons | apply Sel.drop))))
      · obtain ⟨k, rfl⟩ : ∃ k : Nat, jf = (k : Int) := ⟨jf.toNat, by simp at c1; omega⟩
        have hk : k < fw.length := by simp at c1; omega
        refine W.seq ?_
        refine W.region ?_
        refine WL.move rfl rfl ?_
        refine WL.nilCheck rfl rfl ?_
        refine WL.fieldR (off := 3) Try.underlying59 rfl rfl Try.sizeOf3 rfl rfl rfl ?_
        refine WL.loadR Try.isAgg3 rfl M (by first | ((repeat (first | with_reducible exact Has.here | with_reducible refine Has.there ?_)); done) | (repeat (first | exact Has.here | refine Has.there ?_))) rfl rfl ?_
        refine WL.geq rfl rfl rfl ?_
        refine WL.assign rfl rfl ?_
        refine WL.nil ?_
        refine WX.next ?_
        refine W.sub [(0, _), (3, _), (25, _)] (.cons rfl (.cons rfl (.cons rfl .nil))) ?_
        refine W.ite rfl (fun c4 => ?_) (fun c4 => ?_)
        · refine W.seq ?_
          refine W.region ?_
          refine WL.assign rfl rfl ?_
          refine WL.nil ?_
          refine WX.next ?_
          refine W.sub [(4, _)] (.cons rfl .nil) ?_
          refine W.ret ?_
          refine WX.blockRet ?_
          refine WX.thenRet ?_
          refine WX.ret1 rfl rfl ?_
          exact bad 5 (by decide) (by unfold pushE; rw [hfl, if_neg (by dsimp only; omega), if_pos (by omega)]) _ (M.sel (by first | ((repeat (first | with_reducible exact Sel.refl | with_reducible exact Sel.nil | with_reducible exact Del.here | with_reducible apply Del.there | with_reducible apply Sel.cons | with_reducible apply Sel.drop)); done) | (repeat (first | exact Sel.refl | exact Sel.nil | exact Del.here | apply Del.there | apply Sel.cons | apply Sel.drop))))
        · refine W.skip ?_
          refine WX.blockNormal ?_
          refine WX.next ?_
          refine W.seq ?_
          refine W.drawM (_) (by kernel_rfl) (fun j => [3, 5].contains j) M Sel.refl ?_
          clear M; intro M
          apply DG.pure_ [0, 1, 2, 4] 4 rfl (by kernel_rfl) (by kernel_rfl)
          · intro w
            refine WL.move rfl rfl ?_
            refine WL.nilCheck rfl rfl ?_
            refine WL.fieldR (off := 0) Try.underlying59 rfl rfl Try.sizeOf57 rfl rfl rfl ?_
            refine WL.fieldR (off := 0) Try.underlying31 rfl rfl Try.sizeOf3 rfl rfl rfl ?_
            exact Chain.end_ rfl
          apply DG.take [3, 5, 6, 7] 0 rfl (by kernel_rfl) (by kernel_rfl) (M.sel (by first | ((repeat (first | with_reducible exact Sel.refl | with_reducible exact Sel.nil | with_reducible exact Del.here | with_reducible apply Del.there | with_reducible apply Sel.cons | with_reducible apply Sel.drop)); done) | (repeat (first | exact Sel.refl | exact Sel.nil | exact Del.here | apply Del.there | apply Sel.cons | apply Sel.drop))))
          · intro w M
            refine WL.loadR Try.isAgg57 rfl M (by first | ((repeat (first | with_reducible exact Has.here | with_reducible refine Has.there ?_)); done) | (repeat (first | exact Has.here | refine Has.there ?_))) rfl rfl ?_
            refine WL.loadR Try.isAgg3 rfl M (by first | ((repeat (first | with_reducible exact Has.here | with_reducible refine Has.there ?_)); done) | (repeat (first | exact Has.here | refine Has.there ?_))) rfl rfl ?_
            refine WL.idxA Try.underlying57 Try.sizeOf62 rfl rfl (RdL.isSome (E := flowE) (by first | with_reducible assumption | with_reducible exact RdL.mem (by with_reducible assumption) M | exact M.rdL (by first | ((repeat (first | with_reducible exact Has.here | with_reducible refine Has.there ?_)); done) | (repeat (first | exact Has.here | refine Has.there ?_))) | exact RdLH.at (by assumption) (M.sel (by first | ((repeat (first | with_reducible exact Sel.refl | with_reducible exact Sel.nil | with_reducible exact Del.here | with_reducible apply Del.there | with_reducible apply Sel.cons | with_reducible apply Sel.drop)); done) | (repeat (first | exact Sel.refl | exact Sel.nil | exact Del.here | apply Del.there | apply Sel.cons | apply Sel.drop)))) | exact RdL.nil _ _ _) (by omega)) (by omega) (by omega) (by first | exact rfl | exact (Int.toNat_of_nonneg (by omega)).symm) rfl ?_
            refine WL.assign rfl rfl ?_
            exact Chain.end_ rfl
          refine DG.end_ (by kernel_rfl) ?_
          refine WX.next ?_
          refine W.sub [(0, _), (3, _), (5, _)] (.cons rfl (.cons rfl (.cons rfl .nil))) ?_
          refine W.seq ?_
          have M2 := Mem.starAt (f := FwX.O) (M.sel (K := Asr.star (fw.map FwX.O) :: Asr.row g 59 [.slice Af fw.length cf, .slice Ar (ints round).length cr, .bool on, .int .i64 n] :: Asr.lst flowE Af cf fw :: Asr.lst intE Ar cr (ints round) :: Asr.row g0_0 31 [.int .i64 (k : Int), .int .i64 jc, .int .u64 (ji : Int)] :: L) (by first | ((repeat (first | with_reducible exact Sel.refl | with_reducible exact Sel.nil | with_reducible exact Del.here | with_reducible apply Del.there | with_reducible apply Sel.cons | with_reducible apply Sel.drop)); done) | (repeat (first | exact Sel.refl | exact Sel.nil | exact Del.here | apply Del.there | apply Sel.cons | apply Sel.drop)))) k hk
          unfold FwX.O at M2
          replace M := M2
          have hjl : (el fw k).jobs.length ≤ 1024 := by
            have h := sum_pos ((fw.map FwX.key).map fun f => f.jobs.length) (el fw k).jobs.length (List.mem_map.2 ⟨(el fw k).key, List.mem_map.2 ⟨_, el_mem hk, rfl⟩, rfl⟩)
            exact Nat.le_trans h htot
          refine W.drawM ([Asr.lst flowE Af cf fw, Asr.row g0_0 31 [.int .i64 (k : Int), .int .i64 jc, .int .u64 (ji : Int)]]) (by kernel_rfl) (fun j => [4, 5, 6].contains j) M (by first | ((repeat (first | with_reducible exact Sel.refl | with_reducible exact Sel.nil | with_reducible exact Del.here | with_reducible apply Del.there | with_reducible apply Sel.cons | with_reducible apply Sel.drop)); done) | (repeat (first | exact Sel.refl | exact Sel.nil | exact Del.here | apply Del.there | apply Sel.cons | apply Sel.drop))) ?_
          clear M; intro M
          apply DG.pure_ [0, 1, 2, 3] 7 rfl (by kernel_rfl) (by kernel_rfl)
          · intro w
            refine WL.move rfl rfl ?_
            refine WL.move rfl rfl ?_
            refine WL.nilCheck rfl rfl ?_
            refine WL.fieldA (off := 2) Try.underlying62 rfl rfl Try.sizeOf27 rfl rfl rfl ?_
            exact Chain.end_ rfl
          apply DG.take [4, 5] 5 rfl (by kernel_rfl) (by kernel_rfl) (M.sel (by first | ((repeat (first | with_reducible exact Sel.refl | with_reducible exact Sel.nil | with_reducible exact Del.here | with_reducible apply Del.there | with_reducible apply Sel.cons | with_reducible apply Sel.drop)); done) | (repeat (first | exact Sel.refl | exact Sel.nil | exact Del.here | apply Del.there | apply Sel.cons | apply Sel.drop))))
          · intro w M
            refine WL.loadE (E := flowE) Try.isAgg27 rfl (by first | with_reducible assumption | with_reducible exact RdL.mem (by with_reducible assumption) M | exact M.rdL (by first | ((repeat (first | with_reducible exact Has.here | with_reducible refine Has.there ?_)); done) | (repeat (first | exact Has.here | refine Has.there ?_))) | exact RdLH.at (by assumption) (M.sel (by first | ((repeat (first | with_reducible exact Sel.refl | with_reducible exact Sel.nil | with_reducible exact Del.here | with_reducible apply Del.there | with_reducible apply Sel.cons | with_reducible apply Sel.drop)); done) | (repeat (first | exact Sel.refl | exact Sel.nil | exact Del.here | apply Del.there | apply Sel.cons | apply Sel.drop)))) | exact RdL.nil _ _ _) (by omega) rfl rfl ?_
            refine WL.loadW Try.isAgg31 Try.sizeOf31 rfl M (by first | ((repeat (first | with_reducible exact Has.here | with_reducible refine Has.there ?_)); done) | (repeat (first | exact Has.here | refine Has.there ?_))) rfl rfl ?_
            exact Chain.end_ rfl
          refine DG.step 6 4 rfl (by kernel_rfl) ?_
          refine WL.buildL (E := jobE) (l := [⟨(k : Int), jc, ji⟩]) Try.elem31 M rfl rfl rfl rfl rfl rfl ?_
          intro g8_6 w M
          refine DG.go (G := fun j => [4, 5, 6].contains j) (i := 6) (f' := 4) (done := [0, 1, 2, 3, 4, 5]) (fun _ => M.sel (by first | ((repeat (first | with_reducible exact Sel.refl | with_reducible exact Sel.nil | with_reducible exact Del.here | with_reducible apply Del.there | with_reducible apply Sel.cons | with_reducible apply Sel.drop)); done) | (repeat (first | exact Sel.refl | exact Sel.nil | exact Del.here | apply Del.there | apply Sel.cons | apply Sel.drop)))) ?_
          refine DG.step 7 3 rfl (by kernel_rfl) ?_
          refine WL.appendL (E := jobE) Try.elem31 rfl rfl M (by first | ((repeat (first | with_reducible exact Del.here | with_reducible apply Del.there)); done) | (repeat (first | exact Del.here | apply Del.there))) (by first | with_reducible assumption | with_reducible exact RdL.mem (by with_reducible assumption) M | exact M.rdL (by first | ((repeat (first | with_reducible exact Has.here | with_reducible refine Has.there ?_)); done) | (repeat (first | exact Has.here | refine Has.there ?_))) | exact RdLH.at (by assumption) (M.sel (by first | ((repeat (first | with_reducible exact Sel.refl | with_reducible exact Sel.nil | with_reducible exact Del.here | with_reducible apply Del.there | with_reducible apply Sel.cons | with_reducible apply Sel.drop)); done) | (repeat (first | exact Sel.refl | exact Sel.nil | exact Del.here | apply Del.there | apply Sel.cons | apply Sel.drop)))) | exact RdL.nil _ _ _) rfl rfl (by first | omega | (simp; done) | (simp; omega)) (by first | (simp only [maxLen]; omega) | (simp [maxLen]; done) | (simp [maxLen]; omega)) rfl ?_
          intro A8_7 cap8_7 w M
          refine DG.go (G := fun j => [4, 5, 6].contains j) (i := 7) (f' := 3) (done := [0, 1, 2, 3, 4, 5, 6]) (fun h => by cases h) ?_
          apply DG.pure_ [8, 9] 1 rfl (by kernel_rfl) (by kernel_rfl)
          · intro w
            refine WL.nilCheck rfl rfl ?_
            refine WL.fieldA (off := 2) Try.underlying62 rfl rfl Try.sizeOf27 rfl rfl rfl ?_
            exact Chain.end_ rfl
          refine DG.step 10 0 rfl (by kernel_rfl) ?_
          refine WL.storeE (E := flowE) (x' := { el fw k with A := A8_7, cap := cap8_7, jobs := (el fw k).jobs ++ [⟨(k : Int), jc, ji⟩] }) Try.sizeOf27 rfl rfl rfl M (by first | ((repeat (first | with_reducible exact Has.here | with_reducible refine Has.there ?_)); done) | (repeat (first | exact Has.here | refine Has.there ?_))) (by omega) (by repeat (first | exact SetAt.zero | apply SetAt.succ)) (by first | ((repeat (first | with_reducible exact Upd.here | with_reducible apply Upd.there)); done) | (repeat (first | exact Upd.here | apply Upd.there))) ?_
          intro w M
          refine DG.go (G := fun j => [4, 5, 6].contains j) (i := 10) (f' := 0) (done := [0, 1, 2, 3, 4, 5, 6, 7, 8, 9]) (fun h => by cases h) ?_
          refine DG.end_ (by kernel_rfl) ?_
          refine WX.next ?_
          refine W.sub [(0, _), (3, _)] (.cons rfl (.cons rfl .nil)) ?_
          refine W.seq ?_
          have M3 := Mem.starSet (f := FwX.O) (l := fw) (x := { el fw k with A := A8_7, cap := cap8_7, jobs := (el fw k).jobs ++ [⟨(k : Int), jc, ji⟩] }) k hk (M.sel (K := Asr.lst jobE A8_7 cap8_7 ((el fw k).jobs ++ [⟨(k : Int), jc, ji⟩]) :: Asr.star ((fw.eraseIdx k).map FwX.O) :: Asr.row g 59 [.slice Af fw.length cf, .slice Ar (ints round).length cr, .bool on, .int .i64 n] :: Asr.lst flowE Af cf (fw.set k { el fw k with A := A8_7, cap := cap8_7, jobs := (el fw k).jobs ++ [⟨(k : Int), jc, ji⟩] }) :: Asr.lst intE Ar cr (ints round) :: Asr.row g0_0 31 [.int .i64 (k : Int), .int .i64 jc, .int .u64 (ji : Int)] :: L) (by first | ((repeat (first | with_reducible exact Sel.refl | with_reducible exact Sel.nil | with_reducible exact Del.here | with_reducible apply Del.there | with_reducible apply Sel.cons | with_reducible apply Sel.drop)); done) | (repeat (first | exact Sel.refl | exact Sel.nil | exact Del.here | apply Del.there | apply Sel.cons | apply Sel.drop))))
          replace M := M3
          have hp0 : pushE (SdX.s ⟨g, Af, cf, fw, Ar, cr, round, on, n⟩) ⟨(k : Int), jc, ji⟩ = 0 := by unfold pushE; rw [hfl, if_neg (by dsimp only; omega), if_neg (by omega)]
          have hrl : round.length ≤ 100 := by
            have := nodup_lt' fw.length round hok.nodup (fun x hx => by have := (hok.mem x).1 hx; rw [hfl] at this; exact this.1)
            omega
          have hps : ∀ A c, SdX.s ⟨g, Af, cf, fw.set k { el fw k with A := A, cap := c, jobs := (el fw k).jobs ++ [⟨(k : Int), jc, ji⟩] }, Ar, cr, if k ∈ round then round else round ++ [k], on, n + 1⟩ = pushS (SdX.s ⟨g, Af, cf, fw, Ar, cr, round, on, n⟩) ⟨(k : Int), jc, ji⟩ := by
            intro A c
            unfold pushS
            rw [if_pos hp0]
            unfold SdX.s
            dsimp only
            rw [key_set, Int.toNat_natCast, el_key _ _ hk]
            rfl
          have hnn : ∀ A c, (n + 1 : Int) = (nJ ((fw.set k { el fw k with A := A, cap := c, jobs := (el fw k).jobs ++ [⟨(k : Int), jc, ji⟩] }).map FwX.key) : Int) := by
            intro A c
            rw [key_set]
            have h := nJ_set (fw.map FwX.key) k (FwX.key { el fw k with A := A, cap := c, jobs := (el fw k).jobs ++ [⟨(k : Int), jc, ji⟩] }) (by simpa using hk)
            rw [el_key _ _ hk] at h
            unfold FwX.key at h
            dsimp only at h
            rw [List.length_append, List.length_singleton] at h
            have hn' : n = (nJ (fw.map FwX.key) : Int) := hn
            unfold FwX.key at hn' ⊢
            dsimp only at hn' ⊢
            omega
          refine W.region ?_
          refine WL.move rfl rfl ?_
          refine WL.nilCheck rfl rfl ?_
          refine WL.fieldR (off := 3) Try.underlying59 rfl rfl Try.sizeOf3 rfl rfl rfl ?_
          refine WL.loadR Try.isAgg3 rfl M (by first | ((repeat (first | with_reducible exact Has.here | with_reducible refine Has.there ?_)); done) | (repeat (first | exact Has.here | refine Has.there ?_))) rfl rfl ?_
          refine WL.add rfl rfl (by first | exact wI64 (by omega) | rfl) rfl ?_
          refine WL.nilCheck rfl rfl ?_
          refine WL.fieldR (off := 3) Try.underlying59 rfl rfl Try.sizeOf3 rfl rfl rfl ?_
          refine WL.storeR Try.sizeOf3 rfl rfl rfl M (by first | ((repeat (first | with_reducible exact Has.here | with_reducible refine Has.there ?_)); done) | (repeat (first | exact Has.here | refine Has.there ?_))) (by repeat (first | exact SetAt.zero | apply SetAt.succ)) (by first | ((repeat (first | with_reducible exact Upd.here | with_reducible apply Upd.there)); done) | (repeat (first | exact Upd.here | apply Upd.there))) ?_
          intro w M
          refine WL.nil ?_
          refine WX.next ?_
          refine W.sub [(0, _), (3, _)] (.cons rfl (.cons rfl .nil)) ?_
          refine W.seq ?_
          refine W.seq ?_
          refine W.drawM ([Asr.row g 59 [.slice Af fw.length cf, .slice Ar (ints round).length cr, .bool on, .int .i64 (n + 1)], Asr.row g0_0 31 [.int .i64 (k : Int), .int .i64 jc, .int .u64 (ji : Int)]]) (by kernel_rfl) (fun j => [3, 5].contains j) M (by first | ((repeat (first | with_reducible exact Sel.refl | with_reducible exact Sel.nil | with_reducible exact Del.here | with_reducible apply Del.there | with_reducible apply Sel.cons | with_reducible apply Sel.drop)); done) | (repeat (first | exact Sel.refl | exact Sel.nil | exact Del.here | apply Del.there | apply Sel.cons | apply Sel.drop))) ?_
          clear M; intro M
          apply DG.pure_ [0, 1, 2, 4] 4 rfl (by kernel_rfl) (by kernel_rfl)
          · intro w
            refine WL.move rfl rfl ?_
            refine WL.nilCheck rfl rfl ?_
            refine WL.fieldR (off := 1) Try.underlying59 rfl rfl Try.sizeOf22 rfl rfl rfl ?_
            refine WL.fieldR (off := 0) Try.underlying31 rfl rfl Try.sizeOf3 rfl rfl rfl ?_
            exact Chain.end_ rfl
          apply DG.take [3, 5] 2 rfl (by kernel_rfl) (by kernel_rfl) (M.sel (by first | ((repeat (first | with_reducible exact Sel.refl | with_reducible exact Sel.nil | with_reducible exact Del.here | with_reducible apply Del.there | with_reducible apply Sel.cons | with_reducible apply Sel.drop)); done) | (repeat (first | exact Sel.refl | exact Sel.nil | exact Del.here | apply Del.there | apply Sel.cons | apply Sel.drop))))
          · intro w M
            refine WL.loadR Try.isAgg22 rfl M (by first | ((repeat (first | with_reducible exact Has.here | with_reducible refine Has.there ?_)); done) | (repeat (first | exact Has.here | refine Has.there ?_))) rfl rfl ?_
            refine WL.loadR Try.isAgg3 rfl M (by first | ((repeat (first | with_reducible exact Has.here | with_reducible refine Has.there ?_)); done) | (repeat (first | exact Has.here | refine Has.there ?_))) rfl rfl ?_
            exact Chain.end_ rfl
          refine DG.step 6 1 rfl (by kernel_rfl) ?_
          refine WL.call Try.call25 rfl (sContains_ok (by first | with_reducible assumption | with_reducible exact RdL.mem (by with_reducible assumption) M | exact M.rdL (by first | ((repeat (first | with_reducible exact Has.here | with_reducible refine Has.there ?_)); done) | (repeat (first | exact Has.here | refine Has.there ?_))) | exact RdLH.at (by assumption) (M.sel (by first | ((repeat (first | with_reducible exact Sel.refl | with_reducible exact Sel.nil | with_reducible exact Del.here | with_reducible apply Del.there | with_reducible apply Sel.cons | with_reducible apply Sel.drop)); done) | (repeat (first | exact Sel.refl | exact Sel.nil | exact Del.here | apply Del.there | apply Sel.cons | apply Sel.drop)))) | exact RdL.nil _ _ _) (k : Int) (by simp; omega)) rfl ?_
          rintro _ w ⟨rfl, m⟩
          replace M := M.call0 m; clear m
          refine DG.go (G := fun j => [3, 5].contains j) (i := 6) (f' := 1) (done := [0, 1, 2, 4, 3, 5]) (fun h => by cases h) ?_
          apply DG.pure_ [7] 0 rfl (by kernel_rfl) (by kernel_rfl)
          · intro w
            refine WL.not rfl rfl ?_
            exact Chain.end_ rfl
          refine DG.end_ (by kernel_rfl) ?_
          refine WX.next ?_
          refine W.sub [(0, _), (3, _), (62, _)] (.cons rfl (.cons rfl (.cons rfl .nil))) ?_
          refine W.cond rfl (fun c5 => ?_) (fun c5 => ?_)
          · (try simp only [Bool.not_eq_true'] at c5); (try simp only [Bool.not_eq_false'] at c5); (try simp only [decide_eq_true_eq] at c5); (try simp only [decide_eq_false_iff_not] at c5)
            refine W.drawM ([Asr.row g 59 [.slice Af fw.length cf, .slice Ar (ints round).length cr, .bool on, .int .i64 (n + 1)], Asr.row g0_0 31 [.int .i64 (k : Int), .int .i64 jc, .int .u64 (ji : Int)]]) (by kernel_rfl) (fun j => [4, 6, 7].contains j) M (by first | ((repeat (first | with_reducible exact Sel.refl | with_reducible exact Sel.nil | with_reducible exact Del.here | with_reducible apply Del.there | with_reducible apply Sel.cons | with_reducible apply Sel.drop)); done) | (repeat (first | exact Sel.refl | exact Sel.nil | exact Del.here | apply Del.there | apply Sel.cons | apply Sel.drop))) ?_
            clear M; intro M
            apply DG.pure_ [0, 1, 2, 3, 5] 7 rfl (by kernel_rfl) (by kernel_rfl)
            · intro w
              refine WL.move rfl rfl ?_
              refine WL.move rfl rfl ?_
              refine WL.nilCheck rfl rfl ?_
              refine WL.fieldR (off := 1) Try.underlying59 rfl rfl Try.sizeOf22 rfl rfl rfl ?_
              refine WL.fieldR (off := 0) Try.underlying31 rfl rfl Try.sizeOf3 rfl rfl rfl ?_
              exact Chain.end_ rfl
            apply DG.take [4, 6] 5 rfl (by kernel_rfl) (by kernel_rfl) (M.sel (by first | ((repeat (first | with_reducible exact Sel.refl | with_reducible exact Sel.nil | with_reducible exact Del.here | with_reducible apply Del.there | with_reducible apply Sel.cons | with_reducible apply Sel.drop)); done) | (repeat (first | exact Sel.refl | exact Sel.nil | exact Del.here | apply Del.there | apply Sel.cons | apply Sel.drop))))
            · intro w M
              refine WL.loadR Try.isAgg22 rfl M (by first | ((repeat (first | with_reducible exact Has.here | with_reducible refine Has.there ?_)); done) | (repeat (first | exact Has.here | refine Has.there ?_))) rfl rfl ?_
              refine WL.loadR Try.isAgg3 rfl M (by first | ((repeat (first | with_reducible exact Has.here | with_reducible refine Has.there ?_)); done) | (repeat (first | exact Has.here | refine Has.there ?_))) rfl rfl ?_
              exact Chain.end_ rfl
            refine DG.step 7 4 rfl (by kernel_rfl) ?_
            refine WL.buildL (E := intE) (l := [(k : Int)]) Try.elem3 M rfl rfl rfl rfl rfl rfl ?_
            intro g11_7 w M
            refine DG.go (G := fun j => [4, 6, 7].contains j) (i := 7) (f' := 4) (done := [0, 1, 2, 3, 5, 4, 6]) (fun _ => M.sel (by first | ((repeat (first | with_reducible exact Sel.refl | with_reducible exact Sel.nil | with_reducible exact Del.here | with_reducible apply Del.there | with_reducible apply Sel.cons | with_reducible apply Sel.drop)); done) | (repeat (first | exact Sel.refl | exact Sel.nil | exact Del.here | apply Del.there | apply Sel.cons | apply Sel.drop)))) ?_
            refine DG.step 8 3 rfl (by kernel_rfl) ?_
            refine WL.appendL (E := intE) Try.elem3 rfl rfl M (by first | ((repeat (first | with_reducible exact Del.here | with_reducible apply Del.there)); done) | (repeat (first | exact Del.here | apply Del.there))) (by first | with_reducible assumption | with_reducible exact RdL.mem (by with_reducible assumption) M | exact M.rdL (by first | ((repeat (first | with_reducible exact Has.here | with_reducible refine Has.there ?_)); done) | (repeat (first | exact Has.here | refine Has.there ?_))) | exact RdLH.at (by assumption) (M.sel (by first | ((repeat (first | with_reducible exact Sel.refl | with_reducible exact Sel.nil | with_reducible exact Del.here | with_reducible apply Del.there | with_reducible apply Sel.cons | with_reducible apply Sel.drop)); done) | (repeat (first | exact Sel.refl | exact Sel.nil | exact Del.here | apply Del.there | apply Sel.cons | apply Sel.drop)))) | exact RdL.nil _ _ _) rfl rfl (by first | omega | (simp; done) | (simp; omega)) (by first | (simp only [maxLen]; omega) | (simp [maxLen]; done) | (simp [maxLen]; omega)) rfl ?_
            intro A11_8 cap11_8 w M
            refine DG.go (G := fun j => [4, 6, 7].contains j) (i := 8) (f' := 3) (done := [0, 1, 2, 3, 5, 4, 6, 7]) (fun h => by cases h) ?_
            apply DG.pure_ [9, 10] 1 rfl (by kernel_rfl) (by kernel_rfl)
            · intro w
              refine WL.nilCheck rfl rfl ?_
              refine WL.fieldR (off := 1) Try.underlying59 rfl rfl Try.sizeOf22 rfl rfl rfl ?_
              exact Chain.end_ rfl
            refine DG.step 11 0 rfl (by kernel_rfl) ?_
            refine WL.storeR Try.sizeOf22 rfl rfl rfl M (by first | ((repeat (first | with_reducible exact Has.here | with_reducible refine Has.there ?_)); done) | (repeat (first | exact Has.here | refine Has.there ?_))) (by repeat (first | exact SetAt.zero | apply SetAt.succ)) (by first | ((repeat (first | with_reducible exact Upd.here | with_reducible apply Upd.there)); done) | (repeat (first | exact Upd.here | apply Upd.there))) ?_
            intro w M
            refine DG.go (G := fun j => [4, 6, 7].contains j) (i := 11) (f' := 0) (done := [0, 1, 2, 3, 5, 4, 6, 7, 8, 9, 10]) (fun h => by cases h) ?_
            refine DG.end_ (by kernel_rfl) ?_
            refine WX.next ?_
            refine W.sub [] .nil ?_
            refine W.seq ?_
            refine W.region ?_
            refine WL.assign rfl rfl ?_
            refine WL.nil ?_
            refine WX.next ?_
            refine W.sub [(4, _)] (.cons rfl .nil) ?_
            refine W.ret ?_
            refine WX.ret1 rfl rfl ?_
            have hm : k ∉ round := fun h => by simp [mem_ints, h] at c5
            refine ⟨⟨g, Af, cf, fw.set k { el fw k with A := A8_7, cap := cap8_7, jobs := (el fw k).jobs ++ [⟨(k : Int), jc, ji⟩] }, A11_8, cap11_8, if k ∈ round then round else round ++ [k], on, n + 1⟩, by rw [hp0], rfl, hps _ _, hnn _ _, ?_⟩
            unfold SdX.L SdX.row
            dsimp only
            rw [if_neg hm, show ints (round ++ [k]) = ints round ++ [(k : Int)] by simp, List.length_set]
            exact M.sel (by first | ((repeat (first | with_reducible exact Sel.refl | with_reducible exact Sel.nil | with_reducible exact Del.here | with_reducible apply Del.there | with_reducible apply Sel.cons | with_reducible apply Sel.drop)); done) | (repeat (first | exact Sel.refl | exact Sel.nil | exact Del.here | apply Del.there | apply Sel.cons | apply Sel.drop)))
          · (try simp only [Bool.not_eq_true'] at c5); (try simp only [Bool.not_eq_false'] at c5); (try simp only [decide_eq_true_eq] at c5); (try simp only [decide_eq_false_iff_not] at c5)
            refine W.skip ?_
            refine WX.next ?_
            refine W.seq ?_
            refine W.region ?_
            refine WL.assign rfl rfl ?_
            refine WL.nil ?_
            refine WX.next ?_
            refine W.sub [(4, _)] (.cons rfl .nil) ?_
            refine W.ret ?_
            refine WX.ret1 rfl rfl ?_
            have hm : k ∈ round := by
              apply Classical.byContradiction
              intro h
              first
              | exact c5 (by simp [mem_ints, h])
              | exact h (mem_ints.1 c5)
            refine ⟨⟨g, Af, cf, fw.set k { el fw k with A := A8_7, cap := cap8_7, jobs := (el fw k).jobs ++ [⟨(k : Int), jc, ji⟩] }, Ar, cr, if k ∈ round then round else round ++ [k], on, n + 1⟩, by rw [hp0], rfl, hps _ _, hnn _ _, ?_⟩
            unfold SdX.L SdX.row
            dsimp only
            rw [if_pos hm, List.length_set]
            exact M.sel (by first | ((repeat (first | with_reducible exact Sel.refl | with_reducible exact Sel.nil | with_reducible exact Del.here | with_reducible apply Del.there | with_reducible apply Sel.cons | with_reducible apply Sel.drop)); done) | (repeat (first | exact Sel.refl | exact Sel.nil | exact Del.here | apply Del.there | apply Sel.cons | apply Sel.drop)))
end Go.Proofs.Ytdhmopmfnnlhcaa
