/-
  Walks: some view of some nodes; a view that is not there (seawalllaw14).
-/
import Derived.Test.YtmkhggfcgblefaaDoorBeatIn
namespace Go.Proofs.YtmkhggfcgblefaaDoor
open Go Go.RowKit Bin

def wrapZ (z : Int) (n : Int) : Int := z % 18446744073709551616 % n
def viewM (sites : List Int) (k : Nat) : List Int := (sites.take k).map fun z => wrapZ z 12
def viewL (sites : List Int) : List Int := if sites = [] then [0, 1, 1] else viewM sites 12
def viewV (sites : List Int) (me pat : Int) : Bv := newV (viewL sites) (wrapZ me (viewL sites).length).toNat (1 + wrapZ pat 9)
theorem viewL_len (sites : List Int) : 1 ≤ (viewL sites).length ∧ (viewL sites).length ≤ 12 := by
  unfold viewL
  split
  · exact ⟨by decide, by decide⟩
  · rename_i h
    have := List.length_pos_iff.2 h
    unfold viewM
    rw [List.length_map, List.length_take]
    omega
theorem viewL_in (sites : List Int) : ∀ z ∈ viewL sites, 0 ≤ z ∧ z < 12 := by
  intro z hz
  unfold viewL at hz
  split at hz
  · simp at hz
    omega
  · unfold viewM at hz
    obtain ⟨y, _, rfl⟩ := List.mem_map.1 hz
    unfold wrapZ
    omega
theorem view_good (sites : List Int) (me pat : Int) : ¬ badV (viewL sites) ((wrapZ me (viewL sites).length).toNat : Int) (1 + wrapZ pat 9) := by
  have h1 := viewL_len sites
  have h2 : 0 ≤ wrapZ me (viewL sites).length ∧ wrapZ me (viewL sites).length < (viewL sites).length := by
    unfold wrapZ
    exact ⟨Int.emod_nonneg _ (by omega), Int.emod_lt_of_pos _ (by omega)⟩
  have h3 : 0 ≤ wrapZ pat 9 ∧ wrapZ pat 9 < 9 := by unfold wrapZ; omega
  unfold badV
  rintro (q | q)
  · obtain ⟨z, hz, hd⟩ := List.any_eq_true.1 q
    have := viewL_in sites z hz
    have := of_decide_eq_true hd
    omega
  · omega
theorem view_okV (sites : List Int) (me pat : Int) : (viewV sites me pat).Ok := newV_ok (view_good sites me pat)
theorem viewM_succ {sites : List Int} {k : Nat} (h : k < sites.length) : viewM sites (k + 1) = viewM sites k ++ [wrapZ (el sites k) 12] := by
  unfold viewM
  rw [take_snocZ h, List.map_append]
  rfl
theorem view_ok {A : Option Addr} {cap : Nat} {l : List Int} (hq : ∀ z ∈ l, -9223372036854775808 ≤ z ∧ z ≤ 9223372036854775807) (me pat : Int) {w0 : World} (h : RdL w0 intE A cap l) :
    Fn Tryd.prog 27 [.slice A l.length cap, .int .i64 me, .int .i64 pat] w0 fun v w' => ∃ a : BvA, v = .pointer (some ⟨a.g, 0, none⟩) ∧ Mem w0 w' (bvL a (viewV l me pat)) := by
  have M := Mem.refl w0
  obtain ⟨w, hw⟩ : ∃ w, w = w0 := ⟨w0, rfl⟩
  refine Fn.enter Tryd.func27 rfl Tryd.ntmps27 rfl ?_
  refine W.sub [(0, _), (1, _), (2, _)] (.cons rfl (.cons rfl (.cons rfl .nil))) ?_
  refine W.seq ?_
  refine W.region ?_
  refine WL.assign rfl rfl ?_
  refine WL.nil ?_
  refine WX.next ?_
  refine W.sub [(0, _), (1, _), (2, _)] (.cons rfl (.cons rfl (.cons rfl .nil))) ?_
  refine W.seq ?_
  refine W.region ?_
  refine WL.assign rfl rfl ?_
  refine WL.nil ?_
  refine WX.next ?_
  refine W.sub [(0, _), (1, _), (2, _), (7, _)] (.cons rfl (.cons rfl (.cons rfl (.cons rfl .nil)))) ?_
  refine W.joint (fun (z : List Int × (Option Addr × Nat)) => [(1, .int .i64 me), (2, .int .i64 pat), (7, .slice z.2.1 z.1.length z.2.2)]) (fun j w => Mem w0 w ((fun z => [Asr.lst intE z.2.1 z.2.2 z.1]) j) ∧ (fun z => z.1 = viewM l 12) j) ?_ ?_
  · refine W.seq ?_
    have M2 : Mem w0 _ (Asr.lst intE none 0 [] :: _) := M.nilOwn 3 1
    replace M := M2
    refine W.region ?_
    refine WL.assign rfl rfl ?_
    refine WL.nil ?_
    refine WX.next ?_
    refine W.sub [(0, _), (1, _), (2, _), (7, _), (8, _)] (.cons rfl (.cons rfl (.cons rfl (.cons rfl (.cons rfl .nil))))) ?_
    refine W.block ?_
    refine W.loop (ι := Nat × List Int × (Option Addr × Nat)) (fun z => [(0, .slice A l.length cap), (1, .int .i64 me), (2, .int .i64 pat), (7, .slice z.2.2.1 z.2.1.length z.2.2.2), (8, .int .i64 (z.1 : Int))]) (fun zz w => Mem w0 w ((fun z => [Asr.lst intE z.2.2.1 z.2.2.2 z.2.1]) zz) ∧ (fun z => z.1 ≤ l.length ∧ z.1 ≤ 12 ∧ z.2.1 = viewM l z.1) zz) (fun z => l.length - z.1) ((0, [], (none, 0))) (by (repeat' (first | exact envSub.nil | refine envSub.cons ?_ ?_)) <;> first | rfl | (refine congrArg some ?_; refine congrArg (Value.int _) ?_; first | omega | (dsimp only; omega)) | (simp; done) | (refine congrArg some ?_; dsimp only; congr 1; omega) | (simp; omega)) ⟨M.sel (by first | ((repeat (first | with_reducible exact Sel.refl | with_reducible exact Sel.nil | with_reducible exact Del.here | with_reducible apply Del.there | with_reducible apply Sel.cons | with_reducible apply Sel.drop)); done) | (repeat (first | exact Sel.refl | exact Sel.nil | exact Del.here | apply Del.there | apply Sel.cons | apply Sel.drop))), ⟨Nat.zero_le _, Nat.zero_le _, rfl⟩⟩ ?_
    clear M; rintro (⟨i, m, ⟨B, cB⟩⟩) w ⟨M, ⟨hi, h12, hm⟩⟩; dsimp only at M hi h12 hm ⊢
    refine W.sub [(0, _), (1, _), (2, _), (7, _), (8, _)] (.cons rfl (.cons rfl (.cons rfl (.cons rfl (.cons rfl .nil))))) ?_
    refine W.seq ?_
    refine W.seq ?_
    refine W.region ?_
    refine WL.move rfl rfl ?_
    refine WL.move rfl rfl ?_
    refine WL.len Tryd.underlying22 rfl rfl ?_
    refine WL.lss rfl rfl rfl ?_
    refine WL.moveIf rfl rfl (fun c0 => ?_) (fun c0 => ?_)
    · refine WL.on rfl rfl ?_
      refine WL.move rfl rfl ?_
      refine WL.on rfl rfl ?_
      refine WL.lss rfl rfl rfl ?_
      refine WL.pickT rfl rfl rfl ?_
      refine WL.nil ?_
      refine WX.next ?_
      refine W.sub [(0, _), (1, _), (2, _), (7, _), (8, _), (18, _)] (.cons rfl (.cons rfl (.cons rfl (.cons rfl (.cons rfl (.cons rfl .nil)))))) ?_
      refine W.ite rfl (fun c1 => ?_) (fun c1 => ?_)
      · have hil : i < l.length := by omega
        have hms := viewM_succ hil
        rw [← hm] at hms
        have hml : m.length = i := by rw [hm]; unfold viewM; rw [List.length_map, List.length_take]; omega
        refine W.skip ?_
        refine WX.next ?_
        refine W.seq ?_
        refine W.block ?_
        refine W.region ?_
        refine WL.move rfl rfl ?_
        refine WL.move rfl rfl ?_
        refine WL.move rfl rfl ?_
        refine WL.idxA Tryd.underlying22 Tryd.sizeOf3 rfl rfl (RdL.isSome (E := intE) (by first | with_reducible assumption | with_reducible exact RdL.mem (by with_reducible assumption) M | exact M.rdL (by first | ((repeat (first | with_reducible exact Has.here | with_reducible refine Has.there ?_)); done) | (repeat (first | exact Has.here | refine Has.there ?_))) | exact RdLH.at (by assumption) (M.sel (by first | ((repeat (first | with_reducible exact Sel.refl | with_reducible exact Sel.nil | with_reducible exact Del.here | with_reducible apply Del.there | with_reducible apply Sel.cons | with_reducible apply Sel.drop)); done) | (repeat (first | exact Sel.refl | exact Sel.nil | exact Del.here | apply Del.there | apply Sel.cons | apply Sel.drop)))) | exact RdL.nil _ _ _) (by omega)) (by omega) (by omega) (by first | exact rfl | exact (Int.toNat_of_nonneg (by omega)).symm) rfl ?_
        refine WL.loadE0 (E := intE) Tryd.isAgg3 rfl (by first | with_reducible assumption | with_reducible exact RdL.mem (by with_reducible assumption) M | exact M.rdL (by first | ((repeat (first | with_reducible exact Has.here | with_reducible refine Has.there ?_)); done) | (repeat (first | exact Has.here | refine Has.there ?_))) | exact RdLH.at (by assumption) (M.sel (by first | ((repeat (first | with_reducible exact Sel.refl | with_reducible exact Sel.nil | with_reducible exact Del.here | with_reducible apply Del.there | with_reducible apply Sel.cons | with_reducible apply Sel.drop)); done) | (repeat (first | exact Sel.refl | exact Sel.nil | exact Del.here | apply Del.there | apply Sel.cons | apply Sel.drop)))) | exact RdL.nil _ _ _) (by omega) rfl rfl ?_
        refine WL.conv Tryd.underlying3 Tryd.underlying39 rfl (by first | exact wU64 (by omega) | exact mU64 _ | rfl) rfl ?_
        refine WL.rem rfl rfl (by omega) (remN (by omega)) rfl ?_
        refine WL.conv Tryd.underlying39 Tryd.underlying3 rfl (show IntKind.i64.wrap (el l i % 18446744073709551616 % 12) = wrapZ (el l i) 12 by unfold wrapZ; exact wI64 (by omega)) rfl ?_
        refine WL.buildL (E := intE) (l := [wrapZ (el l i) 12]) Tryd.elem3 M rfl rfl rfl rfl rfl rfl ?_
        intro g5_8 w M
        refine WL.appendL (E := intE) Tryd.elem3 rfl rfl M (by first | ((repeat (first | with_reducible exact Del.here | with_reducible apply Del.there)); done) | (repeat (first | exact Del.here | apply Del.there))) (by first | with_reducible assumption | with_reducible exact RdL.mem (by with_reducible assumption) M | exact M.rdL (by first | ((repeat (first | with_reducible exact Has.here | with_reducible refine Has.there ?_)); done) | (repeat (first | exact Has.here | refine Has.there ?_))) | exact RdLH.at (by assumption) (M.sel (by first | ((repeat (first | with_reducible exact Sel.refl | with_reducible exact Sel.nil | with_reducible exact Del.here | with_reducible apply Del.there | with_reducible apply Sel.cons | with_reducible apply Sel.drop)); done) | (repeat (first | exact Sel.refl | exact Sel.nil | exact Del.here | apply Del.there | apply Sel.cons | apply Sel.drop)))) | exact RdL.nil _ _ _) rfl rfl (by simp only [List.length_cons, List.length_nil]; omega) (by simp only [maxLen, List.length_cons, List.length_nil]; omega) rfl ?_
        intro A5_9 cap5_9 w M
        refine WL.assign rfl rfl ?_
        refine WL.nil ?_
        refine WX.blockNormal ?_
        refine WX.next ?_
        refine W.sub [(0, _), (1, _), (2, _), (7, _), (8, _)] (.cons rfl (.cons rfl (.cons rfl (.cons rfl (.cons rfl .nil))))) ?_
        refine W.region ?_
        refine WL.move rfl rfl ?_
        refine WL.add rfl rfl (by first | exact wI64 (by omega) | rfl) rfl ?_
        refine WL.assign rfl rfl ?_
        refine WL.nil ?_
        rw [← hms] at M ⊢
        refine WX.round ((i + 1, viewM l (i + 1), (A5_9, cap5_9))) (by (repeat' (first | exact envSub.nil | refine envSub.cons ?_ ?_)) <;> first | rfl | (refine congrArg some ?_; refine congrArg (Value.int _) ?_; first | omega | (dsimp only; omega)) | (simp; done) | (refine congrArg some ?_; dsimp only; congr 1; omega) | (simp; omega)) ⟨M.sel (by first | ((repeat (first | with_reducible exact Sel.refl | with_reducible exact Sel.nil | with_reducible exact Del.here | with_reducible apply Del.there | with_reducible apply Sel.cons | with_reducible apply Sel.drop)); done) | (repeat (first | exact Sel.refl | exact Sel.nil | exact Del.here | apply Del.there | apply Sel.cons | apply Sel.drop))), ⟨by dsimp only; omega, by dsimp only; omega, rfl⟩⟩ (by first | omega | (dsimp only; omega))
      · refine W.exit ?_
        refine WX.thenExit ?_
        refine WX.thenExit ?_
        refine WX.blockHere ?_
        refine WX.join ((m, (B, cB))) (by (repeat' (first | exact envSub.nil | refine envSub.cons ?_ ?_)) <;> first | rfl | (refine congrArg some ?_; refine congrArg (Value.int _) ?_; first | omega | (dsimp only; omega)) | (simp; done) | (refine congrArg some ?_; dsimp only; congr 1; omega) | (simp; omega)) ⟨M.sel (by first | ((repeat (first | with_reducible exact Sel.refl | with_reducible exact Sel.nil | with_reducible exact Del.here | with_reducible apply Del.there | with_reducible apply Sel.cons | with_reducible apply Sel.drop)); done) | (repeat (first | exact Sel.refl | exact Sel.nil | exact Del.here | apply Del.there | apply Sel.cons | apply Sel.drop))), (by dsimp only; rw [hm]; unfold viewM; congr 1; rcases Nat.lt_or_ge i 12 with q | q; rw [List.take_of_length_le (by omega), List.take_of_length_le (by omega)]; rw [show i = 12 by omega])⟩
    · refine WL.off rfl rfl rfl rfl ?_
      refine WL.off rfl rfl rfl rfl ?_
      refine WL.pickF rfl rfl rfl ?_
      refine WL.nil ?_
      refine WX.next ?_
      refine W.sub [(0, _), (1, _), (2, _), (7, _), (8, _), (18, _)] (.cons rfl (.cons rfl (.cons rfl (.cons rfl (.cons rfl (.cons rfl .nil)))))) ?_
      refine W.condF rfl ?_
      refine W.exit ?_
      refine WX.thenExit ?_
      refine WX.thenExit ?_
      refine WX.blockHere ?_
      refine WX.join ((m, (B, cB))) (by (repeat' (first | exact envSub.nil | refine envSub.cons ?_ ?_)) <;> first | rfl | (refine congrArg some ?_; refine congrArg (Value.int _) ?_; first | omega | (dsimp only; omega)) | (simp; done) | (refine congrArg some ?_; dsimp only; congr 1; omega) | (simp; omega)) ⟨M.sel (by first | ((repeat (first | with_reducible exact Sel.refl | with_reducible exact Sel.nil | with_reducible exact Del.here | with_reducible apply Del.there | with_reducible apply Sel.cons | with_reducible apply Sel.drop)); done) | (repeat (first | exact Sel.refl | exact Sel.nil | exact Del.here | apply Del.there | apply Sel.cons | apply Sel.drop))), (by dsimp only; rw [hm]; unfold viewM; congr 1; rcases Nat.lt_or_ge i 12 with q | q; rw [List.take_of_length_le (by omega), List.take_of_length_le (by omega)]; rw [show i = 12 by omega])⟩
  clear M; rintro (⟨m, ⟨B, cB⟩⟩) w ⟨M, hm⟩; dsimp only at M hm ⊢
  refine W.sub [(1, _), (2, _), (7, _)] (.cons rfl (.cons rfl (.cons rfl .nil))) ?_
  refine W.joint (fun (z : Option Addr × Nat) => [(1, .int .i64 me), (2, .int .i64 pat), (7, .slice z.1 (viewL l).length z.2)]) (fun j w => Mem w0 w ((fun z => [Asr.lst intE z.1 z.2 (viewL l)]) j) ∧ (fun _ => True) j) ?_ ?_
  · refine W.seq ?_
    refine W.region ?_
    refine WL.move rfl rfl ?_
    refine WL.len Tryd.underlying22 rfl rfl ?_
    refine WL.eqI rfl rfl rfl ?_
    refine WL.nil ?_
    refine WX.next ?_
    refine W.sub [(1, _), (2, _), (7, _), (33, _)] (.cons rfl (.cons rfl (.cons rfl (.cons rfl .nil)))) ?_
    refine W.ite rfl (fun c2 => ?_) (fun c2 => ?_)
    · refine W.region ?_
      refine WL.buildL (E := intE) (l := [0, 1, 1]) Tryd.elem3 M rfl rfl rfl rfl rfl rfl ?_
      intro g7_0 w M
      refine WL.assign rfl rfl ?_
      refine WL.nil ?_
      have hv : viewL l = [0, 1, 1] := by
        unfold viewL
        rw [if_pos]
        apply Classical.byContradiction
        intro hne
        have := List.length_pos_iff.2 hne
        have e : (viewM l 12).length = min 12 l.length := by unfold viewM; rw [List.length_map, List.length_take]
        rw [← hm] at e
        omega
      refine WX.join ((some ⟨g7_0, 0, none⟩, 3)) (by rw [hv]; exact (.cons rfl (.cons rfl (.cons rfl .nil)))) ⟨(by dsimp only; rw [hv]; exact M.sel (by first | ((repeat (first | with_reducible exact Sel.refl | with_reducible exact Sel.nil | with_reducible exact Del.here | with_reducible apply Del.there | with_reducible apply Sel.cons | with_reducible apply Sel.drop)); done) | (repeat (first | exact Sel.refl | exact Sel.nil | exact Del.here | apply Del.there | apply Sel.cons | apply Sel.drop)))), trivial⟩
    · refine W.skip ?_
      have hv : viewL l = m := by
        unfold viewL
        rw [if_neg, hm]
        intro e
        rw [e] at hm
        rw [hm] at c2
        exact c2 rfl
      refine WX.join ((B, cB)) (by rw [hv]; exact (.cons rfl (.cons rfl (.cons rfl .nil)))) ⟨(by dsimp only; rw [hv]; exact M.sel (by first | ((repeat (first | with_reducible exact Sel.refl | with_reducible exact Sel.nil | with_reducible exact Del.here | with_reducible apply Del.there | with_reducible apply Sel.cons | with_reducible apply Sel.drop)); done) | (repeat (first | exact Sel.refl | exact Sel.nil | exact Del.here | apply Del.there | apply Sel.cons | apply Sel.drop)))), trivial⟩
  clear M; rintro (⟨B, cB⟩) w ⟨M, -⟩; dsimp only at M ⊢
  refine W.sub [(1, _), (2, _), (7, _)] (.cons rfl (.cons rfl (.cons rfl .nil))) ?_
  refine W.seq ?_
  have hvl := viewL_len l
  have hw1 : 0 ≤ wrapZ me (viewL l).length ∧ wrapZ me (viewL l).length < (viewL l).length := by
    unfold wrapZ
    exact ⟨Int.emod_nonneg _ (by omega), Int.emod_lt_of_pos _ (by omega)⟩
  have hw2 : 0 ≤ wrapZ pat 9 ∧ wrapZ pat 9 < 9 := by unfold wrapZ; omega
  have hcl : IntKind.u64.wrap ((viewL l).length : Int) = ((viewL l).length : Int) := wU64 (by omega)
  refine W.region ?_
  refine WL.move rfl rfl ?_
  refine WL.move rfl rfl ?_
  refine WL.conv Tryd.underlying3 Tryd.underlying39 rfl (by first | exact wU64 (by omega) | exact mU64 _ | rfl) rfl ?_
  refine WL.move rfl rfl ?_
  refine WL.len Tryd.underlying22 rfl rfl ?_
  refine WL.conv Tryd.underlying3 Tryd.underlying39 rfl hcl rfl ?_
  refine WL.rem rfl rfl (by omega) (show _ = wrapZ me (viewL l).length by unfold wrapZ; exact remN (by omega)) rfl ?_
  refine WL.conv Tryd.underlying39 Tryd.underlying3 rfl (show IntKind.i64.wrap (wrapZ me (viewL l).length) = wrapZ me (viewL l).length from wI64 (by omega)) rfl ?_
  refine WL.move rfl rfl ?_
  refine WL.conv Tryd.underlying3 Tryd.underlying39 rfl (by first | exact wU64 (by omega) | exact mU64 _ | rfl) rfl ?_
  refine WL.rem rfl rfl (by omega) (remN (by omega)) rfl ?_
  refine WL.conv Tryd.underlying39 Tryd.underlying3 rfl (show IntKind.i64.wrap (pat % 18446744073709551616 % 9) = wrapZ pat 9 by unfold wrapZ; exact wI64 (by omega)) rfl ?_
  refine WL.add rfl rfl (by first | exact wI64 (by omega) | rfl) rfl ?_
  have hmn : wrapZ me (viewL l).length = (((wrapZ me (viewL l).length).toNat : Nat) : Int) := by omega
  rw [hmn]
  refine WL.call Tryd.call11 rfl (New_ok (l := viewL l) _ _ (M.rdL (by first | ((repeat (first | with_reducible exact Has.here | with_reducible refine Has.there ?_)); done) | (repeat (first | exact Has.here | refine Has.there ?_)))) (by omega)) rfl ?_
  rintro _ w h'
  obtain ⟨a, rfl, m'⟩ : ∃ a : BvA, _ = Value.tuple #[.pointer (some ⟨a.g, 0, none⟩), .int .i64 0] ∧ Mem _ w (bvL a (viewV l me pat)) := by
    rcases h' with ⟨q, _⟩ | ⟨_, q⟩
    · exact absurd q (view_good l me pat)
    · rw [Int.toNat_natCast] at q
      exact q
  have M2 : Mem w0 w (bvL a (viewV l me pat) ++ []) := (M.callN m').sel (by first | ((repeat (first | with_reducible exact Sel.refl | with_reducible exact Sel.nil | with_reducible exact Del.here | with_reducible apply Del.there | with_reducible apply Sel.cons | with_reducible apply Sel.drop)); done) | (repeat (first | exact Sel.refl | exact Sel.nil | exact Del.here | apply Del.there | apply Sel.cons | apply Sel.drop)))
  replace M := M2
  refine WL.move rfl rfl ?_
  refine WL.extractL rfl rfl rfl ?_
  refine WL.extractL rfl rfl rfl ?_
  refine WL.assign rfl rfl ?_
  refine WL.assign rfl rfl ?_
  refine WL.nil ?_
  refine WX.next ?_
  refine W.sub [(9, _), (10, _)] (.cons rfl (.cons rfl .nil)) ?_
  refine W.seq ?_
  refine W.seq ?_
  refine W.region ?_
  refine WL.move rfl rfl ?_
  refine WL.neI rfl rfl rfl ?_
  refine WL.nil ?_
  refine WX.next ?_
  refine W.sub [(9, _), (53, _)] (.cons rfl (.cons rfl .nil)) ?_
  refine W.ite rfl (fun c3 => ?_) (fun c3 => ?_)
  · exact absurd rfl c3
  · refine W.skip ?_
    refine WX.next ?_
    refine W.seq ?_
    refine W.region ?_
    refine WL.move rfl rfl ?_
    refine WL.assign rfl rfl ?_
    refine WL.nil ?_
    refine WX.next ?_
    refine W.sub [(6, _)] (.cons rfl .nil) ?_
    refine W.ret ?_
    refine WX.ret1 rfl rfl ?_
    exact ⟨a, rfl, M.sel (by first | ((repeat (first | with_reducible exact Sel.refl | with_reducible exact Sel.nil | with_reducible exact Del.here | with_reducible apply Del.there | with_reducible apply Sel.cons | with_reducible apply Sel.drop)); done) | (repeat (first | exact Sel.refl | exact Sel.nil | exact Del.here | apply Del.there | apply Sel.cons | apply Sel.drop)))⟩
theorem nilTick_ok (w0 : World) : Fn Tryd.prog 13 [.pointer none] w0 fun _ w' => w0 = w' := by
  have M := Mem.refl w0
  obtain ⟨w, hw⟩ : ∃ w, w = w0 := ⟨w0, rfl⟩
  refine Fn.enter Tryd.func13 rfl Tryd.ntmps13 rfl ?_
  refine W.sub [(0, _)] (.cons rfl .nil) ?_
  refine W.seq ?_
  refine W.seq ?_
  refine W.region ?_
  refine WL.move rfl rfl ?_
  refine WL.eqNilT Tryd.underlying24 rfl rfl rfl ?_
  refine WL.nil ?_
  refine WX.next ?_
  refine W.sub [(0, _), (5, _)] (.cons rfl (.cons rfl .nil)) ?_
  refine W.condT rfl ?_
  refine W.ret ?_
  refine WX.thenRet ?_
  refine WX.ret0 rfl ?_
  rfl
theorem nilHear_ok (z : Int) (w0 : World) : Fn Tryd.prog 15 [.pointer none, .int .i64 z] w0 fun v w' => v = .int .i64 1 ∧ w0 = w' := by
  have M := Mem.refl w0
  obtain ⟨w, hw⟩ : ∃ w, w = w0 := ⟨w0, rfl⟩
  refine Fn.enter Tryd.func15 rfl Tryd.ntmps15 rfl ?_
  refine W.sub [(0, _), (1, _)] (.cons rfl (.cons rfl .nil)) ?_
  refine W.seq ?_
  refine W.region ?_
  refine WL.assign rfl rfl ?_
  refine WL.nil ?_
  refine WX.next ?_
  refine W.sub [(0, _), (1, _)] (.cons rfl (.cons rfl .nil)) ?_
  refine W.seq ?_
  refine W.block ?_
  refine W.seq ?_
  refine W.region ?_
  refine WL.move rfl rfl ?_
  refine WL.eqNilT Tryd.underlying24 rfl rfl rfl ?_
  refine WL.assign rfl rfl ?_
  refine WL.nil ?_
  refine WX.next ?_
  refine W.sub [(0, _), (1, _), (6, _)] (.cons rfl (.cons rfl (.cons rfl .nil))) ?_
  refine W.condT rfl ?_
  refine W.seq ?_
  refine W.region ?_
  refine WL.assign rfl rfl ?_
  refine WL.nil ?_
  refine WX.next ?_
  refine W.sub [(4, _)] (.cons rfl .nil) ?_
  refine W.ret ?_
  refine WX.blockRet ?_
  refine WX.thenRet ?_
  refine WX.ret1 rfl rfl ?_
  exact ⟨rfl, rfl⟩
theorem nilUp_ok (w0 : World) : Fn Tryd.prog 19 [.pointer none] w0 fun v w' => v = .int .u32 0 ∧ w0 = w' := by
  have M := Mem.refl w0
  obtain ⟨w, hw⟩ : ∃ w, w = w0 := ⟨w0, rfl⟩
  refine Fn.enter Tryd.func19 rfl Tryd.ntmps19 rfl ?_
  refine W.sub [(0, _)] (.cons rfl .nil) ?_
  refine W.seq ?_
  refine W.region ?_
  refine WL.assign rfl rfl ?_
  refine WL.nil ?_
  refine WX.next ?_
  refine W.sub [(0, _)] (.cons rfl .nil) ?_
  refine W.seq ?_
  refine W.seq ?_
  refine W.region ?_
  refine WL.move rfl rfl ?_
  refine WL.eqNilT Tryd.underlying24 rfl rfl rfl ?_
  refine WL.nil ?_
  refine WX.next ?_
  refine W.sub [(0, _), (7, _)] (.cons rfl (.cons rfl .nil)) ?_
  refine W.condT rfl ?_
  refine W.seq ?_
  refine W.region ?_
  refine WL.assign rfl rfl ?_
  refine WL.nil ?_
  refine WX.next ?_
  refine W.sub [(2, _)] (.cons rfl .nil) ?_
  refine W.ret ?_
  refine WX.thenRet ?_
  refine WX.ret1 rfl rfl ?_
  exact ⟨rfl, rfl⟩
theorem nilSince_ok (z : Int) (w0 : World) : Fn Tryd.prog 23 [.pointer none, .int .i64 z] w0 fun v w' => v = .int .i64 (-1) ∧ w0 = w' := by
  have M := Mem.refl w0
  obtain ⟨w, hw⟩ : ∃ w, w = w0 := ⟨w0, rfl⟩
  refine Fn.enter Tryd.func23 rfl Tryd.ntmps23 rfl ?_
  refine W.sub [(0, _), (1, _)] (.cons rfl (.cons rfl .nil)) ?_
  refine W.seq ?_
  refine W.region ?_
  refine WL.assign rfl rfl ?_
  refine WL.nil ?_
  refine WX.next ?_
  refine W.sub [(0, _), (1, _)] (.cons rfl (.cons rfl .nil)) ?_
  refine W.seq ?_
  refine W.seq ?_
  refine W.region ?_
  refine WL.move rfl rfl ?_
  refine WL.eqNilT Tryd.underlying24 rfl rfl rfl ?_
  refine WL.move rfl rfl ?_
  refine WL.off rfl rfl rfl rfl ?_
  refine WL.off rfl rfl rfl rfl ?_
  refine WL.pickT rfl rfl rfl ?_
  refine WL.move rfl rfl ?_
  refine WL.off rfl rfl rfl rfl ?_
  refine WL.off rfl rfl rfl rfl ?_
  refine WL.off rfl rfl rfl rfl ?_
  refine WL.off rfl rfl rfl rfl ?_
  refine WL.off rfl rfl rfl rfl ?_
  refine WL.off rfl rfl rfl rfl ?_
  refine WL.off rfl rfl rfl rfl ?_
  refine WL.pickT rfl rfl rfl ?_
  refine WL.nil ?_
  refine WX.next ?_
  refine W.sub [(0, _), (1, _), (19, _)] (.cons rfl (.cons rfl (.cons rfl .nil))) ?_
  refine W.condT rfl ?_
  refine W.seq ?_
  refine W.region ?_
  refine WL.assign rfl rfl ?_
  refine WL.nil ?_
  refine WX.next ?_
  refine W.sub [(4, _)] (.cons rfl .nil) ?_
  refine W.ret ?_
  refine WX.thenRet ?_
  refine WX.ret1 rfl rfl ?_
  exact ⟨rfl, rfl⟩
theorem nilCalm_ok (w0 : World) : Fn Tryd.prog 21 [.pointer none] w0 fun v w' => v = .int .i64 0 ∧ w0 = w' := by
  have M := Mem.refl w0
  obtain ⟨w, hw⟩ : ∃ w, w = w0 := ⟨w0, rfl⟩
  refine Fn.enter Tryd.func21 rfl Tryd.ntmps21 rfl ?_
  refine W.sub [(0, _)] (.cons rfl .nil) ?_
  refine W.seq ?_
  refine W.region ?_
  refine WL.assign rfl rfl ?_
  refine WL.nil ?_
  refine WX.next ?_
  refine W.sub [(0, _)] (.cons rfl .nil) ?_
  refine W.seq ?_
  refine W.seq ?_
  refine W.region ?_
  refine WL.move rfl rfl ?_
  refine WL.eqNilT Tryd.underlying24 rfl rfl rfl ?_
  refine WL.nil ?_
  refine WX.next ?_
  refine W.sub [(0, _), (4, _)] (.cons rfl (.cons rfl .nil)) ?_
  refine W.condT rfl ?_
  refine W.seq ?_
  refine W.region ?_
  refine WL.assign rfl rfl ?_
  refine WL.nil ?_
  refine WX.next ?_
  refine W.sub [(2, _)] (.cons rfl .nil) ?_
  refine W.ret ?_
  refine WX.thenRet ?_
  refine WX.ret1 rfl rfl ?_
  exact ⟨rfl, rfl⟩
theorem nilLeader_ok (z : Int) (w0 : World) : Fn Tryd.prog 26 [.pointer none, .int .i64 z] w0 fun v w' => v = .int .i64 (-1) ∧ w0 = w' := by
  have M := Mem.refl w0
  obtain ⟨w, hw⟩ : ∃ w, w = w0 := ⟨w0, rfl⟩
  refine Fn.enter Tryd.func26 rfl Tryd.ntmps26 rfl ?_
  refine W.sub [(0, _), (1, _)] (.cons rfl (.cons rfl .nil)) ?_
  refine W.seq ?_
  refine W.region ?_
  refine WL.assign rfl rfl ?_
  refine WL.nil ?_
  refine WX.next ?_
  refine W.sub [(0, _), (1, _)] (.cons rfl (.cons rfl .nil)) ?_
  refine W.seq ?_
  refine W.seq ?_
  refine W.region ?_
  refine WL.move rfl rfl ?_
  refine WL.eqNilT Tryd.underlying24 rfl rfl rfl ?_
  refine WL.nil ?_
  refine WX.next ?_
  refine W.sub [(0, _), (1, _), (6, _)] (.cons rfl (.cons rfl (.cons rfl .nil))) ?_
  refine W.condT rfl ?_
  refine W.seq ?_
  refine W.region ?_
  refine WL.assign rfl rfl ?_
  refine WL.nil ?_
  refine WX.next ?_
  refine W.sub [(4, _)] (.cons rfl .nil) ?_
  refine W.ret ?_
  refine WX.thenRet ?_
  refine WX.ret1 rfl rfl ?_
  exact ⟨rfl, rfl⟩
theorem nilOrder_ok (home : Int) (w0 : World) : Fn Tryd.prog 17 [.pointer none, .int .i64 home] w0 fun v w' => v = .slice none 0 0 ∧ Mem w0 w' [] := by
  have M := Mem.refl w0
  obtain ⟨w, hw⟩ : ∃ w, w = w0 := ⟨w0, rfl⟩
  refine Fn.enter Tryd.func17 rfl Tryd.ntmps17 rfl ?_
  refine W.sub [(0, _), (1, _)] (.cons rfl (.cons rfl .nil)) ?_
  refine W.seq ?_
  refine W.region ?_
  refine WL.box rfl M rfl ?_
  intro g0_0 w M
  try simp only [Value.cells] at M
  try simp only [List.toList_toArray] at M
  refine WL.box rfl M rfl ?_
  intro g0_1 w M
  try simp only [Value.cells] at M
  try simp only [List.toList_toArray] at M
  refine WL.assign rfl rfl ?_
  refine WL.nil ?_
  refine WX.next ?_
  refine W.sub [(2, _), (3, _)] (.cons rfl (.cons rfl .nil)) ?_
  refine W.seq ?_
  refine W.region ?_
  refine WL.assign rfl rfl ?_
  refine WL.nil ?_
  refine WX.next ?_
  refine W.sub [(2, _), (3, _), (5, _)] (.cons rfl (.cons rfl (.cons rfl .nil))) ?_
  refine W.seq ?_
  refine W.seq ?_
  have M2 : Mem w0 _ (Asr.lst intE none 0 [] :: _) := M.nilOwn 3 1
  replace M := M2
  refine W.region ?_
  refine WL.loadR Tryd.isAgg24 rfl M (by first | ((repeat (first | with_reducible exact Has.here | with_reducible refine Has.there ?_)); done) | (repeat (first | exact Has.here | refine Has.there ?_))) rfl rfl ?_
  refine WL.call Tryd.call19 rfl (nilUp_ok _) rfl ?_
  rintro _ _ ⟨rfl, rfl⟩
  refine WL.assign rfl rfl ?_
  refine WL.nil ?_
  refine WX.next ?_
  refine W.sub [(2, _), (3, _), (5, _), (6, _)] (.cons rfl (.cons rfl (.cons rfl (.cons rfl .nil)))) ?_
  refine W.block ?_
  refine W.loop (ι := Unit) (fun _ => [(2, .pointer (some ⟨g0_0, 0, none⟩)), (3, .pointer (some ⟨g0_1, 0, none⟩)), (5, .slice none 0 0), (6, .int .u32 0)]) (fun zz w => Mem w0 w ((fun _ => [Asr.lst intE none 0 []]) zz) ∧ (fun _ => True) zz) (fun _ => 0) (()) (by (repeat' (first | exact envSub.nil | refine envSub.cons ?_ ?_)) <;> first | rfl | (refine congrArg some ?_; refine congrArg (Value.int _) ?_; first | omega | (dsimp only; omega)) | (simp; done) | (refine congrArg some ?_; dsimp only; congr 1; omega) | (simp; omega)) ⟨M.sel (by first | ((repeat (first | with_reducible exact Sel.refl | with_reducible exact Sel.nil | with_reducible exact Del.here | with_reducible apply Del.there | with_reducible apply Sel.cons | with_reducible apply Sel.drop)); done) | (repeat (first | exact Sel.refl | exact Sel.nil | exact Del.here | apply Del.there | apply Sel.cons | apply Sel.drop))), trivial⟩ ?_
  clear M; rintro (_) w ⟨M, -⟩; dsimp only at M ⊢
  refine W.sub [(2, _), (3, _), (5, _), (6, _)] (.cons rfl (.cons rfl (.cons rfl (.cons rfl .nil)))) ?_
  refine W.seq ?_
  refine W.seq ?_
  refine W.region ?_
  refine WL.move rfl rfl ?_
  refine WL.neI rfl rfl rfl ?_
  refine WL.nil ?_
  refine WX.next ?_
  refine W.sub [(2, _), (3, _), (5, _), (6, _), (10, _)] (.cons rfl (.cons rfl (.cons rfl (.cons rfl (.cons rfl .nil))))) ?_
  refine W.ite rfl (fun c0 => ?_) (fun c0 => ?_)
  · exact absurd rfl c0
  · refine W.exit ?_
    refine WX.thenExit ?_
    refine WX.thenExit ?_
    refine WX.blockHere ?_
    refine WX.next ?_
    refine W.seq ?_
    refine W.region ?_
    refine WL.move rfl rfl ?_
    refine WL.mkFn rfl rfl ?_
    refine WL.call Tryd.call32 rfl (sort_ok (l := []) (by decide) _ #[.pointer (some ⟨g0_0, 0, none⟩), .pointer (some ⟨g0_1, 0, none⟩)] (cmpN [] home) Order1_call (cmpN_range _ _) (ltN_tr [] home) (ltN_tot [] home) List.nodup_nil w0 _ _ _ M (by first | ((repeat (first | with_reducible exact Del.here | with_reducible apply Del.there)); done) | (repeat (first | exact Del.here | apply Del.there))) (fun x hx => absurd hx (by simp))) rfl ?_
    rintro _ w ⟨m, q1, q2, q3, M⟩
    refine WL.nil ?_
    refine WX.next ?_
    refine W.sub [(5, _)] (.cons rfl .nil) ?_
    refine W.seq ?_
    refine W.region ?_
    refine WL.move rfl rfl ?_
    refine WL.assign rfl rfl ?_
    refine WL.nil ?_
    refine WX.next ?_
    refine W.sub [(4, _)] (.cons rfl .nil) ?_
    refine W.ret ?_
    refine WX.ret1 rfl rfl ?_
    exact ⟨rfl, M.sel (.nil)⟩
end Go.Proofs.YtmkhggfcgblefaaDoor
