/-
  Walks: a line with losses (seawalllaw07): cut, comes, pick, begins, start.
-/
import Derived.Test.YtgaegaaaoopolaaLineLaw
import Derived.Test.YtgaegaaaoopolaaFew
import Derived.Test.YtgaegaaaoopolaaSameL
namespace Go.Proofs.Ytgaegaaaoopolaa
open Go Go.RowKit

theorem erase_take {α : Type} [Inhabited α] (l : List α) (k i : Nat) (hi : i < l.length) : (l.take (i + 1)).eraseIdx k = if i = k then (l.take i).eraseIdx k else (l.take i).eraseIdx k ++ [el l i] := by
  rw [List.take_add_one, el_get hi]
  dsimp only [Option.toList]
  split
  · rename_i h
    subst h
    rw [List.eraseIdx_append_of_length_le (by rw [List.length_take]; omega), List.length_take, Nat.min_eq_left (by omega), Nat.sub_self, List.eraseIdx_of_length_le (l := l.take i) (by rw [List.length_take]; omega)]
    simp
  · rename_i h
    rcases Nat.lt_or_ge k i with h1 | h1
    · rw [List.eraseIdx_append_of_lt_length (by rw [List.length_take]; omega)]
    · rw [List.eraseIdx_append_of_length_le (by rw [List.length_take]; omega), List.eraseIdx_of_length_le (l := l.take i) (by rw [List.length_take]; omega), List.length_take, Nat.min_eq_left (by omega), List.eraseIdx_of_length_le (by simp; omega)]

set_option maxRecDepth 10000 in
theorem cut_ok {A : Option Addr} {cap : Nat} {l : List SX} {w0 : World} (h : RdL w0 segE A cap l) (k : Nat) (hl : l.length ≤ 1000000) :
    Fn Try.prog 45 [.slice A l.length cap, .int .i64 (k : Int)] w0 fun v w' => ∃ A' c', v = .slice A' (l.eraseIdx k).length c' ∧ Mem w0 w' [Asr.lst segE A' c' (l.eraseIdx k)] := by
  have M := Mem.refl w0
  obtain ⟨w, hw⟩ : ∃ w, w = w0 := ⟨w0, rfl⟩
  refine Fn.enter Try.func45 rfl Try.ntmps45 rfl ?_
  refine W.sub [(0, _), (1, _)] (.cons rfl (.cons rfl .nil)) ?_
  refine W.seq ?_
  refine W.region ?_
  refine WL.assign rfl rfl ?_
  refine WL.nil ?_
  refine WX.next ?_
  refine W.sub [(0, _), (1, _)] (.cons rfl (.cons rfl .nil)) ?_
  refine W.seq ?_
  refine W.region ?_
  refine WL.assign rfl rfl ?_
  refine WL.nil ?_
  refine WX.next ?_
  refine W.sub [(0, _), (1, _), (5, _)] (.cons rfl (.cons rfl (.cons rfl .nil))) ?_
  refine W.seq ?_
  refine W.seq ?_
  refine W.region ?_
  refine WL.assign rfl rfl ?_
  refine WL.nil ?_
  refine WX.next ?_
  refine W.sub [(0, _), (1, _), (5, _), (6, _)] (.cons rfl (.cons rfl (.cons rfl (.cons rfl .nil)))) ?_
  refine W.block ?_
  refine W.loop (ι := (Nat × List SX) × (Option Addr × Nat)) (fun z => [(0, .slice A l.length cap), (1, .int .i64 (k : Int)), (5, .slice z.2.1 z.1.2.length z.2.2), (6, .int .i64 (z.1.1 : Int))]) (fun zz w => Mem w0 w ((fun z => [Asr.lst segE z.2.1 z.2.2 z.1.2]) zz) ∧ (fun z => z.1.1 ≤ l.length ∧ z.1.2 = (l.take z.1.1).eraseIdx k) zz) (fun z => l.length - z.1.1) (((0, []), (none, 0))) (by (repeat' (first | exact envSub.nil | refine envSub.cons ?_ ?_)) <;> first | rfl | (refine congrArg some ?_; refine congrArg (Value.int _) ?_; first | omega | (dsimp only; omega)) | (simp; done) | (refine congrArg some ?_; dsimp only; congr 1; omega) | (simp; omega)) ⟨Mem.nilOwn M 36 4, ⟨by simp, rfl⟩⟩ ?_
  clear M; rintro (⟨⟨i, T⟩, Ak, ck⟩) w ⟨M, ⟨hi, hT⟩⟩; dsimp only at M hi hT ⊢
  refine W.sub [(0, _), (1, _), (5, _), (6, _)] (.cons rfl (.cons rfl (.cons rfl (.cons rfl .nil)))) ?_
  refine W.seq ?_
  refine W.seq ?_
  refine W.region ?_
  refine WL.move rfl rfl ?_
  refine WL.move rfl rfl ?_
  refine WL.len Try.underlying45 rfl rfl ?_
  refine WL.lss rfl rfl rfl ?_
  refine WL.nil ?_
  refine WX.next ?_
  refine W.sub [(0, _), (1, _), (5, _), (6, _), (10, _)] (.cons rfl (.cons rfl (.cons rfl (.cons rfl (.cons rfl .nil))))) ?_
  refine W.ite rfl (fun c0 => ?_) (fun c0 => ?_)
  · have hTl : T.length ≤ i := by
      rw [hT]
      exact Nat.le_trans (List.eraseIdx_sublist ..).length_le (by simp; omega)
    refine W.skip ?_
    refine WX.next ?_
    refine W.seq ?_
    refine W.block ?_
    refine W.seq ?_
    refine W.region ?_
    refine WL.move rfl rfl ?_
    refine WL.move rfl rfl ?_
    refine WL.neI rfl rfl rfl ?_
    refine WL.nil ?_
    refine WX.next ?_
    refine W.sub [(0, _), (1, _), (5, _), (6, _), (15, _)] (.cons rfl (.cons rfl (.cons rfl (.cons rfl (.cons rfl .nil))))) ?_
    refine W.ite rfl (fun c1 => ?_) (fun c1 => ?_)
    · refine W.region ?_
      refine WL.move rfl rfl ?_
      refine WL.move rfl rfl ?_
      refine WL.move rfl rfl ?_
      refine WL.idxA Try.underlying45 Try.sizeOf36 rfl rfl (RdL.isSome (E := segE) (by first | with_reducible assumption | with_reducible exact RdL.mem (by with_reducible assumption) M | exact M.rdL (by first | ((repeat (first | with_reducible exact Has.here | with_reducible refine Has.there ?_)); done) | (repeat (first | exact Has.here | refine Has.there ?_))) | exact RdLH.at (by assumption) (M.sel (by first | ((repeat (first | with_reducible exact Sel.refl | with_reducible exact Sel.nil | with_reducible exact Del.here | with_reducible apply Del.there | with_reducible apply Sel.cons | with_reducible apply Sel.drop)); done) | (repeat (first | exact Sel.refl | exact Sel.nil | exact Del.here | apply Del.there | apply Sel.cons | apply Sel.drop)))) | exact RdL.nil _ _ _) (by omega)) (by omega) (by omega) (by first | exact rfl | exact (Int.toNat_of_nonneg (by omega)).symm) rfl ?_
      refine WL.loadL (E := segE) (cs := [_, _, _, _]) Try.isAgg36 Try.sizeOf36 rfl (by first | with_reducible assumption | with_reducible exact RdL.mem (by with_reducible assumption) M | exact M.rdL (by first | ((repeat (first | with_reducible exact Has.here | with_reducible refine Has.there ?_)); done) | (repeat (first | exact Has.here | refine Has.there ?_))) | exact RdLH.at (by assumption) (M.sel (by first | ((repeat (first | with_reducible exact Sel.refl | with_reducible exact Sel.nil | with_reducible exact Del.here | with_reducible apply Del.there | with_reducible apply Sel.cons | with_reducible apply Sel.drop)); done) | (repeat (first | exact Sel.refl | exact Sel.nil | exact Del.here | apply Del.there | apply Sel.cons | apply Sel.drop)))) | exact RdL.nil _ _ _) rfl (by omega) rfl rfl ?_
      refine WL.buildL (E := segE) (l := [el l i]) Try.elem36 M rfl rfl rfl rfl rfl rfl ?_
      intro g6_5 w M
      refine WL.appendL (E := segE) Try.elem36 rfl rfl M (by first | ((repeat (first | with_reducible exact Del.here | with_reducible apply Del.there)); done) | (repeat (first | exact Del.here | apply Del.there))) (by first | with_reducible assumption | with_reducible exact RdL.mem (by with_reducible assumption) M | exact M.rdL (by first | ((repeat (first | with_reducible exact Has.here | with_reducible refine Has.there ?_)); done) | (repeat (first | exact Has.here | refine Has.there ?_))) | exact RdLH.at (by assumption) (M.sel (by first | ((repeat (first | with_reducible exact Sel.refl | with_reducible exact Sel.nil | with_reducible exact Del.here | with_reducible apply Del.there | with_reducible apply Sel.cons | with_reducible apply Sel.drop)); done) | (repeat (first | exact Sel.refl | exact Sel.nil | exact Del.here | apply Del.there | apply Sel.cons | apply Sel.drop)))) | exact RdL.nil _ _ _) rfl rfl (by first | omega | (simp; done) | (simp; omega)) (by first | (simp only [maxLen]; omega) | (simp [maxLen]; done) | (simp [maxLen]; omega)) rfl ?_
      intro A6_6 cap6_6 w M
      refine WL.assign rfl rfl ?_
      refine WL.nil ?_
      refine WX.blockNormal ?_
      refine WX.next ?_
      refine W.sub [(0, _), (1, _), (5, _), (6, _)] (.cons rfl (.cons rfl (.cons rfl (.cons rfl .nil)))) ?_
      refine W.region ?_
      refine WL.move rfl rfl ?_
      refine WL.add rfl rfl (by first | exact wI64 (by omega) | rfl) rfl ?_
      refine WL.assign rfl rfl ?_
      refine WL.nil ?_
      skip
      have q : T ++ [el l i] = (l.take (i + 1)).eraseIdx k := by rw [erase_take l k i (by omega), if_neg (by omega), ← hT]
      refine WX.round (((i + 1, T ++ [el l i]), (A6_6, cap6_6))) (by (repeat' (first | exact envSub.nil | refine envSub.cons ?_ ?_)) <;> first | rfl | (refine congrArg some ?_; refine congrArg (Value.int _) ?_; first | omega | (dsimp only; omega)) | (simp; done) | (refine congrArg some ?_; dsimp only; congr 1; omega) | (simp; omega)) ⟨M.sel (by first | ((repeat (first | with_reducible exact Sel.refl | with_reducible exact Sel.nil | with_reducible exact Del.here | with_reducible apply Del.there | with_reducible apply Sel.cons | with_reducible apply Sel.drop)); done) | (repeat (first | exact Sel.refl | exact Sel.nil | exact Del.here | apply Del.there | apply Sel.cons | apply Sel.drop))), ⟨by dsimp only; omega, q⟩⟩ (by first | omega | (dsimp only; omega))
    · refine W.skip ?_
      refine WX.blockNormal ?_
      refine WX.next ?_
      refine W.region ?_
      refine WL.move rfl rfl ?_
      refine WL.add rfl rfl (by first | exact wI64 (by omega) | rfl) rfl ?_
      refine WL.assign rfl rfl ?_
      refine WL.nil ?_
      skip
      have q : T = (l.take (i + 1)).eraseIdx k := by rw [erase_take l k i (by omega), if_pos (by omega), ← hT]
      refine WX.round (((i + 1, T), (Ak, ck))) (by (repeat' (first | exact envSub.nil | refine envSub.cons ?_ ?_)) <;> first | rfl | (refine congrArg some ?_; refine congrArg (Value.int _) ?_; first | omega | (dsimp only; omega)) | (simp; done) | (refine congrArg some ?_; dsimp only; congr 1; omega) | (simp; omega)) ⟨M.sel (by first | ((repeat (first | with_reducible exact Sel.refl | with_reducible exact Sel.nil | with_reducible exact Del.here | with_reducible apply Del.there | with_reducible apply Sel.cons | with_reducible apply Sel.drop)); done) | (repeat (first | exact Sel.refl | exact Sel.nil | exact Del.here | apply Del.there | apply Sel.cons | apply Sel.drop))), ⟨by dsimp only; omega, q⟩⟩ (by first | omega | (dsimp only; omega))
  · obtain rfl : i = l.length := by omega
    rw [List.take_length] at hT
    subst hT
    refine W.exit ?_
    refine WX.thenExit ?_
    refine WX.thenExit ?_
    refine WX.blockHere ?_
    refine WX.next ?_
    refine W.seq ?_
    refine W.region ?_
    refine WL.move rfl rfl ?_
    refine WL.assign rfl rfl ?_
    refine WL.nil ?_
    refine WX.next ?_
    refine W.sub [(4, _)] (.cons rfl .nil) ?_
    refine W.ret ?_
    refine WX.ret1 rfl rfl ?_
    exact ⟨_, _, rfl, M⟩

theorem begins_ok {A1 A2 : Option Addr} {c1 c2 : Nat} {l1 l2 : List OX} {w0 : World} (h1 : RdL w0 oxE A1 c1 l1) (h2 : RdL w0 oxE A2 c2 l2)
    (hb1 : ∀ f ∈ l1, RdB w0 f.A f.cap f.l) (hb2 : ∀ f ∈ l2, RdB w0 f.A f.cap f.l) (hl : l1.length ≤ 1000000) (hp : l1.map OX.l = (l2.map OX.l).take l1.length) :
    Fn Try.prog 29 [.slice A1 l1.length c1, .slice A2 l2.length c2] w0 fun v w' => v = .bool true ∧ Mem w0 w' [] := by
  have M := Mem.refl w0
  obtain ⟨w, hw⟩ : ∃ w, w = w0 := ⟨w0, rfl⟩
  have hle : l1.length ≤ l2.length := by have := congrArg List.length hp; simp at this; omega
  have hc2 := h2.le
  have hp2 : l1.map OX.l = (l2.take l1.length).map OX.l := by rw [hp, List.map_take]
  refine Fn.enter Try.func29 rfl Try.ntmps29 rfl ?_
  refine W.sub [(0, _), (1, _)] (.cons rfl (.cons rfl .nil)) ?_
  refine W.seq ?_
  refine W.region ?_
  refine WL.assign rfl rfl ?_
  refine WL.nil ?_
  refine WX.next ?_
  refine W.sub [(0, _), (1, _)] (.cons rfl (.cons rfl .nil)) ?_
  refine W.seq ?_
  refine W.region ?_
  refine WL.move rfl rfl ?_
  refine WL.len Try.underlying33 rfl rfl ?_
  refine WL.move rfl rfl ?_
  refine WL.len Try.underlying33 rfl rfl ?_
  refine WL.leq rfl rfl rfl ?_
  refine WL.moveIf rfl rfl (fun c0 => ?_) (fun c0 => ?_)
  · refine WL.on rfl rfl ?_
    refine WL.move rfl rfl ?_
    refine WL.on rfl rfl ?_
    refine WL.move rfl rfl ?_
    refine WL.on rfl rfl ?_
    refine WL.move rfl rfl ?_
    refine WL.on rfl rfl ?_
    refine WL.len Try.underlying33 rfl rfl ?_
    refine WL.on rfl rfl ?_
    refine WL.cutH (m' := (l2.take l1.length).length) Try.underlying33 Try.sizeOf34 rfl rfl (by omega) (by omega) (by first | (rw [sub_length (by omega) (by omega)]) | (simp only [List.length_drop] <;> omega) | (simp only [List.length_take] <;> omega) | (simp only [List.length_take, List.length_drop] <;> omega) | (simp; done) | (simp; omega)) rfl ?_
    refine WL.on rfl rfl ?_
    refine WL.call Try.call31 rfl (SameLists_ok (h1.mem M) ((h2.pre hle).mem M) (fun o h => (hb1 o h).mem M) (fun o h => (hb2 o (List.mem_of_mem_take h)).mem M) hl) rfl ?_
    rintro _ w ⟨rfl, m⟩
    replace M := M.call0 m; clear m
    rw [decide_eq_true hp2]
    refine WL.pickT rfl rfl rfl ?_
    refine WL.assign rfl rfl ?_
    refine WL.nil ?_
    refine WX.next ?_
    refine W.sub [(4, _)] (.cons rfl .nil) ?_
    refine W.ret ?_
    refine WX.ret1 rfl rfl ?_
    exact ⟨rfl, M⟩
  · exact absurd (by omega) c0
end Go.Proofs.Ytgaegaaaoopolaa
