/-
  Who is up (seawalllaw14.BeatUp).
-/
import Derived.Test.YtmkhggfcgblefaaDoorBeatIn
namespace Go.Proofs.YtmkhggfcgblefaaDoor
open Go Go.RowKit Bin

/-- What was heard, and when. -/
def HeardS (s : Bv) (n : Int) (H : List Int) (now : Int) : Prop := s.Ok ∧ s.sites = [0, 1, 2, 0] ∧ s.me = 3 ∧ s.pat = n ∧ H.length = 4 ∧ ∀ k, k < 4 → (k ≠ 3 → el s.since k = if 0 ≤ el H k then min (now - el H k) n else n) ∧ el H k ≤ now
theorem HeardS.tick {s : Bv} {n : Int} {H : List Int} {now : Int} (h : HeardS s n H now) : HeardS (tickS s) n H (now + 1) := by
  obtain ⟨ok, h1, h2, h3, h4, h5⟩ := h
  obtain ⟨p1, p2, p3, p4⟩ := tickS_parts s
  have hl : s.since.length = 4 := by rw [ok.len, h1]; rfl
  refine ⟨ok.tick, by rw [p1, h1], by rw [p2, h2], by rw [p3, h3], h4, fun k hk => ?_⟩
  obtain ⟨a, b⟩ := h5 k hk
  refine ⟨fun h3' => ?_, by omega⟩
  have := a h3'
  rw [p4, oldS_el (by omega), if_neg (by omega), this, h3]
  split
  · omega
  · omega
theorem HeardS.hear {s : Bv} {n : Int} {H : List Int} {now : Int} (h : HeardS s n H now) {k : Nat} (hk : k < 4) (hn : 1 ≤ n) (h0 : 0 ≤ now) : HeardS (hearS s k) n (H.set k now) now := by
  obtain ⟨ok, h1, h2, h3, h4, h5⟩ := h
  obtain ⟨p1, p2, p3, p4⟩ := hearS_parts s k
  have hl : s.since.length = 4 := by rw [ok.len, h1]; rfl
  refine ⟨ok.hear k, by rw [p1, h1], by rw [p2, h2], by rw [p3, h3], by rw [List.length_set, h4], fun j hj => ?_⟩
  obtain ⟨a, b⟩ := h5 j hj
  rw [p4, el_set _ _ _ _ (by omega), el_set _ _ _ _ (by omega)]
  by_cases e : k = j
  · rw [if_pos e, if_pos e, if_pos h0]
    exact ⟨fun _ => by omega, by omega⟩
  · rw [if_neg e, if_neg e]
    exact ⟨a, b⟩
def hCells (H : List Int) : List Value := H.map (Value.int .i64)
theorem hCells_at {H : List Int} {k : Nat} (h : k < H.length) : (hCells H)[k]? = some (.int .i64 (el H k)) := by
  unfold hCells
  rw [List.getElem?_map, el_get h]
  rfl
theorem SetAt.ofSet {v : Value} : ∀ {cs : List Value} {k : Nat}, k < cs.length → SetAt v cs k (cs.set k v)
  | [], _, h => absurd h (Nat.not_lt_zero _)
  | _ :: _, 0, _ => .zero
  | _ :: _, _ + 1, h => .succ (SetAt.ofSet (by simpa using h))
theorem hCells_set {H : List Int} {k : Nat} {z : Int} (h : k < H.length) : SetAt (.int .i64 z) (hCells H) k (hCells (H.set k z)) := by
  have e : hCells (H.set k z) = (hCells H).set k (.int .i64 z) := by unfold hCells; rw [List.map_set]
  rw [e]
  exact SetAt.ofSet (by unfold hCells; rw [List.length_map]; exact h)
set_option maxRecDepth 10000 in
set_option maxHeartbeats 2000000 in
theorem BeatUp_ok {A : Option Addr} {cap : Nat} (z : Int) (l : List Int) (w0 : World) (ht : Tab w0) (h : RdL w0 intE A cap l) : Fn Tryd.prog 4 [.int .i64 z, .slice A l.length cap] w0 fun v w' => v = .bool true ∧ Mem w0 w' [] := by
  have M := Mem.refl w0
  obtain ⟨w, hw⟩ : ∃ w, w = w0 := ⟨w0, rfl⟩
  refine Fn.enter Tryd.func4 rfl Tryd.ntmps4 rfl ?_
  refine W.sub [(0, _), (1, _)] (.cons rfl (.cons rfl .nil)) ?_
  refine W.seq ?_
  refine W.region ?_
  refine WL.assign rfl rfl ?_
  refine WL.nil ?_
  refine WX.next ?_
  refine W.sub [(0, _), (1, _)] (.cons rfl (.cons rfl .nil)) ?_
  refine W.seq ?_
  refine W.region ?_
  refine WL.move rfl rfl ?_
  refine WL.conv Tryd.underlying3 Tryd.underlying39 rfl (by first | exact wU64 (by omega) | exact mU64 _ | rfl) rfl ?_
  refine WL.rem rfl rfl (by omega) (remN (by omega)) rfl ?_
  refine WL.conv Tryd.underlying39 Tryd.underlying3 rfl (by first | exact wI64 (by omega) | rfl) rfl ?_
  refine WL.add rfl rfl (by first | exact wI64 (by omega) | rfl) rfl ?_
  refine WL.assign rfl rfl ?_
  refine WL.nil ?_
  refine WX.next ?_
  refine W.sub [(1, _), (5, _)] (.cons rfl (.cons rfl .nil)) ?_
  refine W.seq ?_
  obtain ⟨n, hn, hn1, hn9⟩ : ∃ n : Int, n = 1 + z % 18446744073709551616 % 9 ∧ 1 ≤ n ∧ n ≤ 9 := ⟨_, rfl, by omega, by omega⟩
  rw [← hn]
  have hb : ¬ badV [0, 1, 2, 0] 3 n := by
    unfold badV
    rintro (q | q)
    · exact absurd q (by decide)
    · simp at q
      omega
  have hk0 := newV_ok (me := 3) hb
  clear hn
  refine W.region ?_
  refine WL.buildL (E := intE) (l := [0, 1, 2, 0]) Tryd.elem3 M rfl rfl rfl rfl rfl rfl ?_
  intro g2_0 w M
  refine WL.move rfl rfl ?_
  refine WL.call Tryd.call11 rfl (New_ok (l := [0, 1, 2, 0]) 3 n (M.rdL (by first | ((repeat (first | with_reducible exact Has.here | with_reducible refine Has.there ?_)); done) | (repeat (first | exact Has.here | refine Has.there ?_)))) (by decide)) rfl ?_
  rintro _ w h'
  obtain ⟨a, rfl, m⟩ : ∃ a : BvA, _ = Value.tuple #[.pointer (some ⟨a.g, 0, none⟩), .int .i64 0] ∧ Mem _ w (bvL a (newV [0, 1, 2, 0] 3 n)) := by
    rcases h' with ⟨q, _⟩ | ⟨_, q⟩
    · exact absurd q hb
    · exact q
  have M2 : Mem w0 w (bvL a (newV [0, 1, 2, 0] 3 n) ++ []) := (M.callN m).sel (by first | ((repeat (first | with_reducible exact Sel.refl | with_reducible exact Sel.nil | with_reducible exact Del.here | with_reducible apply Del.there | with_reducible apply Sel.cons | with_reducible apply Sel.drop)); done) | (repeat (first | exact Sel.refl | exact Sel.nil | exact Del.here | apply Del.there | apply Sel.cons | apply Sel.drop)))
  replace M := M2
  refine WL.move rfl rfl ?_
  refine WL.extractL rfl rfl rfl ?_
  refine WL.extractL rfl rfl rfl ?_
  refine WL.assign rfl rfl ?_
  refine WL.assign rfl rfl ?_
  refine WL.nil ?_
  refine WX.next ?_
  refine W.sub [(1, _), (5, _), (6, _), (7, _)] (.cons rfl (.cons rfl (.cons rfl (.cons rfl .nil)))) ?_
  refine W.seq ?_
  refine W.seq ?_
  refine W.region ?_
  refine WL.move rfl rfl ?_
  refine WL.neI rfl rfl rfl ?_
  refine WL.moveIf rfl rfl (fun c0 => ?_) (fun c0 => ?_)
  · exact absurd rfl c0
  · refine WL.on rfl rfl ?_
    refine WL.move rfl rfl ?_
    refine WL.on rfl rfl ?_
    refine WL.eqNilF Tryd.underlying24 rfl rfl rfl ?_
    refine WL.pickF rfl rfl rfl ?_
    refine WL.nil ?_
    refine WX.next ?_
    refine W.sub [(1, _), (5, _), (6, _), (31, _)] (.cons rfl (.cons rfl (.cons rfl (.cons rfl .nil)))) ?_
    refine W.condF rfl ?_
    refine W.skip ?_
    refine WX.next ?_
    refine W.seq ?_
    refine W.region ?_
    refine WL.alloc Tryd.zeroValue40 M rfl ?_
    intro g5_0 w M
    try simp only [Value.cells] at M
    try simp only [List.toList_toArray] at M
    refine WL.nil ?_
    refine WX.next ?_
    refine W.sub [(1, _), (5, _), (6, _), (8, _)] (.cons rfl (.cons rfl (.cons rfl (.cons rfl .nil)))) ?_
    refine W.seq ?_
    refine W.seq ?_
    refine W.region ?_
    refine WL.assign rfl rfl ?_
    refine WL.nil ?_
    refine WX.next ?_
    refine W.sub [(1, _), (5, _), (6, _), (8, _), (9, _)] (.cons rfl (.cons rfl (.cons rfl (.cons rfl (.cons rfl .nil))))) ?_
    refine W.block ?_
    refine W.loop (ι := Nat × List Int) (fun x => [(1, .slice A l.length cap), (5, .int .i64 n), (6, .pointer (some ⟨a.g, 0, none⟩)), (8, .pointer (some ⟨g5_0, 0, none⟩)), (9, .int .i64 (x.1 : Int))]) (fun zz w => Mem w0 w ((fun x => bvL a (newV [0, 1, 2, 0] 3 n) ++ [Asr.row g5_0 40 (hCells x.2)]) zz) ∧ (fun x => x.1 ≤ 4 ∧ x.2.length = 4 ∧ ∀ j, j < x.1 → el x.2 j = -1) zz) (fun x => 4 - x.1) ((0, [0, 0, 0, 0])) (by (repeat' (first | exact envSub.nil | refine envSub.cons ?_ ?_)) <;> first | rfl | (refine congrArg some ?_; refine congrArg (Value.int _) ?_; first | omega | (dsimp only; omega)) | (simp; done) | (refine congrArg some ?_; dsimp only; congr 1; omega) | (simp; omega)) ⟨M.sel (by first | ((repeat (first | with_reducible exact Sel.refl | with_reducible exact Sel.nil | with_reducible exact Del.here | with_reducible apply Del.there | with_reducible apply Sel.cons | with_reducible apply Sel.drop)); done) | (repeat (first | exact Sel.refl | exact Sel.nil | exact Del.here | apply Del.there | apply Sel.cons | apply Sel.drop))), ⟨Nat.zero_le _, rfl, fun j hj => absurd hj (Nat.not_lt_zero _)⟩⟩ ?_
    clear M; rintro (⟨i, H⟩) w ⟨M, ⟨hi, hHl, hHe⟩⟩; dsimp only at M hi hHl hHe ⊢
    refine W.sub [(1, _), (5, _), (6, _), (8, _), (9, _)] (.cons rfl (.cons rfl (.cons rfl (.cons rfl (.cons rfl .nil))))) ?_
    refine W.seq ?_
    refine W.seq ?_
    refine W.region ?_
    refine WL.move rfl rfl ?_
    refine WL.lss rfl rfl rfl ?_
    refine WL.nil ?_
    refine WX.next ?_
    refine W.sub [(1, _), (5, _), (6, _), (8, _), (9, _), (33, _)] (.cons rfl (.cons rfl (.cons rfl (.cons rfl (.cons rfl (.cons rfl .nil)))))) ?_
    refine W.ite rfl (fun c2 => ?_) (fun c2 => ?_)
    · refine W.skip ?_
      refine WX.next ?_
      refine W.seq ?_
      refine W.block ?_
      refine W.region ?_
      refine WL.move rfl rfl ?_
      refine WL.idxArr Tryd.underlying40 Tryd.sizeOf3 rfl rfl (by omega) (by omega) (by first | exact rfl | exact (Int.toNat_of_nonneg (by omega)).symm) rfl ?_
      refine WL.storeR (o := i * 1) (cs' := hCells (H.set i (-1))) Tryd.sizeOf3 (by show some (Value.pointer (some (Addr.add ⟨g5_0, 0, none⟩ (i * 1)))) = _; rw [add_lit, Nat.zero_add]) rfl rfl M (by first | ((repeat (first | with_reducible exact Has.here | with_reducible refine Has.there ?_)); done) | (repeat (first | exact Has.here | refine Has.there ?_))) (by rw [Nat.mul_one]; exact hCells_set (by omega)) (by first | ((repeat (first | with_reducible exact Upd.here | with_reducible apply Upd.there)); done) | (repeat (first | exact Upd.here | apply Upd.there))) ?_
      intro w M
      refine WL.nil ?_
      refine WX.blockNormal ?_
      refine WX.next ?_
      refine W.sub [(1, _), (5, _), (6, _), (8, _), (9, _)] (.cons rfl (.cons rfl (.cons rfl (.cons rfl (.cons rfl .nil))))) ?_
      refine W.region ?_
      refine WL.move rfl rfl ?_
      refine WL.add rfl rfl (by first | exact wI64 (by omega) | rfl) rfl ?_
      refine WL.assign rfl rfl ?_
      refine WL.nil ?_
      skip
      have q : ∀ j, j < i + 1 → el (H.set i (-1)) j = -1 := by
        intro j hj
        rw [el_set _ _ _ _ (by omega)]
        by_cases e : i = j
        · rw [if_pos e]
        · rw [if_neg e]
          exact hHe j (by omega)
      refine WX.round ((i + 1, H.set i (-1))) (by (repeat' (first | exact envSub.nil | refine envSub.cons ?_ ?_)) <;> first | rfl | (refine congrArg some ?_; refine congrArg (Value.int _) ?_; first | omega | (dsimp only; omega)) | (simp; done) | (refine congrArg some ?_; dsimp only; congr 1; omega) | (simp; omega)) ⟨M.sel (by first | ((repeat (first | with_reducible exact Sel.refl | with_reducible exact Sel.nil | with_reducible exact Del.here | with_reducible apply Del.there | with_reducible apply Sel.cons | with_reducible apply Sel.drop)); done) | (repeat (first | exact Sel.refl | exact Sel.nil | exact Del.here | apply Del.there | apply Sel.cons | apply Sel.drop))), ⟨by dsimp only; omega, by rw [List.length_set]; exact hHl, q⟩⟩ (by first | omega | (dsimp only; omega))
    · refine W.exit ?_
      refine WX.thenExit ?_
      refine WX.thenExit ?_
      refine WX.blockHere ?_
      refine WX.next ?_
      refine W.seq ?_
      refine W.region ?_
      refine WL.assign rfl rfl ?_
      refine WL.nil ?_
      refine WX.next ?_
      refine W.sub [(1, _), (5, _), (6, _), (8, _), (10, _)] (.cons rfl (.cons rfl (.cons rfl (.cons rfl (.cons rfl .nil))))) ?_
      refine W.joint (fun (_ : Unit) => ([] : List (Nat × Value))) (fun j w => Mem w0 w ((fun _ => []) j) ∧ (fun _ => True) j) ?_ ?_
      · refine W.seq ?_
        obtain rfl : i = 4 := by omega
        have hS : HeardS (newV [0, 1, 2, 0] 3 n) n H 0 := by
          refine ⟨hk0, rfl, rfl, rfl, hHl, fun k hk => ?_⟩
          rw [hHe k hk]
          refine ⟨fun h3 => ?_, by omega⟩
          rw [if_neg (by omega)]
          show el ((List.replicate 4 n).set 3 0) k = n
          rw [el_set _ _ _ _ (by simp), if_neg (by omega)]
          unfold el
          rw [List.getElem?_replicate, if_pos hk]
          rfl
        refine W.region ?_
        refine WL.assign rfl rfl ?_
        refine WL.nil ?_
        refine WX.next ?_
        refine W.sub [(1, _), (5, _), (6, _), (8, _), (10, _), (11, _)] (.cons rfl (.cons rfl (.cons rfl (.cons rfl (.cons rfl (.cons rfl .nil)))))) ?_
        refine W.block ?_
        refine W.loop (ι := Nat × Bv × List Int × Int) (fun x => [(1, .slice A l.length cap), (5, .int .i64 n), (6, .pointer (some ⟨a.g, 0, none⟩)), (8, .pointer (some ⟨g5_0, 0, none⟩)), (10, .int .i64 x.2.2.2), (11, .int .i64 (x.1 : Int))]) (fun zz w => Mem w0 w ((fun x => bvL a x.2.1 ++ [Asr.row g5_0 40 (hCells x.2.2.1)]) zz) ∧ (fun x => x.1 ≤ 200 ∧ HeardS x.2.1 n x.2.2.1 x.2.2.2 ∧ 0 ≤ x.2.2.2 ∧ x.2.2.2 ≤ x.1) zz) (fun x => l.length - x.1) ((0, newV [0, 1, 2, 0] 3 n, H, 0)) (by (repeat' (first | exact envSub.nil | refine envSub.cons ?_ ?_)) <;> first | rfl | (refine congrArg some ?_; refine congrArg (Value.int _) ?_; first | omega | (dsimp only; omega)) | (simp; done) | (refine congrArg some ?_; dsimp only; congr 1; omega) | (simp; omega)) ⟨M.sel (by first | ((repeat (first | with_reducible exact Sel.refl | with_reducible exact Sel.nil | with_reducible exact Del.here | with_reducible apply Del.there | with_reducible apply Sel.cons | with_reducible apply Sel.drop)); done) | (repeat (first | exact Sel.refl | exact Sel.nil | exact Del.here | apply Del.there | apply Sel.cons | apply Sel.drop))), ⟨Nat.zero_le _, hS, Int.le_refl _, Int.le_refl _⟩⟩ ?_
        clear M; rintro (⟨i, s, H, now⟩) w ⟨M, ⟨hi, hS, hn0, hni⟩⟩; dsimp only at M hi hS hn0 hni ⊢
        refine W.sub [(1, _), (5, _), (6, _), (8, _), (10, _), (11, _)] (.cons rfl (.cons rfl (.cons rfl (.cons rfl (.cons rfl (.cons rfl .nil)))))) ?_
        refine W.seq ?_
        refine W.seq ?_
        refine W.region ?_
        refine WL.move rfl rfl ?_
        refine WL.move rfl rfl ?_
        refine WL.len Tryd.underlying22 rfl rfl ?_
        refine WL.lss rfl rfl rfl ?_
        refine WL.moveIf rfl rfl (fun c3 => ?_) (fun c3 => ?_)
        · refine WL.on rfl rfl ?_
          refine WL.move rfl rfl ?_
          refine WL.on rfl rfl ?_
          refine WL.lss rfl rfl rfl ?_
          refine WL.pickT rfl rfl rfl ?_
          refine WL.nil ?_
          refine WX.next ?_
          refine W.sub [(1, _), (5, _), (6, _), (8, _), (10, _), (11, _), (45, _)] (.cons rfl (.cons rfl (.cons rfl (.cons rfl (.cons rfl (.cons rfl (.cons rfl .nil))))))) ?_
          refine W.ite rfl (fun c4 => ?_) (fun c4 => ?_)
          · have hil : i < l.length := by omega
            refine W.skip ?_
            refine WX.next ?_
            refine W.seq ?_
            refine W.block ?_
            refine W.joint (fun (x : Bv × List Int × Int) => [(1, .slice A l.length cap), (5, .int .i64 n), (6, .pointer (some ⟨a.g, 0, none⟩)), (8, .pointer (some ⟨g5_0, 0, none⟩)), (10, .int .i64 x.2.2), (11, .int .i64 (i : Int))]) (fun j w => Mem w0 w ((fun x => bvL a x.1 ++ [Asr.row g5_0 40 (hCells x.2.1)]) j) ∧ (fun x => HeardS x.1 n x.2.1 x.2.2 ∧ 0 ≤ x.2.2 ∧ x.2.2 ≤ (i : Int) + 1) j) ?_ ?_
            · refine W.seq ?_
              refine W.region ?_
              refine WL.move rfl rfl ?_
              refine WL.move rfl rfl ?_
              refine WL.idxA Tryd.underlying22 Tryd.sizeOf3 rfl rfl (RdL.isSome (E := intE) (by first | with_reducible assumption | with_reducible exact RdL.mem (by with_reducible assumption) M | exact M.rdL (by first | ((repeat (first | with_reducible exact Has.here | with_reducible refine Has.there ?_)); done) | (repeat (first | exact Has.here | refine Has.there ?_))) | exact RdLH.at (by assumption) (M.sel (by first | ((repeat (first | with_reducible exact Sel.refl | with_reducible exact Sel.nil | with_reducible exact Del.here | with_reducible apply Del.there | with_reducible apply Sel.cons | with_reducible apply Sel.drop)); done) | (repeat (first | exact Sel.refl | exact Sel.nil | exact Del.here | apply Del.there | apply Sel.cons | apply Sel.drop)))) | exact RdL.nil _ _ _) (by omega)) (by omega) (by omega) (by first | exact rfl | exact (Int.toNat_of_nonneg (by omega)).symm) rfl ?_
              refine WL.loadE0 (E := intE) Tryd.isAgg3 rfl (by first | with_reducible assumption | with_reducible exact RdL.mem (by with_reducible assumption) M | exact M.rdL (by first | ((repeat (first | with_reducible exact Has.here | with_reducible refine Has.there ?_)); done) | (repeat (first | exact Has.here | refine Has.there ?_))) | exact RdLH.at (by assumption) (M.sel (by first | ((repeat (first | with_reducible exact Sel.refl | with_reducible exact Sel.nil | with_reducible exact Del.here | with_reducible apply Del.there | with_reducible apply Sel.cons | with_reducible apply Sel.drop)); done) | (repeat (first | exact Sel.refl | exact Sel.nil | exact Del.here | apply Del.there | apply Sel.cons | apply Sel.drop)))) | exact RdL.nil _ _ _) (by omega) rfl rfl ?_
              refine WL.lss rfl rfl rfl ?_
              refine WL.nil ?_
              refine WX.next ?_
              refine W.sub [(1, _), (5, _), (6, _), (8, _), (10, _), (11, _), (52, _)] (.cons rfl (.cons rfl (.cons rfl (.cons rfl (.cons rfl (.cons rfl (.cons rfl .nil))))))) ?_
              refine W.ite rfl (fun c5 => ?_) (fun c5 => ?_)
              · refine W.seq ?_
                refine W.region ?_
                refine WL.move rfl rfl ?_
                refine WL.call Tryd.call13 rfl (Tick_ok2 a s hS.1 w0 _ _ M) rfl ?_
                intro _ w M
                refine WL.nil ?_
                refine WX.next ?_
                refine W.sub [(1, _), (5, _), (6, _), (8, _), (10, _), (11, _)] (.cons rfl (.cons rfl (.cons rfl (.cons rfl (.cons rfl (.cons rfl .nil)))))) ?_
                refine W.region ?_
                refine WL.move rfl rfl ?_
                refine WL.add rfl rfl (by first | exact wI64 (by omega) | rfl) rfl ?_
                refine WL.assign rfl rfl ?_
                refine WL.nil ?_
                refine WX.join ((tickS s, H, now + 1)) (by (repeat' (first | exact envSub.nil | refine envSub.cons ?_ ?_)) <;> first | rfl | (refine congrArg some ?_; refine congrArg (Value.int _) ?_; first | omega | (dsimp only; omega)) | (simp; done) | (refine congrArg some ?_; dsimp only; congr 1; omega) | (simp; omega)) ⟨M.sel (by first | ((repeat (first | with_reducible exact Sel.refl | with_reducible exact Sel.nil | with_reducible exact Del.here | with_reducible apply Del.there | with_reducible apply Sel.cons | with_reducible apply Sel.drop)); done) | (repeat (first | exact Sel.refl | exact Sel.nil | exact Del.here | apply Del.there | apply Sel.cons | apply Sel.drop))), ⟨hS.tick, by dsimp only; omega, by dsimp only; omega⟩⟩
              · refine W.seq ?_
                refine W.region ?_
                refine WL.move rfl rfl ?_
                refine WL.move rfl rfl ?_
                refine WL.idxA Tryd.underlying22 Tryd.sizeOf3 rfl rfl (RdL.isSome (E := intE) (by first | with_reducible assumption | with_reducible exact RdL.mem (by with_reducible assumption) M | exact M.rdL (by first | ((repeat (first | with_reducible exact Has.here | with_reducible refine Has.there ?_)); done) | (repeat (first | exact Has.here | refine Has.there ?_))) | exact RdLH.at (by assumption) (M.sel (by first | ((repeat (first | with_reducible exact Sel.refl | with_reducible exact Sel.nil | with_reducible exact Del.here | with_reducible apply Del.there | with_reducible apply Sel.cons | with_reducible apply Sel.drop)); done) | (repeat (first | exact Sel.refl | exact Sel.nil | exact Del.here | apply Del.there | apply Sel.cons | apply Sel.drop)))) | exact RdL.nil _ _ _) (by omega)) (by omega) (by omega) (by first | exact rfl | exact (Int.toNat_of_nonneg (by omega)).symm) rfl ?_
                refine WL.loadE0 (E := intE) Tryd.isAgg3 rfl (by first | with_reducible assumption | with_reducible exact RdL.mem (by with_reducible assumption) M | exact M.rdL (by first | ((repeat (first | with_reducible exact Has.here | with_reducible refine Has.there ?_)); done) | (repeat (first | exact Has.here | refine Has.there ?_))) | exact RdLH.at (by assumption) (M.sel (by first | ((repeat (first | with_reducible exact Sel.refl | with_reducible exact Sel.nil | with_reducible exact Del.here | with_reducible apply Del.there | with_reducible apply Sel.cons | with_reducible apply Sel.drop)); done) | (repeat (first | exact Sel.refl | exact Sel.nil | exact Del.here | apply Del.there | apply Sel.cons | apply Sel.drop)))) | exact RdL.nil _ _ _) (by omega) rfl rfl ?_
                refine WL.rem rfl rfl (by omega) (remN (by omega)) rfl ?_
                refine WL.assign rfl rfl ?_
                refine WL.nil ?_
                refine WX.next ?_
                refine W.sub [(1, _), (5, _), (6, _), (8, _), (10, _), (11, _), (12, _)] (.cons rfl (.cons rfl (.cons rfl (.cons rfl (.cons rfl (.cons rfl (.cons rfl .nil))))))) ?_
                refine W.seq ?_
                refine W.seq ?_
                obtain ⟨q, hq, hq4⟩ : ∃ q : Nat, el l i % 4 = (q : Int) ∧ q < 4 := ⟨(el l i % 4).toNat, by omega, by omega⟩
                rw [hq]
                have hE : hearE s (q : Int) = 0 := by unfold hearE; rw [if_pos (by rw [hS.2.1]; show (0 : Int) ≤ q ∧ (q : Int) < 4; omega)]
                have hZ : hearZ s (q : Int) = hearS s q := by unfold hearZ; rw [if_pos (by rw [hS.2.1]; show (0 : Int) ≤ q ∧ (q : Int) < 4; omega), Int.toNat_natCast]
                have hHl := hS.2.2.2.2.1
                refine W.region ?_
                refine WL.move rfl rfl ?_
                refine WL.move rfl rfl ?_
                refine WL.call Tryd.call15 rfl (Hear_ok2 a s hS.1 (q : Int) w0 _ _ M) rfl ?_
                rintro _ w ⟨rfl, M⟩
                rw [hE]
                rw [hZ] at M
                refine WL.neI rfl rfl rfl ?_
                refine WL.nil ?_
                refine WX.next ?_
                refine W.sub [(1, _), (5, _), (6, _), (8, _), (10, _), (11, _), (12, _), (65, _)] (.cons rfl (.cons rfl (.cons rfl (.cons rfl (.cons rfl (.cons rfl (.cons rfl (.cons rfl .nil)))))))) ?_
                refine W.ite rfl (fun c6 => ?_) (fun c6 => ?_)
                · exact absurd rfl c6
                · refine W.skip ?_
                  refine WX.next ?_
                  refine W.region ?_
                  refine WL.move rfl rfl ?_
                  refine WL.move rfl rfl ?_
                  refine WL.idxArr Tryd.underlying40 Tryd.sizeOf3 rfl rfl (by omega) (by omega) (by first | exact rfl | exact (Int.toNat_of_nonneg (by omega)).symm) rfl ?_
                  refine WL.storeR (o := q * 1) (cs' := hCells (H.set q now)) Tryd.sizeOf3 (by show some (Value.pointer (some (Addr.add ⟨g5_0, 0, none⟩ (q * 1)))) = _; rw [add_lit, Nat.zero_add]) rfl rfl M (by first | ((repeat (first | with_reducible exact Has.here | with_reducible refine Has.there ?_)); done) | (repeat (first | exact Has.here | refine Has.there ?_))) (by rw [Nat.mul_one]; exact hCells_set (by omega)) (by first | ((repeat (first | with_reducible exact Upd.here | with_reducible apply Upd.there)); done) | (repeat (first | exact Upd.here | apply Upd.there))) ?_
                  intro w M
                  refine WL.nil ?_
                  refine WX.join ((hearS s q, H.set q now, now)) (by (repeat' (first | exact envSub.nil | refine envSub.cons ?_ ?_)) <;> first | rfl | (refine congrArg some ?_; refine congrArg (Value.int _) ?_; first | omega | (dsimp only; omega)) | (simp; done) | (refine congrArg some ?_; dsimp only; congr 1; omega) | (simp; omega)) ⟨M.sel (by first | ((repeat (first | with_reducible exact Sel.refl | with_reducible exact Sel.nil | with_reducible exact Del.here | with_reducible apply Del.there | with_reducible apply Sel.cons | with_reducible apply Sel.drop)); done) | (repeat (first | exact Sel.refl | exact Sel.nil | exact Del.here | apply Del.there | apply Sel.cons | apply Sel.drop))), ⟨hS.hear hq4 hn1 hn0, hn0, by dsimp only; omega⟩⟩
            clear M; rintro (⟨s, H, now⟩) w ⟨M, ⟨hS, hn0, hni⟩⟩; dsimp only at M hS hn0 hni ⊢
            refine W.sub [(1, _), (5, _), (6, _), (8, _), (10, _), (11, _)] (.cons rfl (.cons rfl (.cons rfl (.cons rfl (.cons rfl (.cons rfl .nil)))))) ?_
            refine W.seq ?_
            refine W.region ?_
            refine WL.assign rfl rfl ?_
            refine WL.nil ?_
            refine WX.next ?_
            refine W.sub [(1, _), (5, _), (6, _), (8, _), (10, _), (11, _), (13, _)] (.cons rfl (.cons rfl (.cons rfl (.cons rfl (.cons rfl (.cons rfl (.cons rfl .nil))))))) ?_
            refine W.block ?_
            refine W.loop (ι := Nat) (fun k => [(1, .slice A l.length cap), (5, .int .i64 n), (6, .pointer (some ⟨a.g, 0, none⟩)), (8, .pointer (some ⟨g5_0, 0, none⟩)), (10, .int .i64 now), (11, .int .i64 (i : Int)), (13, .int .i64 (k : Int))]) (fun zz w => Mem w0 w ((fun _ => bvL a s ++ [Asr.row g5_0 40 (hCells H)]) zz) ∧ (fun k => k ≤ 4) zz) (fun k => 4 - k) (0) (by (repeat' (first | exact envSub.nil | refine envSub.cons ?_ ?_)) <;> first | rfl | (refine congrArg some ?_; refine congrArg (Value.int _) ?_; first | omega | (dsimp only; omega)) | (simp; done) | (refine congrArg some ?_; dsimp only; congr 1; omega) | (simp; omega)) ⟨M.sel (by first | ((repeat (first | with_reducible exact Sel.refl | with_reducible exact Sel.nil | with_reducible exact Del.here | with_reducible apply Del.there | with_reducible apply Sel.cons | with_reducible apply Sel.drop)); done) | (repeat (first | exact Sel.refl | exact Sel.nil | exact Del.here | apply Del.there | apply Sel.cons | apply Sel.drop))), Nat.zero_le _⟩ ?_
            clear M; rintro (k) w ⟨M, hk⟩; dsimp only at M hk ⊢
            refine W.sub [(1, _), (5, _), (6, _), (8, _), (10, _), (11, _), (13, _)] (.cons rfl (.cons rfl (.cons rfl (.cons rfl (.cons rfl (.cons rfl (.cons rfl .nil))))))) ?_
            refine W.seq ?_
            refine W.seq ?_
            refine W.region ?_
            refine WL.move rfl rfl ?_
            refine WL.lss rfl rfl rfl ?_
            refine WL.nil ?_
            refine WX.next ?_
            refine W.sub [(1, _), (5, _), (6, _), (8, _), (10, _), (11, _), (13, _), (70, _)] (.cons rfl (.cons rfl (.cons rfl (.cons rfl (.cons rfl (.cons rfl (.cons rfl (.cons rfl .nil)))))))) ?_
            refine W.ite rfl (fun c7 => ?_) (fun c7 => ?_)
            · have hk4 : k < 4 := by omega
              have hHl := hS.2.2.2.2.1
              have hH := hS.2.2.2.2.2 k hk4
              have hub := up_bit hS.1 (k := k) (by rw [hS.2.1]; exact hk4)
              have hpat : s.pat = n := hS.2.2.2.1
              rw [hpat] at hub
              have hul := upN_lt hS.1
              refine W.skip ?_
              refine WX.next ?_
              refine W.seq ?_
              refine W.block ?_
              refine W.joint (fun (_ : Unit) => [(1, .slice A l.length cap), (5, .int .i64 n), (6, .pointer (some ⟨a.g, 0, none⟩)), (8, .pointer (some ⟨g5_0, 0, none⟩)), (10, .int .i64 now), (11, .int .i64 (i : Int)), (13, .int .i64 (k : Int)), (14, .bool (decide (el s.since k < n)))]) (fun j w => Mem w0 w ((fun _ => bvL a s ++ [Asr.row g5_0 40 (hCells H)]) j) ∧ (fun _ => True) j) ?_ ?_
              · refine W.region ?_
                refine WL.move rfl rfl ?_
                refine WL.eqI rfl rfl rfl ?_
                refine WL.moveIf rfl rfl (fun c8 => ?_) (fun c8 => ?_)
                · refine WL.off rfl rfl rfl rfl ?_
                  refine WL.off rfl rfl rfl rfl ?_
                  refine WL.off rfl rfl rfl rfl ?_
                  refine WL.off rfl rfl rfl rfl ?_
                  refine WL.off rfl rfl rfl rfl ?_
                  refine WL.offU rfl rfl rfl ?_
                  refine WL.offU rfl rfl rfl ?_
                  refine WL.offU rfl rfl rfl ?_
                  refine WL.offU rfl rfl rfl ?_
                  refine WL.offU rfl rfl rfl ?_
                  refine WL.offU rfl rfl rfl ?_
                  refine WL.offU rfl rfl rfl ?_
                  refine WL.off rfl rfl rfl rfl ?_
                  refine WL.pickT rfl rfl rfl ?_
                  refine WL.assign rfl rfl ?_
                  refine WL.nil ?_
                  have hk3 : k = 3 := by omega
                  have hme := hS.1.mine
                  rw [hS.2.2.1] at hme
                  have hdd : el s.since k < n := by rw [hk3, hme]; omega
                  refine WX.join (()) (.cons rfl (.cons rfl (.cons rfl (.cons rfl (.cons rfl (.cons rfl (.cons rfl (.cons (congrArg some (congrArg Value.bool (decide_eq_true hdd).symm)) .nil)))))))) ⟨M.sel (by first | ((repeat (first | with_reducible exact Sel.refl | with_reducible exact Sel.nil | with_reducible exact Del.here | with_reducible apply Del.there | with_reducible apply Sel.cons | with_reducible apply Sel.drop)); done) | (repeat (first | exact Sel.refl | exact Sel.nil | exact Del.here | apply Del.there | apply Sel.cons | apply Sel.drop))), trivial⟩
                · refine WL.on rfl rfl ?_
                  refine WL.move rfl rfl ?_
                  refine WL.on rfl rfl ?_
                  refine WL.idxArr Tryd.underlying40 Tryd.sizeOf3 rfl rfl (by omega) (by omega) (by first | exact rfl | exact (Int.toNat_of_nonneg (by omega)).symm) rfl ?_
                  refine WL.on rfl rfl ?_
                  refine WL.load Tryd.isAgg3 rfl (by show World.cell? _ (Addr.add ⟨g5_0, 0, none⟩ (k * 1)) = _; rw [add_lit, Nat.zero_add, Nat.mul_one, M.cellH (by first | ((repeat (first | with_reducible exact Has.here | with_reducible refine Has.there ?_)); done) | (repeat (first | exact Has.here | refine Has.there ?_)))]; exact hCells_at (by omega)) rfl ?_
                  refine WL.on rfl rfl ?_
                  refine WL.geq rfl rfl rfl ?_
                  refine WL.on rfl rfl ?_
                  refine WL.moveIf rfl rfl (fun c9 => ?_) (fun c9 => ?_)
                  · refine WL.on rfl rfl ?_
                    refine WL.move rfl rfl ?_
                    refine WL.on rfl rfl ?_
                    refine WL.move rfl rfl ?_
                    refine WL.on rfl rfl ?_
                    refine WL.idxArr Tryd.underlying40 Tryd.sizeOf3 rfl rfl (by omega) (by omega) (by first | exact rfl | exact (Int.toNat_of_nonneg (by omega)).symm) rfl ?_
                    refine WL.on rfl rfl ?_
                    refine WL.load Tryd.isAgg3 rfl (by show World.cell? _ (Addr.add ⟨g5_0, 0, none⟩ (k * 1)) = _; rw [add_lit, Nat.zero_add, Nat.mul_one, M.cellH (by first | ((repeat (first | with_reducible exact Has.here | with_reducible refine Has.there ?_)); done) | (repeat (first | exact Has.here | refine Has.there ?_)))]; exact hCells_at (by omega)) rfl ?_
                    refine WL.on rfl rfl ?_
                    refine WL.sub' rfl rfl (by first | exact wI64 (by omega) | rfl) rfl ?_
                    refine WL.on rfl rfl ?_
                    refine WL.move rfl rfl ?_
                    refine WL.on rfl rfl ?_
                    refine WL.lss rfl rfl rfl ?_
                    refine WL.on rfl rfl ?_
                    refine WL.pickT rfl rfl rfl ?_
                    refine WL.pickF rfl rfl rfl ?_
                    refine WL.assign rfl rfl ?_
                    refine WL.nil ?_
                    have hk3 : k ≠ 3 := by omega
                    have hsk := hH.1 hk3
                    rw [if_pos (by omega)] at hsk
                    refine WX.join (()) (.cons rfl (.cons rfl (.cons rfl (.cons rfl (.cons rfl (.cons rfl (.cons rfl (.cons (congrArg some (congrArg Value.bool (decide_eq_decide.2 (by rw [hsk]; omega)))) .nil)))))))) ⟨M.sel (by first | ((repeat (first | with_reducible exact Sel.refl | with_reducible exact Sel.nil | with_reducible exact Del.here | with_reducible apply Del.there | with_reducible apply Sel.cons | with_reducible apply Sel.drop)); done) | (repeat (first | exact Sel.refl | exact Sel.nil | exact Del.here | apply Del.there | apply Sel.cons | apply Sel.drop))), trivial⟩
                  · refine WL.off rfl rfl rfl rfl ?_
                    refine WL.off rfl rfl rfl rfl ?_
                    refine WL.off rfl rfl rfl rfl ?_
                    refine WL.off rfl rfl rfl rfl ?_
                    refine WL.off rfl rfl rfl rfl ?_
                    refine WL.off rfl rfl rfl rfl ?_
                    refine WL.off rfl rfl rfl rfl ?_
                    refine WL.on rfl rfl ?_
                    refine WL.pickF rfl rfl rfl ?_
                    refine WL.pickF rfl rfl rfl ?_
                    refine WL.assign rfl rfl ?_
                    refine WL.nil ?_
                    have hk3 : k ≠ 3 := by omega
                    have hsk := hH.1 hk3
                    rw [if_neg (by omega)] at hsk
                    refine WX.join (()) (.cons rfl (.cons rfl (.cons rfl (.cons rfl (.cons rfl (.cons rfl (.cons rfl (.cons (congrArg some (congrArg Value.bool (decide_eq_false (by omega)).symm)) .nil)))))))) ⟨M.sel (by first | ((repeat (first | with_reducible exact Sel.refl | with_reducible exact Sel.nil | with_reducible exact Del.here | with_reducible apply Del.there | with_reducible apply Sel.cons | with_reducible apply Sel.drop)); done) | (repeat (first | exact Sel.refl | exact Sel.nil | exact Del.here | apply Del.there | apply Sel.cons | apply Sel.drop))), trivial⟩
              clear M; rintro (_) w ⟨M, -⟩; dsimp only at M ⊢
              refine W.sub [(1, _), (5, _), (6, _), (8, _), (10, _), (11, _), (13, _), (14, _)] (.cons rfl (.cons rfl (.cons rfl (.cons rfl (.cons rfl (.cons rfl (.cons rfl (.cons rfl .nil)))))))) ?_
              refine W.seq ?_
              refine W.region ?_
              refine WL.move rfl rfl ?_
              refine WL.call Tryd.call19 rfl (Up_ok2 a s hS.1 w0 _ _ M) rfl ?_
              rintro _ w ⟨rfl, M⟩
              refine WL.move rfl rfl ?_
              refine WL.conv Tryd.underlying3 Tryd.underlying39 rfl (by first | exact wU64 (by omega) | exact mU64 _ | rfl) rfl ?_
              refine WL.shr rfl rfl (by omega) (by show _ ≤ (32 : Int); omega) (shr_bit (upN s) k) rfl ?_
              refine WL.band rfl rfl (and_one _ (by have := Nat.div_le_self (upN s) (2 ^ k); omega)) rfl ?_
              refine WL.eqI rfl rfl rfl ?_
              refine WL.move rfl rfl ?_
              refine WL.neB Tryd.underlying4 rfl rfl rfl ?_
              refine WL.nil ?_
              refine WX.next ?_
              refine W.sub [(1, _), (5, _), (6, _), (8, _), (10, _), (11, _), (13, _), (98, _)] (.cons rfl (.cons rfl (.cons rfl (.cons rfl (.cons rfl (.cons rfl (.cons rfl (.cons rfl .nil)))))))) ?_
              refine W.ite rfl (fun c10 => ?_) (fun c10 => ?_)
              · exact absurd (decide_eq_decide.2 ⟨fun q => by by_cases e : el s.since k < n; exact e; rw [if_neg e] at hub; omega, fun e => by rw [if_pos e] at hub; omega⟩) c10
              · refine W.skip ?_
                refine WX.blockNormal ?_
                refine WX.next ?_
                refine W.region ?_
                refine WL.move rfl rfl ?_
                refine WL.add rfl rfl (by first | exact wI64 (by omega) | rfl) rfl ?_
                refine WL.assign rfl rfl ?_
                refine WL.nil ?_
                refine WX.round (k + 1) (by (repeat' (first | exact envSub.nil | refine envSub.cons ?_ ?_)) <;> first | rfl | (refine congrArg some ?_; refine congrArg (Value.int _) ?_; first | omega | (dsimp only; omega)) | (simp; done) | (refine congrArg some ?_; dsimp only; congr 1; omega) | (simp; omega)) ⟨M.sel (by first | ((repeat (first | with_reducible exact Sel.refl | with_reducible exact Sel.nil | with_reducible exact Del.here | with_reducible apply Del.there | with_reducible apply Sel.cons | with_reducible apply Sel.drop)); done) | (repeat (first | exact Sel.refl | exact Sel.nil | exact Del.here | apply Del.there | apply Sel.cons | apply Sel.drop))), by omega⟩ (by first | omega | (dsimp only; omega))
            · refine W.exit ?_
              refine WX.thenExit ?_
              refine WX.thenExit ?_
              refine WX.blockHere ?_
              refine WX.blockNormal ?_
              refine WX.next ?_
              refine W.region ?_
              refine WL.move rfl rfl ?_
              refine WL.add rfl rfl (by first | exact wI64 (by omega) | rfl) rfl ?_
              refine WL.assign rfl rfl ?_
              refine WL.nil ?_
              refine WX.round ((i + 1, s, H, now)) (by (repeat' (first | exact envSub.nil | refine envSub.cons ?_ ?_)) <;> first | rfl | (refine congrArg some ?_; refine congrArg (Value.int _) ?_; first | omega | (dsimp only; omega)) | (simp; done) | (refine congrArg some ?_; dsimp only; congr 1; omega) | (simp; omega)) ⟨M.sel (by first | ((repeat (first | with_reducible exact Sel.refl | with_reducible exact Sel.nil | with_reducible exact Del.here | with_reducible apply Del.there | with_reducible apply Sel.cons | with_reducible apply Sel.drop)); done) | (repeat (first | exact Sel.refl | exact Sel.nil | exact Del.here | apply Del.there | apply Sel.cons | apply Sel.drop))), ⟨by dsimp only; omega, hS, hn0, by dsimp only; omega⟩⟩ (by first | omega | (dsimp only; omega))
          · refine W.exit ?_
            refine WX.thenExit ?_
            refine WX.thenExit ?_
            refine WX.blockHere ?_
            refine WX.join (()) (by (repeat' (first | exact envSub.nil | refine envSub.cons ?_ ?_)) <;> first | rfl | (refine congrArg some ?_; refine congrArg (Value.int _) ?_; first | omega | (dsimp only; omega)) | (simp; done) | (refine congrArg some ?_; dsimp only; congr 1; omega) | (simp; omega)) ⟨M.sel (.nil), trivial⟩
        · refine WL.off rfl rfl rfl rfl ?_
          refine WL.off rfl rfl rfl rfl ?_
          refine WL.pickF rfl rfl rfl ?_
          refine WL.nil ?_
          refine WX.next ?_
          refine W.sub [(1, _), (5, _), (6, _), (8, _), (10, _), (11, _), (45, _)] (.cons rfl (.cons rfl (.cons rfl (.cons rfl (.cons rfl (.cons rfl (.cons rfl .nil))))))) ?_
          refine W.condF rfl ?_
          refine W.exit ?_
          refine WX.thenExit ?_
          refine WX.thenExit ?_
          refine WX.blockHere ?_
          refine WX.join (()) (by (repeat' (first | exact envSub.nil | refine envSub.cons ?_ ?_)) <;> first | rfl | (refine congrArg some ?_; refine congrArg (Value.int _) ?_; first | omega | (dsimp only; omega)) | (simp; done) | (refine congrArg some ?_; dsimp only; congr 1; omega) | (simp; omega)) ⟨M.sel (.nil), trivial⟩
      clear M; rintro (_) w ⟨M, -⟩; dsimp only at M ⊢
      refine W.sub [] .nil ?_
      refine W.seq ?_
      refine W.region ?_
      refine WL.call Tryd.call10 rfl (known14_ok _ (ht.mem M)) rfl ?_
      rintro _ w ⟨rfl, m⟩
      replace M := M.call0 m; clear m
      refine WL.assign rfl rfl ?_
      refine WL.nil ?_
      refine WX.next ?_
      refine W.sub [(4, _)] (.cons rfl .nil) ?_
      refine W.ret ?_
      refine WX.ret1 rfl rfl ?_
      exact ⟨by simp, M.sel (by first | ((repeat (first | with_reducible exact Sel.refl | with_reducible exact Sel.nil | with_reducible exact Del.here | with_reducible apply Del.there | with_reducible apply Sel.cons | with_reducible apply Sel.drop)); done) | (repeat (first | exact Sel.refl | exact Sel.nil | exact Del.here | apply Del.there | apply Sel.cons | apply Sel.drop)))⟩
end Go.Proofs.YtmkhggfcgblefaaDoor
