/-
  Walk: Pop (drr).
-/
import Derived.Test.YtdhmopmfnnlhcaaDrr3
namespace Go.Proofs.Ytdhmopmfnnlhcaa
open Go Go.RowKit

/-- What is asked of a scheduler as it lies. -/
structure SdX.ok (x : SdX) : Prop where
  s : Ok x.s
  n : x.n = (nJ x.s.fl : Int)

set_option maxRecDepth 10000 in
set_option maxHeartbeats 4000000 in
theorem Pop_ok (x : SdX) (hok : x.ok) (w0 w : World) (L : List Asr) (M : Mem w0 w (x.L ++ L)) :
    Fn Try.prog 13 [.pointer (some ⟨x.g, 0, none⟩)] w fun v w' => (nJ x.s.fl = 0 ∧ v = .tuple #[JX.v ⟨0, 0, 0⟩, .bool false] ∧ Mem w0 w' (x.L ++ L)) ∨
      (nJ x.s.fl ≠ 0 ∧ ∃ x' : SdX, v = .tuple #[(popJ x.s).v, .bool true] ∧ x.g = x'.g ∧ x'.s = popS x.s ∧ x'.ok ∧ Mem w0 w' (x'.L ++ L)) := by
  obtain ⟨g, Af, cf, fw, Ar, cr, round, on, n⟩ := x
  obtain ⟨hok, hn⟩ := hok
  obtain ⟨s0, hs0⟩ : ∃ s0, s0 = SdX.s ⟨g, Af, cf, fw, Ar, cr, round, on, n⟩ := ⟨_, rfl⟩
  rw [← hs0] at hok hn ⊢
  have hfl : s0.fl = fw.map FwX.key := by rw [hs0]; rfl
  have hrd : s0.round = round := by rw [hs0]; rfl
  have hso : s0.on = on := by rw [hs0]; rfl
  have hlen := hok.len
  have htot := hok.total
  rw [hfl, List.length_map] at hlen
  unfold SdX.L SdX.row at M
  simp only [List.cons_append, List.nil_append] at M
  dsimp only at hn M ⊢
  refine Fn.enter Try.func13 rfl Try.ntmps13 rfl ?_
  refine W.sub [(0, _)] (.cons rfl .nil) ?_
  refine W.seq ?_
  refine W.region ?_
  refine WL.alloc Try.zeroValue31 M rfl ?_
  intro g0_0 w M
  try simp only [Value.cells] at M
  try simp only [List.toList_toArray] at M
  refine WL.assign rfl rfl ?_
  refine WL.nil ?_
  refine WX.next ?_
  refine W.sub [(0, _), (2, _)] (.cons rfl (.cons rfl .nil)) ?_
  refine W.seq ?_
  refine W.seq ?_
  refine W.region ?_
  refine WL.move rfl rfl ?_
  refine WL.eqNilF Try.underlying24 rfl rfl rfl ?_
  refine WL.move rfl rfl ?_
  refine WL.on rfl rfl ?_
  refine WL.move rfl rfl ?_
  refine WL.on rfl rfl ?_
  refine WL.nilCheck rfl rfl ?_
  refine WL.on rfl rfl ?_
  refine WL.fieldR (off := 3) Try.underlying59 rfl rfl Try.sizeOf3 rfl rfl rfl ?_
  refine WL.on rfl rfl ?_
  refine WL.loadR Try.isAgg3 rfl M (by first | ((repeat (first | with_reducible exact Has.here | with_reducible refine Has.there ?_)); done) | (repeat (first | exact Has.here | refine Has.there ?_))) rfl rfl ?_
  refine WL.on rfl rfl ?_
  refine WL.eqI rfl rfl rfl ?_
  refine WL.pickF rfl rfl rfl ?_
  refine WL.nil ?_
  refine WX.next ?_
  refine W.sub [(0, _), (2, _), (15, _)] (.cons rfl (.cons rfl (.cons rfl .nil))) ?_
  refine W.ite rfl (fun c1 => ?_) (fun c1 => ?_)
  · refine W.seq ?_
    refine W.region ?_
    refine WL.buildP (places := #[(0, 1), (1, 1), (2, 1)]) Try.underlying31 Try.zeroValue31 (fun _ => by simp [Try.sizeOf3, Try.sizeOf3, Try.sizeOf29]) rfl (by repeat (first | exact Puts.nil | exact SetAt.zero | apply SetAt.succ | apply Puts.cons rfl rfl)) rfl ?_
    refine WL.storeWA Try.sizeOf31 rfl rfl (by repeat (first | exact oneNil | refine oneCons rfl ?_)) rfl rfl M (by first | ((repeat (first | with_reducible exact Upd.here | with_reducible apply Upd.there)); done) | (repeat (first | exact Upd.here | apply Upd.there))) ?_
    intro w M
    refine WL.assign rfl rfl ?_
    refine WL.nil ?_
    refine WX.next ?_
    refine W.sub [(2, _), (3, _)] (.cons rfl (.cons rfl .nil)) ?_
    refine W.ret ?_
    refine WX.thenRet ?_
    refine WX.retC2 (cs := [_, _, _]) rfl rfl rfl Try.isAgg31 (by exact Try.sizeOf31) (M.cellsH (by first | ((repeat (first | with_reducible exact Has.here | with_reducible refine Has.there ?_)); done) | (repeat (first | exact Has.here | refine Has.there ?_)))) ?_
    exact .inl ⟨by first | omega | (have := c1; omega), rfl, M.sel (by first | ((repeat (first | with_reducible exact Sel.refl | with_reducible exact Sel.nil | with_reducible exact Del.here | with_reducible apply Del.there | with_reducible apply Sel.cons | with_reducible apply Sel.drop)); done) | (repeat (first | exact Sel.refl | exact Sel.nil | exact Del.here | apply Del.there | apply Sel.cons | apply Sel.drop)))⟩
  · have hn0 : nJ s0.fl ≠ 0 := by omega
    have hr0 : round ≠ [] := fun e => hn0 (hok.round.1 (hrd.trans e))
    refine W.skip ?_
    refine WX.next ?_
    refine W.joint (fun (_ : List FwX) => [(0, .pointer (some ⟨g, 0, none⟩)), (2, .pointer (some ⟨g0_0, 0, none⟩))]) (fun j w => Mem w0 w ((fun z => [Asr.row g0_0 31 [.int .i64 0, .int .i64 0, .int .u64 0], Asr.row g 59 [.slice Af z.length cf, .slice Ar (ints round).length cr, .bool true, .int .i64 n], Asr.lst flowE Af cf z, Asr.star (z.map FwX.O), Asr.lst intE Ar cr (ints round)] ++ L) j) ∧ (fun z => z.length = fw.length ∧ (⟨z.map FwX.key, round, true⟩ : Sd) = (if s0.on then s0 else beginS s0)) j) ?_ ?_
    · refine W.seq ?_
      refine W.region ?_
      refine WL.move rfl rfl ?_
      refine WL.nilCheck rfl rfl ?_
      refine WL.fieldR (off := 2) Try.underlying59 rfl rfl Try.sizeOf4 rfl rfl rfl ?_
      refine WL.loadR Try.isAgg4 rfl M (by first | ((repeat (first | with_reducible exact Has.here | with_reducible refine Has.there ?_)); done) | (repeat (first | exact Has.here | refine Has.there ?_))) rfl rfl ?_
      refine WL.not rfl rfl ?_
      refine WL.nil ?_
      refine WX.next ?_
      refine W.sub [(0, _), (2, _), (21, _)] (.cons rfl (.cons rfl (.cons rfl .nil))) ?_
      refine W.cond rfl (fun c2 => ?_) (fun c2 => ?_)
      · (try simp only [Bool.not_eq_true'] at c2); (try simp only [Bool.not_eq_false'] at c2); (try simp only [decide_eq_true_eq] at c2); (try simp only [decide_eq_false_iff_not] at c2)
        obtain rfl : on = false := by simpa using c2
        obtain ⟨k, r, rfl⟩ := List.exists_cons_of_ne_nil hr0
        have hk := (hok.hd (by rw [hrd]; simp)).2.1
        have hhd : s0.hd = k := by unfold Sd.hd; rw [hrd]; rfl
        rw [hhd, hfl, List.length_map] at hk
        have hfk := el_mem (l := s0.fl) (k := k) (by rw [hfl, List.length_map]; exact hk)
        have hlo := hok.lo _ hfk
        have hsh := hok.share _ hfk
        rw [hfl, el_key _ _ hk] at hlo hsh
        unfold FwX.key at hlo hsh
        dsimp only at hlo hsh
        refine W.region ?_
        refine WL.move rfl rfl ?_
        refine WL.call Try.call26 rfl (begin_ok g Af cf fw Ar cr k r false n (by omega) hk hlo hsh w0 _ (Asr.row g0_0 31 [.int .i64 0, .int .i64 0, .int .u64 0] :: L) (M.sel (by first | ((repeat (first | with_reducible exact Sel.refl | with_reducible exact Sel.nil | with_reducible exact Del.here | with_reducible apply Del.there | with_reducible apply Sel.cons | with_reducible apply Sel.drop)); done) | (repeat (first | exact Sel.refl | exact Sel.nil | exact Del.here | apply Del.there | apply Sel.cons | apply Sel.drop))))) rfl ?_
        rintro _ w M
        unfold SdX.L SdX.row at M
        simp only [List.cons_append, List.nil_append] at M
        try dsimp only at M
        refine WL.nil ?_
        skip
        have hb : (⟨(fw.set k { el fw k with credit := (el fw k).credit + (el fw k).share }).map FwX.key, k :: r, true⟩ : Sd) = (if s0.on then s0 else beginS s0) := by
          rw [if_neg (by rw [hso]; simp)]
          unfold beginS Sd.f
          rw [hhd, hfl, hrd, el_key _ _ hk, key_set]
          rfl
        refine WX.join (fw.set k { el fw k with credit := (el fw k).credit + (el fw k).share }) (by (repeat' (first | exact envSub.nil | refine envSub.cons ?_ ?_)) <;> first | rfl | (refine congrArg some ?_; refine congrArg (Value.int _) ?_; first | omega | (dsimp only; omega)) | (simp; done) | (refine congrArg some ?_; dsimp only; congr 1; omega) | (simp; omega)) ⟨M.sel (by first | ((repeat (first | with_reducible exact Sel.refl | with_reducible exact Sel.nil | with_reducible exact Del.here | with_reducible apply Del.there | with_reducible apply Sel.cons | with_reducible apply Sel.drop)); done) | (repeat (first | exact Sel.refl | exact Sel.nil | exact Del.here | apply Del.there | apply Sel.cons | apply Sel.drop))), ⟨by simp, hb⟩⟩
      · (try simp only [Bool.not_eq_true'] at c2); (try simp only [Bool.not_eq_false'] at c2); (try simp only [decide_eq_true_eq] at c2); (try simp only [decide_eq_false_iff_not] at c2)
        obtain rfl : on = true := by simpa using c2
        refine W.skip ?_
        refine WX.join (fw) (by (repeat' (first | exact envSub.nil | refine envSub.cons ?_ ?_)) <;> first | rfl | (refine congrArg some ?_; refine congrArg (Value.int _) ?_; first | omega | (dsimp only; omega)) | (simp; done) | (refine congrArg some ?_; dsimp only; congr 1; omega) | (simp; omega)) ⟨M.sel (by first | ((repeat (first | with_reducible exact Sel.refl | with_reducible exact Sel.nil | with_reducible exact Del.here | with_reducible apply Del.there | with_reducible apply Sel.cons | with_reducible apply Sel.drop)); done) | (repeat (first | exact Sel.refl | exact Sel.nil | exact Del.here | apply Del.there | apply Sel.cons | apply Sel.drop))), ⟨rfl, (by rw [if_pos hso, ← hfl, ← hrd, ← hso])⟩⟩
    clear M; rintro (fw1) w ⟨M, ⟨hl1, hs1⟩⟩; dsimp only at M hl1 hs1 ⊢
    refine W.sub [(0, _), (2, _)] (.cons rfl (.cons rfl .nil)) ?_
    have hP0 := hok.pop0 hn0
    rw [← hs1] at hP0
    obtain ⟨hO1, hr1, _⟩ := hP0
    have hp1 : popEnd ⟨fw1.map FwX.key, round, true⟩ = pop1 s0 := by unfold pop1; rw [hs1]
    refine W.seq ?_
    refine W.block ?_
    refine W.loop (ι := List FwX × (Option Addr × Nat × List Nat)) (fun z => [(0, .pointer (some ⟨g, 0, none⟩)), (2, .pointer (some ⟨g0_0, 0, none⟩))]) (fun zz w => Mem w0 w ((fun z => [Asr.row g0_0 31 [.int .i64 0, .int .i64 0, .int .u64 0], Asr.row g 59 [.slice Af z.1.length cf, .slice z.2.1 (ints z.2.2.2).length z.2.2.1, .bool true, .int .i64 n], Asr.lst flowE Af cf z.1, Asr.star (z.1.map FwX.O), Asr.lst intE z.2.1 z.2.2.1 (ints z.2.2.2)] ++ L) zz) ∧ (fun z => Ok ⟨z.1.map FwX.key, z.2.2.2, true⟩ ∧ z.2.2.2 ≠ [] ∧ popEnd ⟨z.1.map FwX.key, z.2.2.2, true⟩ = pop1 s0 ∧ z.1.length = fw.length) zz) (fun z => phi (z.1.map FwX.key)) ((fw1, (Ar, cr, round))) (by (repeat' (first | exact envSub.nil | refine envSub.cons ?_ ?_)) <;> first | rfl | (refine congrArg some ?_; refine congrArg (Value.int _) ?_; first | omega | (dsimp only; omega)) | (simp; done) | (refine congrArg some ?_; dsimp only; congr 1; omega) | (simp; omega)) ⟨M.sel (by first | ((repeat (first | with_reducible exact Sel.refl | with_reducible exact Sel.nil | with_reducible exact Del.here | with_reducible apply Del.there | with_reducible apply Sel.cons | with_reducible apply Sel.drop)); done) | (repeat (first | exact Sel.refl | exact Sel.nil | exact Del.here | apply Del.there | apply Sel.cons | apply Sel.drop))), ⟨hO1, hr1, hp1, hl1⟩⟩ ?_
    clear M; rintro (⟨fw2, Ar2, cr2, round2⟩) w ⟨M, ⟨hO2, hr2, hp2, hl2⟩⟩; dsimp only at M hO2 hr2 hp2 hl2 ⊢
    refine W.sub [(0, _), (2, _)] (.cons rfl (.cons rfl .nil)) ?_
    refine W.seq ?_
    refine W.seq ?_
    obtain ⟨k, r, rfl⟩ := List.exists_cons_of_ne_nil hr2
    obtain ⟨_, hk', hj'⟩ := hO2.hd hr2
    have hk : k < fw2.length := by rw [List.length_map] at hk'; exact hk'
    have hF : Sd.f ⟨fw2.map FwX.key, k :: r, true⟩ = (el fw2 k).key := el_key fw2 k hk
    rw [hF] at hj'
    have hj0 : 0 < (el fw2 k).jobs.length := List.length_pos_iff.2 hj'
    have hjl : (el fw2 k).jobs.length ≤ 1024 := by
      have h := sum_pos ((fw2.map FwX.key).map fun f => f.jobs.length) (el fw2 k).jobs.length (List.mem_map.2 ⟨(el fw2 k).key, List.mem_map.2 ⟨_, el_mem hk, rfl⟩, rfl⟩)
      exact Nat.le_trans h hO2.total
    have hlo : ∀ i, i < fw2.length → 0 ≤ (el fw2 i).credit ∧ (el fw2 i).credit ≤ 200000 := fun i hi => hO2.lo _ (List.mem_map.2 ⟨_, el_mem hi, rfl⟩)
    have hsh : ∀ i, i < fw2.length → 1 ≤ (el fw2 i).share ∧ (el fw2 i).share ≤ 100000 := fun i hi => hO2.share _ (List.mem_map.2 ⟨_, el_mem hi, rfl⟩)
    have hco : 1 ≤ (el (el fw2 k).jobs 0).cost ∧ (el (el fw2 k).jobs 0).cost ≤ 100000 := by
      have h := hO2.jobs k (by simpa using hk) (el (el fw2 k).jobs 0) (by rw [el_key _ _ hk]; exact el_mem hj0)
      exact h.2
    have hel : el (ints (k :: r)) 0 = (k : Int) := rfl
    have hi0 : 0 < (ints (k :: r)).length := by simp
    have hi1 : 0 < (List.map (fun k : Nat => (k : Int)) (k :: r)).length := by simp
    have hrl : (k :: r).length ≤ 100 := by
      have h := nodup_lt' fw2.length (k :: r) hO2.nodup (fun x hx => by have h := (hO2.mem x).1 hx; simpa using h.1)
      omega
    have hri : (ints (k :: r)).length = r.length + 1 := by simp
    have hrr : (ints r).length = r.length := by simp
    rw [List.length_cons] at hrl
    refine W.drawM (_) (by kernel_rfl) (fun j => [3, 7, 8, 9, 10, 11, 12, 13, 14, 15, 19, 23, 24, 25, 26, 27, 28].contains j) M Sel.refl ?_
    clear M; intro M
    apply DG.pure_ [0, 1, 2, 4, 5, 6, 16, 17, 18, 20, 21, 22] 18 rfl (by kernel_rfl) (by kernel_rfl)
    · intro w
      refine WL.move rfl rfl ?_
      refine WL.nilCheck rfl rfl ?_
      refine WL.fieldR (off := 0) Try.underlying59 rfl rfl Try.sizeOf57 rfl rfl rfl ?_
      refine WL.move rfl rfl ?_
      refine WL.nilCheck rfl rfl ?_
      refine WL.fieldR (off := 1) Try.underlying59 rfl rfl Try.sizeOf22 rfl rfl rfl ?_
      refine WL.move rfl rfl ?_
      refine WL.nilCheck rfl rfl ?_
      refine WL.fieldR (off := 0) Try.underlying59 rfl rfl Try.sizeOf57 rfl rfl rfl ?_
      refine WL.move rfl rfl ?_
      refine WL.nilCheck rfl rfl ?_
      refine WL.fieldR (off := 1) Try.underlying59 rfl rfl Try.sizeOf22 rfl rfl rfl ?_
      exact Chain.end_ rfl
    apply DG.take [3, 7, 8, 9, 10, 11, 12, 13, 14, 15, 19, 23, 24, 25, 26, 27, 28, 29] 0 rfl (by kernel_rfl) (by kernel_rfl) (M.sel (by first | ((repeat (first | with_reducible exact Sel.refl | with_reducible exact Sel.nil | with_reducible exact Del.here | with_reducible apply Del.there | with_reducible apply Sel.cons | with_reducible apply Sel.drop)); done) | (repeat (first | exact Sel.refl | exact Sel.nil | exact Del.here | apply Del.there | apply Sel.cons | apply Sel.drop))))
    · intro w M
      refine WL.loadR Try.isAgg57 rfl M (by first | ((repeat (first | with_reducible exact Has.here | with_reducible refine Has.there ?_)); done) | (repeat (first | exact Has.here | refine Has.there ?_))) rfl rfl ?_
      refine WL.loadR Try.isAgg22 rfl M (by first | ((repeat (first | with_reducible exact Has.here | with_reducible refine Has.there ?_)); done) | (repeat (first | exact Has.here | refine Has.there ?_))) rfl rfl ?_
      refine WL.idxA (jn := 0) Try.underlying22 Try.sizeOf3 rfl rfl (RdL.isSome (E := intE) (by first | with_reducible assumption | with_reducible exact RdL.mem (by with_reducible assumption) M | exact M.rdL (by first | ((repeat (first | with_reducible exact Has.here | with_reducible refine Has.there ?_)); done) | (repeat (first | exact Has.here | refine Has.there ?_))) | exact RdLH.at (by assumption) (M.sel (by first | ((repeat (first | with_reducible exact Sel.refl | with_reducible exact Sel.nil | with_reducible exact Del.here | with_reducible apply Del.there | with_reducible apply Sel.cons | with_reducible apply Sel.drop)); done) | (repeat (first | exact Sel.refl | exact Sel.nil | exact Del.here | apply Del.there | apply Sel.cons | apply Sel.drop)))) | exact RdL.nil _ _ _) (by omega)) (by omega) (by omega) (by first | exact rfl | exact (Int.toNat_of_nonneg (by omega)).symm) rfl ?_
      refine WL.loadE0 (E := intE) Try.isAgg3 rfl (by first | with_reducible assumption | with_reducible exact RdL.mem (by with_reducible assumption) M | exact M.rdL (by first | ((repeat (first | with_reducible exact Has.here | with_reducible refine Has.there ?_)); done) | (repeat (first | exact Has.here | refine Has.there ?_))) | exact RdLH.at (by assumption) (M.sel (by first | ((repeat (first | with_reducible exact Sel.refl | with_reducible exact Sel.nil | with_reducible exact Del.here | with_reducible apply Del.there | with_reducible apply Sel.cons | with_reducible apply Sel.drop)); done) | (repeat (first | exact Sel.refl | exact Sel.nil | exact Del.here | apply Del.there | apply Sel.cons | apply Sel.drop)))) | exact RdL.nil _ _ _) (by omega) rfl rfl ?_
      refine WL.idxA Try.underlying57 Try.sizeOf62 rfl rfl (RdL.isSome (E := flowE) (by first | with_reducible assumption | with_reducible exact RdL.mem (by with_reducible assumption) M | exact M.rdL (by first | ((repeat (first | with_reducible exact Has.here | with_reducible refine Has.there ?_)); done) | (repeat (first | exact Has.here | refine Has.there ?_))) | exact RdLH.at (by assumption) (M.sel (by first | ((repeat (first | with_reducible exact Sel.refl | with_reducible exact Sel.nil | with_reducible exact Del.here | with_reducible apply Del.there | with_reducible apply Sel.cons | with_reducible apply Sel.drop)); done) | (repeat (first | exact Sel.refl | exact Sel.nil | exact Del.here | apply Del.there | apply Sel.cons | apply Sel.drop)))) | exact RdL.nil _ _ _) (by omega)) (by omega) (by omega) (by first | exact rfl | exact (Int.toNat_of_nonneg (by omega)).symm) rfl ?_
      refine WL.fieldA (off := 2) Try.underlying62 rfl rfl Try.sizeOf27 rfl rfl rfl ?_
      refine WL.loadE (E := flowE) Try.isAgg27 rfl (by first | with_reducible assumption | with_reducible exact RdL.mem (by with_reducible assumption) M | exact M.rdL (by first | ((repeat (first | with_reducible exact Has.here | with_reducible refine Has.there ?_)); done) | (repeat (first | exact Has.here | refine Has.there ?_))) | exact RdLH.at (by assumption) (M.sel (by first | ((repeat (first | with_reducible exact Sel.refl | with_reducible exact Sel.nil | with_reducible exact Del.here | with_reducible apply Del.there | with_reducible apply Sel.cons | with_reducible apply Sel.drop)); done) | (repeat (first | exact Sel.refl | exact Sel.nil | exact Del.here | apply Del.there | apply Sel.cons | apply Sel.drop)))) | exact RdL.nil _ _ _) (by omega) rfl rfl ?_
      refine WL.idxA (jn := 0) Try.underlying27 Try.sizeOf31 rfl rfl (RdL.isSome (E := jobE) (jobsRd (M.starHas (f := FwX.O) (by first | ((repeat (first | with_reducible exact Has.here | with_reducible refine Has.there ?_)); done) | (repeat (first | exact Has.here | refine Has.there ?_))) (el_mem hk))) (by omega)) (by omega) (by omega) (by first | exact rfl | exact (Int.toNat_of_nonneg (by omega)).symm) rfl ?_
      refine WL.fieldA (off := 1) Try.underlying31 rfl rfl Try.sizeOf3 rfl rfl rfl ?_
      refine WL.loadE (E := jobE) Try.isAgg3 rfl (jobsRd (M.starHas (f := FwX.O) (by first | ((repeat (first | with_reducible exact Has.here | with_reducible refine Has.there ?_)); done) | (repeat (first | exact Has.here | refine Has.there ?_))) (el_mem hk))) (by omega) rfl rfl ?_
      refine WL.loadR Try.isAgg57 rfl M (by first | ((repeat (first | with_reducible exact Has.here | with_reducible refine Has.there ?_)); done) | (repeat (first | exact Has.here | refine Has.there ?_))) rfl rfl ?_
      refine WL.loadR Try.isAgg22 rfl M (by first | ((repeat (first | with_reducible exact Has.here | with_reducible refine Has.there ?_)); done) | (repeat (first | exact Has.here | refine Has.there ?_))) rfl rfl ?_
      refine WL.idxA (jn := 0) Try.underlying22 Try.sizeOf3 rfl rfl (RdL.isSome (E := intE) (by first | with_reducible assumption | with_reducible exact RdL.mem (by with_reducible assumption) M | exact M.rdL (by first | ((repeat (first | with_reducible exact Has.here | with_reducible refine Has.there ?_)); done) | (repeat (first | exact Has.here | refine Has.there ?_))) | exact RdLH.at (by assumption) (M.sel (by first | ((repeat (first | with_reducible exact Sel.refl | with_reducible exact Sel.nil | with_reducible exact Del.here | with_reducible apply Del.there | with_reducible apply Sel.cons | with_reducible apply Sel.drop)); done) | (repeat (first | exact Sel.refl | exact Sel.nil | exact Del.here | apply Del.there | apply Sel.cons | apply Sel.drop)))) | exact RdL.nil _ _ _) (by omega)) (by omega) (by omega) (by first | exact rfl | exact (Int.toNat_of_nonneg (by omega)).symm) rfl ?_
      refine WL.loadE0 (E := intE) Try.isAgg3 rfl (by first | with_reducible assumption | with_reducible exact RdL.mem (by with_reducible assumption) M | exact M.rdL (by first | ((repeat (first | with_reducible exact Has.here | with_reducible refine Has.there ?_)); done) | (repeat (first | exact Has.here | refine Has.there ?_))) | exact RdLH.at (by assumption) (M.sel (by first | ((repeat (first | with_reducible exact Sel.refl | with_reducible exact Sel.nil | with_reducible exact Del.here | with_reducible apply Del.there | with_reducible apply Sel.cons | with_reducible apply Sel.drop)); done) | (repeat (first | exact Sel.refl | exact Sel.nil | exact Del.here | apply Del.there | apply Sel.cons | apply Sel.drop)))) | exact RdL.nil _ _ _) (by omega) rfl rfl ?_
      refine WL.idxA Try.underlying57 Try.sizeOf62 rfl rfl (RdL.isSome (E := flowE) (by first | with_reducible assumption | with_reducible exact RdL.mem (by with_reducible assumption) M | exact M.rdL (by first | ((repeat (first | with_reducible exact Has.here | with_reducible refine Has.there ?_)); done) | (repeat (first | exact Has.here | refine Has.there ?_))) | exact RdLH.at (by assumption) (M.sel (by first | ((repeat (first | with_reducible exact Sel.refl | with_reducible exact Sel.nil | with_reducible exact Del.here | with_reducible apply Del.there | with_reducible apply Sel.cons | with_reducible apply Sel.drop)); done) | (repeat (first | exact Sel.refl | exact Sel.nil | exact Del.here | apply Del.there | apply Sel.cons | apply Sel.drop)))) | exact RdL.nil _ _ _) (by omega)) (by omega) (by omega) (by first | exact rfl | exact (Int.toNat_of_nonneg (by omega)).symm) rfl ?_
      refine WL.fieldA (off := 1) Try.underlying62 rfl rfl Try.sizeOf3 rfl rfl rfl ?_
      refine WL.loadE (E := flowE) Try.isAgg3 rfl (by first | with_reducible assumption | with_reducible exact RdL.mem (by with_reducible assumption) M | exact M.rdL (by first | ((repeat (first | with_reducible exact Has.here | with_reducible refine Has.there ?_)); done) | (repeat (first | exact Has.here | refine Has.there ?_))) | exact RdLH.at (by assumption) (M.sel (by first | ((repeat (first | with_reducible exact Sel.refl | with_reducible exact Sel.nil | with_reducible exact Del.here | with_reducible apply Del.there | with_reducible apply Sel.cons | with_reducible apply Sel.drop)); done) | (repeat (first | exact Sel.refl | exact Sel.nil | exact Del.here | apply Del.there | apply Sel.cons | apply Sel.drop)))) | exact RdL.nil _ _ _) (by omega) rfl rfl ?_
      refine WL.gtr rfl rfl rfl ?_
      exact Chain.end_ rfl
    refine DG.end_ (by kernel_rfl) ?_
    refine WX.next ?_
    refine W.sub [(0, _), (2, _), (53, _)] (.cons rfl (.cons rfl (.cons rfl .nil))) ?_
    refine W.ite rfl (fun c3 => ?_) (fun c3 => ?_)
    · obtain ⟨k2, r2, hkr⟩ : ∃ k2 r2, r ++ [k] = k2 :: r2 := by
        cases r with
        | nil => exact ⟨k, [], rfl⟩
        | cons a r => exact ⟨a, r ++ [k], rfl⟩
      have hk2 : k2 < fw2.length := by
        have hm : k2 ∈ k :: r := by
          have h : k2 ∈ r ++ [k] := by rw [hkr]; simp
          rcases List.mem_append.1 h with h | h
          · exact List.mem_cons_of_mem _ h
          · rw [List.mem_singleton] at h; subst h; simp
        have := ((hO2.mem k2).1 hm).1
        simpa using this
      have e7 : ints r ++ [(k : Int)] = ints (k2 :: r2) := by rw [← hkr]; simp
      have hgo : goes ⟨fw2.map FwX.key, k :: r, true⟩ := by
        unfold goes
        rw [hF]
        exact c3
      have hst := hO2.step hr2 hgo rfl
      have hpe := popEnd_step hO2 hr2 hgo rfl
      have hse : stepS ⟨fw2.map FwX.key, k :: r, true⟩ = ⟨(fw2.set k2 { el fw2 k2 with credit := (el fw2 k2).credit + (el fw2 k2).share }).map FwX.key, k2 :: r2, true⟩ := by
        unfold stepS rotS beginS Sd.f Sd.hd
        dsimp only [List.tail_cons, List.headD_cons]
        rw [hkr]
        dsimp only [List.headD_cons]
        rw [el_key _ _ hk2, key_set]
        rfl
      rw [hse] at hst hpe
      refine W.skip ?_
      refine WX.next ?_
      refine W.block ?_
      refine W.seq ?_
      refine W.region ?_
      refine WL.move rfl rfl ?_
      refine WL.nilCheck rfl rfl ?_
      refine WL.fieldR (off := 1) Try.underlying59 rfl rfl Try.sizeOf22 rfl rfl rfl ?_
      refine WL.loadR Try.isAgg22 rfl M (by first | ((repeat (first | with_reducible exact Has.here | with_reducible refine Has.there ?_)); done) | (repeat (first | exact Has.here | refine Has.there ?_))) rfl rfl ?_
      refine WL.idxA (jn := 0) Try.underlying22 Try.sizeOf3 rfl rfl (RdL.isSome (E := intE) (by first | with_reducible assumption | with_reducible exact RdL.mem (by with_reducible assumption) M | exact M.rdL (by first | ((repeat (first | with_reducible exact Has.here | with_reducible refine Has.there ?_)); done) | (repeat (first | exact Has.here | refine Has.there ?_))) | exact RdLH.at (by assumption) (M.sel (by first | ((repeat (first | with_reducible exact Sel.refl | with_reducible exact Sel.nil | with_reducible exact Del.here | with_reducible apply Del.there | with_reducible apply Sel.cons | with_reducible apply Sel.drop)); done) | (repeat (first | exact Sel.refl | exact Sel.nil | exact Del.here | apply Del.there | apply Sel.cons | apply Sel.drop)))) | exact RdL.nil _ _ _) (by omega)) (by omega) (by omega) (by first | exact rfl | exact (Int.toNat_of_nonneg (by omega)).symm) rfl ?_
      refine WL.loadE0 (E := intE) Try.isAgg3 rfl (by first | with_reducible assumption | with_reducible exact RdL.mem (by with_reducible assumption) M | exact M.rdL (by first | ((repeat (first | with_reducible exact Has.here | with_reducible refine Has.there ?_)); done) | (repeat (first | exact Has.here | refine Has.there ?_))) | exact RdLH.at (by assumption) (M.sel (by first | ((repeat (first | with_reducible exact Sel.refl | with_reducible exact Sel.nil | with_reducible exact Del.here | with_reducible apply Del.there | with_reducible apply Sel.cons | with_reducible apply Sel.drop)); done) | (repeat (first | exact Sel.refl | exact Sel.nil | exact Del.here | apply Del.there | apply Sel.cons | apply Sel.drop)))) | exact RdL.nil _ _ _) (by omega) rfl rfl ?_
      refine WL.assign rfl rfl ?_
      refine WL.nil ?_
      refine WX.next ?_
      refine W.sub [(0, _), (2, _), (4, _)] (.cons rfl (.cons rfl (.cons rfl .nil))) ?_
      refine W.seq ?_
      refine W.region ?_
      refine WL.move rfl rfl ?_
      refine WL.move rfl rfl ?_
      refine WL.nilCheck rfl rfl ?_
      refine WL.fieldR (off := 1) Try.underlying59 rfl rfl Try.sizeOf22 rfl rfl rfl ?_
      refine WL.loadR Try.isAgg22 rfl M (by first | ((repeat (first | with_reducible exact Has.here | with_reducible refine Has.there ?_)); done) | (repeat (first | exact Has.here | refine Has.there ?_))) rfl rfl ?_
      refine WL.cutL (m' := (ints r).length) Try.underlying22 Try.sizeOf3 rfl rfl (by omega) (by omega) (by first | exact rfl | exact (Int.toNat_of_nonneg (by omega)).symm) (by first | (rw [sub_length (by omega) (by omega)]) | (simp only [List.length_drop] <;> omega) | (simp only [List.length_take] <;> omega) | (simp only [List.length_take, List.length_drop] <;> omega) | (simp; done) | (simp; omega)) rfl ?_
      refine WL.call Try.call27 rfl (sClone_ok (l := ints r) (RdL.suf (l := ints (k :: r)) (i := 1) (M.rdL (by first | ((repeat (first | with_reducible exact Has.here | with_reducible refine Has.there ?_)); done) | (repeat (first | exact Has.here | refine Has.there ?_)))) (by simp)) (by omega)) rfl ?_
      rintro _ w ⟨A7, c7_, rfl, m⟩
      replace M := M.call1 m; clear m
      refine WL.move rfl rfl ?_
      refine WL.buildL (E := intE) (l := [(k : Int)]) Try.elem3 M rfl rfl rfl rfl rfl rfl ?_
      intro g7_8 w M
      refine WL.appendL (E := intE) Try.elem3 rfl rfl M (by first | ((repeat (first | with_reducible exact Del.here | with_reducible apply Del.there)); done) | (repeat (first | exact Del.here | apply Del.there))) (by first | with_reducible assumption | with_reducible exact RdL.mem (by with_reducible assumption) M | exact M.rdL (by first | ((repeat (first | with_reducible exact Has.here | with_reducible refine Has.there ?_)); done) | (repeat (first | exact Has.here | refine Has.there ?_))) | exact RdLH.at (by assumption) (M.sel (by first | ((repeat (first | with_reducible exact Sel.refl | with_reducible exact Sel.nil | with_reducible exact Del.here | with_reducible apply Del.there | with_reducible apply Sel.cons | with_reducible apply Sel.drop)); done) | (repeat (first | exact Sel.refl | exact Sel.nil | exact Del.here | apply Del.there | apply Sel.cons | apply Sel.drop)))) | exact RdL.nil _ _ _) rfl rfl (by first | omega | (simp; done) | (simp; omega)) (by first | (simp only [maxLen]; omega) | (simp [maxLen]; done) | (simp [maxLen]; omega)) rfl ?_
      intro A7_9 cap7_9 w M
      refine WL.nilCheck rfl rfl ?_
      refine WL.fieldR (off := 1) Try.underlying59 rfl rfl Try.sizeOf22 rfl rfl rfl ?_
      refine WL.storeR Try.sizeOf22 rfl rfl rfl M (by first | ((repeat (first | with_reducible exact Has.here | with_reducible refine Has.there ?_)); done) | (repeat (first | exact Has.here | refine Has.there ?_))) (by repeat (first | exact SetAt.zero | apply SetAt.succ)) (by first | ((repeat (first | with_reducible exact Upd.here | with_reducible apply Upd.there)); done) | (repeat (first | exact Upd.here | apply Upd.there))) ?_
      intro w M
      refine WL.nil ?_
      refine WX.next ?_
      refine W.sub [(0, _), (2, _)] (.cons rfl (.cons rfl .nil)) ?_
      rw [e7] at M
      refine W.region ?_
      refine WL.move rfl rfl ?_
      refine WL.call Try.call26 rfl (begin_ok g Af cf fw2 A7_9 cap7_9 k2 r2 true n (by omega) hk2 (hlo k2 hk2) (hsh k2 hk2) w0 _ (Asr.row g0_0 31 [.int .i64 0, .int .i64 0, .int .u64 0] :: L) (M.sel (by first | ((repeat (first | with_reducible exact Sel.refl | with_reducible exact Sel.nil | with_reducible exact Del.here | with_reducible apply Del.there | with_reducible apply Sel.cons | with_reducible apply Sel.drop)); done) | (repeat (first | exact Sel.refl | exact Sel.nil | exact Del.here | apply Del.there | apply Sel.cons | apply Sel.drop))))) rfl ?_
      rintro _ w M
      unfold SdX.L SdX.row at M
      simp only [List.cons_append, List.nil_append] at M
      try dsimp only at M
      refine WL.nil ?_
      refine WX.blockNormal ?_
      refine WX.round ((fw2.set k2 { el fw2 k2 with credit := (el fw2 k2).credit + (el fw2 k2).share }, (A7_9, cap7_9, k2 :: r2))) (by (repeat' (first | exact envSub.nil | refine envSub.cons ?_ ?_)) <;> first | rfl | (refine congrArg some ?_; refine congrArg (Value.int _) ?_; first | omega | (dsimp only; omega)) | (simp; done) | (refine congrArg some ?_; dsimp only; congr 1; omega) | (simp; omega)) ⟨M.sel (by first | ((repeat (first | with_reducible exact Sel.refl | with_reducible exact Sel.nil | with_reducible exact Del.here | with_reducible apply Del.there | with_reducible apply Sel.cons | with_reducible apply Sel.drop)); done) | (repeat (first | exact Sel.refl | exact Sel.nil | exact Del.here | apply Del.there | apply Sel.cons | apply Sel.drop))), ⟨hst.1, hst.2.1, hpe.symm.trans hp2, by simp; exact hl2⟩⟩ hst.2.2.2
    · have hgo : ¬ goes ⟨fw2.map FwX.key, k :: r, true⟩ := by
        unfold goes
        rw [hF]
        exact c3
      rw [popEnd_stop hgo] at hp2
      refine W.exit ?_
      refine WX.thenExit ?_
      refine WX.thenExit ?_
      refine WX.blockHere ?_
      refine WX.next ?_
      refine W.seq ?_
      refine W.drawM (_) (by kernel_rfl) (fun j => [3, 7, 8, 9].contains j) M Sel.refl ?_
      clear M; intro M
      apply DG.pure_ [0, 1, 2, 4, 5, 6] 6 rfl (by kernel_rfl) (by kernel_rfl)
      · intro w
        refine WL.move rfl rfl ?_
        refine WL.nilCheck rfl rfl ?_
        refine WL.fieldR (off := 0) Try.underlying59 rfl rfl Try.sizeOf57 rfl rfl rfl ?_
        refine WL.move rfl rfl ?_
        refine WL.nilCheck rfl rfl ?_
        refine WL.fieldR (off := 1) Try.underlying59 rfl rfl Try.sizeOf22 rfl rfl rfl ?_
        exact Chain.end_ rfl
      apply DG.take [3, 7, 8, 9, 10, 11] 0 rfl (by kernel_rfl) (by kernel_rfl) (M.sel (by first | ((repeat (first | with_reducible exact Sel.refl | with_reducible exact Sel.nil | with_reducible exact Del.here | with_reducible apply Del.there | with_reducible apply Sel.cons | with_reducible apply Sel.drop)); done) | (repeat (first | exact Sel.refl | exact Sel.nil | exact Del.here | apply Del.there | apply Sel.cons | apply Sel.drop))))
      · intro w M
        refine WL.loadR Try.isAgg57 rfl M (by first | ((repeat (first | with_reducible exact Has.here | with_reducible refine Has.there ?_)); done) | (repeat (first | exact Has.here | refine Has.there ?_))) rfl rfl ?_
        refine WL.loadR Try.isAgg22 rfl M (by first | ((repeat (first | with_reducible exact Has.here | with_reducible refine Has.there ?_)); done) | (repeat (first | exact Has.here | refine Has.there ?_))) rfl rfl ?_
        refine WL.idxA (jn := 0) Try.underlying22 Try.sizeOf3 rfl rfl (RdL.isSome (E := intE) (by first | with_reducible assumption | with_reducible exact RdL.mem (by with_reducible assumption) M | exact M.rdL (by first | ((repeat (first | with_reducible exact Has.here | with_reducible refine Has.there ?_)); done) | (repeat (first | exact Has.here | refine Has.there ?_))) | exact RdLH.at (by assumption) (M.sel (by first | ((repeat (first | with_reducible exact Sel.refl | with_reducible exact Sel.nil | with_reducible exact Del.here | with_reducible apply Del.there | with_reducible apply Sel.cons | with_reducible apply Sel.drop)); done) | (repeat (first | exact Sel.refl | exact Sel.nil | exact Del.here | apply Del.there | apply Sel.cons | apply Sel.drop)))) | exact RdL.nil _ _ _) (by omega)) (by omega) (by omega) (by first | exact rfl | exact (Int.toNat_of_nonneg (by omega)).symm) rfl ?_
        refine WL.loadE0 (E := intE) Try.isAgg3 rfl (by first | with_reducible assumption | with_reducible exact RdL.mem (by with_reducible assumption) M | exact M.rdL (by first | ((repeat (first | with_reducible exact Has.here | with_reducible refine Has.there ?_)); done) | (repeat (first | exact Has.here | refine Has.there ?_))) | exact RdLH.at (by assumption) (M.sel (by first | ((repeat (first | with_reducible exact Sel.refl | with_reducible exact Sel.nil | with_reducible exact Del.here | with_reducible apply Del.there | with_reducible apply Sel.cons | with_reducible apply Sel.drop)); done) | (repeat (first | exact Sel.refl | exact Sel.nil | exact Del.here | apply Del.there | apply Sel.cons | apply Sel.drop)))) | exact RdL.nil _ _ _) (by omega) rfl rfl ?_
        refine WL.idxA Try.underlying57 Try.sizeOf62 rfl rfl (RdL.isSome (E := flowE) (by first | with_reducible assumption | with_reducible exact RdL.mem (by with_reducible assumption) M | exact M.rdL (by first | ((repeat (first | with_reducible exact Has.here | with_reducible refine Has.there ?_)); done) | (repeat (first | exact Has.here | refine Has.there ?_))) | exact RdLH.at (by assumption) (M.sel (by first | ((repeat (first | with_reducible exact Sel.refl | with_reducible exact Sel.nil | with_reducible exact Del.here | with_reducible apply Del.there | with_reducible apply Sel.cons | with_reducible apply Sel.drop)); done) | (repeat (first | exact Sel.refl | exact Sel.nil | exact Del.here | apply Del.there | apply Sel.cons | apply Sel.drop)))) | exact RdL.nil _ _ _) (by omega)) (by omega) (by omega) (by first | exact rfl | exact (Int.toNat_of_nonneg (by omega)).symm) rfl ?_
        refine WL.assign rfl rfl ?_
        exact Chain.end_ rfl
      refine DG.end_ (by kernel_rfl) ?_
      refine WX.next ?_
      refine W.sub [(0, _), (2, _), (5, _)] (.cons rfl (.cons rfl (.cons rfl .nil))) ?_
      refine W.seq ?_
      refine W.region ?_
      refine WL.move rfl rfl ?_
      refine WL.nilCheck rfl rfl ?_
      refine WL.fieldA (off := 2) Try.underlying62 rfl rfl Try.sizeOf27 rfl rfl rfl ?_
      refine WL.loadE (E := flowE) Try.isAgg27 rfl (by first | with_reducible assumption | with_reducible exact RdL.mem (by with_reducible assumption) M | exact M.rdL (by first | ((repeat (first | with_reducible exact Has.here | with_reducible refine Has.there ?_)); done) | (repeat (first | exact Has.here | refine Has.there ?_))) | exact RdLH.at (by assumption) (M.sel (by first | ((repeat (first | with_reducible exact Sel.refl | with_reducible exact Sel.nil | with_reducible exact Del.here | with_reducible apply Del.there | with_reducible apply Sel.cons | with_reducible apply Sel.drop)); done) | (repeat (first | exact Sel.refl | exact Sel.nil | exact Del.here | apply Del.there | apply Sel.cons | apply Sel.drop)))) | exact RdL.nil _ _ _) (by omega) rfl rfl ?_
      refine WL.idxA (jn := 0) Try.underlying27 Try.sizeOf31 rfl rfl (RdL.isSome (E := jobE) (jobsRd (M.starHas (f := FwX.O) (by first | ((repeat (first | with_reducible exact Has.here | with_reducible refine Has.there ?_)); done) | (repeat (first | exact Has.here | refine Has.there ?_))) (el_mem hk))) (by omega)) (by omega) (by omega) (by first | exact rfl | exact (Int.toNat_of_nonneg (by omega)).symm) rfl ?_
      refine WL.loadL (E := jobE) (cs := [_, _, _]) Try.isAgg31 Try.sizeOf31 rfl (jobsRd (M.starHas (f := FwX.O) (by first | ((repeat (first | with_reducible exact Has.here | with_reducible refine Has.there ?_)); done) | (repeat (first | exact Has.here | refine Has.there ?_))) (el_mem hk))) rfl (by omega) rfl rfl ?_
      refine WL.alloc Try.zeroValue31 M rfl ?_
      intro g10_6 w M
      try simp only [Value.cells] at M
      try simp only [List.toList_toArray] at M
      refine WL.storeWA Try.sizeOf31 rfl rfl (by repeat (first | exact oneNil | refine oneCons rfl ?_)) rfl rfl M (by first | ((repeat (first | with_reducible exact Upd.here | with_reducible apply Upd.there)); done) | (repeat (first | exact Upd.here | apply Upd.there))) ?_
      intro w M
      refine WL.nil ?_
      refine WX.next ?_
      refine W.sub [(0, _), (2, _), (5, _), (6, _)] (.cons rfl (.cons rfl (.cons rfl (.cons rfl .nil)))) ?_
      refine W.seq ?_
      have M2 := Mem.starAt (f := FwX.O) (M.sel (K := Asr.star (fw2.map FwX.O) :: Asr.row g10_6 31 [.int .i64 (el (el fw2 k).jobs 0).flow, .int .i64 (el (el fw2 k).jobs 0).cost, .int .u64 ((el (el fw2 k).jobs 0).id : Int)] :: Asr.row g0_0 31 [.int .i64 0, .int .i64 0, .int .u64 0] :: Asr.row g 59 [.slice Af fw2.length cf, .slice Ar2 (ints (k :: r)).length cr2, .bool true, .int .i64 n] :: Asr.lst flowE Af cf fw2 :: Asr.lst intE Ar2 cr2 (ints (k :: r)) :: L) (by first | ((repeat (first | with_reducible exact Sel.refl | with_reducible exact Sel.nil | with_reducible exact Del.here | with_reducible apply Del.there | with_reducible apply Sel.cons | with_reducible apply Sel.drop)); done) | (repeat (first | exact Sel.refl | exact Sel.nil | exact Del.here | apply Del.there | apply Sel.cons | apply Sel.drop)))) k hk
      unfold FwX.O at M2
      replace M := M2
      refine W.region ?_
      refine WL.move rfl rfl ?_
      refine WL.move rfl rfl ?_
      refine WL.nilCheck rfl rfl ?_
      refine WL.fieldA (off := 2) Try.underlying62 rfl rfl Try.sizeOf27 rfl rfl rfl ?_
      refine WL.loadE (E := flowE) Try.isAgg27 rfl (by first | with_reducible assumption | with_reducible exact RdL.mem (by with_reducible assumption) M | exact M.rdL (by first | ((repeat (first | with_reducible exact Has.here | with_reducible refine Has.there ?_)); done) | (repeat (first | exact Has.here | refine Has.there ?_))) | exact RdLH.at (by assumption) (M.sel (by first | ((repeat (first | with_reducible exact Sel.refl | with_reducible exact Sel.nil | with_reducible exact Del.here | with_reducible apply Del.there | with_reducible apply Sel.cons | with_reducible apply Sel.drop)); done) | (repeat (first | exact Sel.refl | exact Sel.nil | exact Del.here | apply Del.there | apply Sel.cons | apply Sel.drop)))) | exact RdL.nil _ _ _) (by omega) rfl rfl ?_
      refine WL.call Try.call28 rfl (sDelJ_ok 0 1 (by omega) (by omega) (by omega) w0 _ _ _ M (by first | ((repeat (first | with_reducible exact Del.here | with_reducible apply Del.there)); done) | (repeat (first | exact Del.here | apply Del.there)))) rfl ?_
      rintro _ w ⟨rfl, M⟩
      simp only [List.take_zero, List.nil_append, List.drop_one] at M ⊢
      refine WL.nilCheck rfl rfl ?_
      refine WL.fieldA (off := 2) Try.underlying62 rfl rfl Try.sizeOf27 rfl rfl rfl ?_
      refine WL.storeE (E := flowE) (x' := { el fw2 k with jobs := (el fw2 k).jobs.tail }) Try.sizeOf27 rfl rfl rfl M (by first | ((repeat (first | with_reducible exact Has.here | with_reducible refine Has.there ?_)); done) | (repeat (first | exact Has.here | refine Has.there ?_))) (by omega) (by repeat (first | exact SetAt.zero | apply SetAt.succ)) (by first | ((repeat (first | with_reducible exact Upd.here | with_reducible apply Upd.there)); done) | (repeat (first | exact Upd.here | apply Upd.there))) ?_
      intro w M
      refine WL.nil ?_
      refine WX.next ?_
      refine W.sub [(0, _), (2, _), (5, _), (6, _)] (.cons rfl (.cons rfl (.cons rfl (.cons rfl .nil)))) ?_
      refine W.seq ?_
      obtain ⟨fw3, hf3⟩ : ∃ f, fw2.set k { el fw2 k with jobs := (el fw2 k).jobs.tail } = f := ⟨_, rfl⟩
      rw [hf3] at M
      have hk3 : k < fw3.length := by rw [← hf3]; simpa using hk
      have e3 : el fw3 k = { el fw2 k with jobs := (el fw2 k).jobs.tail } := by rw [← hf3, el_set _ _ _ _ hk, if_pos rfl]
      have hc3 : (el fw3 k).credit = (el fw2 k).credit := by rw [e3]
      have hlok := hlo k hk
      refine W.drawM ([Asr.lst flowE Af cf fw3, Asr.row g10_6 31 [.int .i64 (el (el fw2 k).jobs 0).flow, .int .i64 (el (el fw2 k).jobs 0).cost, .int .u64 ((el (el fw2 k).jobs 0).id : Int)]]) (by kernel_rfl) (fun j => [3, 5].contains j) M (by first | ((repeat (first | with_reducible exact Sel.refl | with_reducible exact Sel.nil | with_reducible exact Del.here | with_reducible apply Del.there | with_reducible apply Sel.cons | with_reducible apply Sel.drop)); done) | (repeat (first | exact Sel.refl | exact Sel.nil | exact Del.here | apply Del.there | apply Sel.cons | apply Sel.drop))) ?_
      clear M; intro M
      apply DG.pure_ [0, 1, 2, 4] 6 rfl (by kernel_rfl) (by kernel_rfl)
      · intro w
        refine WL.move rfl rfl ?_
        refine WL.nilCheck rfl rfl ?_
        refine WL.fieldA (off := 1) Try.underlying62 rfl rfl Try.sizeOf3 rfl rfl rfl ?_
        refine WL.fieldR (off := 1) Try.underlying31 rfl rfl Try.sizeOf3 rfl rfl rfl ?_
        exact Chain.end_ rfl
      apply DG.take [3, 5, 6, 7, 8] 1 rfl (by kernel_rfl) (by kernel_rfl) (M.sel (by first | ((repeat (first | with_reducible exact Sel.refl | with_reducible exact Sel.nil | with_reducible exact Del.here | with_reducible apply Del.there | with_reducible apply Sel.cons | with_reducible apply Sel.drop)); done) | (repeat (first | exact Sel.refl | exact Sel.nil | exact Del.here | apply Del.there | apply Sel.cons | apply Sel.drop))))
      · intro w M
        refine WL.loadE (E := flowE) Try.isAgg3 rfl (by first | with_reducible assumption | with_reducible exact RdL.mem (by with_reducible assumption) M | exact M.rdL (by first | ((repeat (first | with_reducible exact Has.here | with_reducible refine Has.there ?_)); done) | (repeat (first | exact Has.here | refine Has.there ?_))) | exact RdLH.at (by assumption) (M.sel (by first | ((repeat (first | with_reducible exact Sel.refl | with_reducible exact Sel.nil | with_reducible exact Del.here | with_reducible apply Del.there | with_reducible apply Sel.cons | with_reducible apply Sel.drop)); done) | (repeat (first | exact Sel.refl | exact Sel.nil | exact Del.here | apply Del.there | apply Sel.cons | apply Sel.drop)))) | exact RdL.nil _ _ _) (by omega) rfl rfl ?_
        refine WL.loadR Try.isAgg3 rfl M (by first | ((repeat (first | with_reducible exact Has.here | with_reducible refine Has.there ?_)); done) | (repeat (first | exact Has.here | refine Has.there ?_))) rfl rfl ?_
        refine WL.sub' rfl rfl (wI64 (by rw [hc3]; omega)) rfl ?_
        refine WL.nilCheck rfl rfl ?_
        refine WL.fieldA (off := 1) Try.underlying62 rfl rfl Try.sizeOf3 rfl rfl rfl ?_
        exact Chain.end_ rfl
      refine DG.step 9 0 rfl (by kernel_rfl) ?_
      refine WL.storeE (E := flowE) (x' := { el fw3 k with credit := (el fw3 k).credit - (el (el fw2 k).jobs 0).cost }) Try.sizeOf3 rfl rfl rfl M (by first | ((repeat (first | with_reducible exact Has.here | with_reducible refine Has.there ?_)); done) | (repeat (first | exact Has.here | refine Has.there ?_))) (by omega) (by repeat (first | exact SetAt.zero | apply SetAt.succ)) (by first | ((repeat (first | with_reducible exact Upd.here | with_reducible apply Upd.there)); done) | (repeat (first | exact Upd.here | apply Upd.there))) ?_
      intro w M
      refine DG.go (G := fun j => [3, 5].contains j) (i := 9) (f' := 0) (done := [0, 1, 2, 4, 3, 5, 6, 7, 8]) (fun h => by cases h) ?_
      refine DG.end_ (by kernel_rfl) ?_
      refine WX.next ?_
      refine W.sub [(0, _), (2, _), (5, _), (6, _)] (.cons rfl (.cons rfl (.cons rfl (.cons rfl .nil)))) ?_
      refine W.seq ?_
      obtain ⟨fw4, hf4⟩ : ∃ f, fw3.set k { el fw3 k with credit := (el fw3 k).credit - (el (el fw2 k).jobs 0).cost } = f := ⟨_, rfl⟩
      rw [hf4] at M
      have hk4 : k < fw4.length := by rw [← hf4]; simpa using hk3
      have e4 : el fw4 k = { el fw2 k with credit := (el fw2 k).credit - (el (el fw2 k).jobs 0).cost, jobs := (el fw2 k).jobs.tail } := by rw [← hf4, el_set _ _ _ _ hk3, if_pos rfl, e3]
      have ht4 : (el fw4 k).jobs.length = (el fw2 k).jobs.tail.length := by rw [e4]
      have hjJ : popJ s0 = el (el fw2 k).jobs 0 := by unfold popJ takeJ; rw [← hp2, hF]; rfl
      have hT := hok.pop1 hn0
      have hTn := pop1_nJ hok hn0
      rw [← hp2] at hT hTn
      have hTk := hT.1.take hT.2.1 hT.2.2.1 hT.2.2.2
      have hpS : popS s0 = SdX.s ⟨g, Af, cf, fw2.set k { el fw2 k with credit := if (el fw2 k).jobs.tail = [] then 0 else (el fw2 k).credit - (el (el fw2 k).jobs 0).cost, jobs := (el fw2 k).jobs.tail }, Ar2, cr2, if (el fw2 k).jobs.tail = [] then r else k :: r, if (el fw2 k).jobs.tail = [] then false else true, n - 1⟩ := by
        unfold popS
        rw [← hp2]
        unfold takeS takeJ SdX.s
        dsimp only
        rw [hF, key_set]
        rfl
      have hpO : Ok (popS s0) := by unfold popS; rw [← hp2]; exact hTk.1
      have hpN : (n - 1 : Int) = (nJ (popS s0).fl : Int) := by
        have h := hTk.2
        have e : popS s0 = takeS ⟨fw2.map FwX.key, k :: r, true⟩ := by unfold popS; rw [← hp2]
        rw [e]
        omega
      rw [hpS] at hpO hpN
      refine W.region ?_
      refine WL.move rfl rfl ?_
      refine WL.nilCheck rfl rfl ?_
      refine WL.fieldR (off := 3) Try.underlying59 rfl rfl Try.sizeOf3 rfl rfl rfl ?_
      refine WL.loadR Try.isAgg3 rfl M (by first | ((repeat (first | with_reducible exact Has.here | with_reducible refine Has.there ?_)); done) | (repeat (first | exact Has.here | refine Has.there ?_))) rfl rfl ?_
      refine WL.sub' rfl rfl (by first | exact wI64 (by omega) | rfl) rfl ?_
      refine WL.nilCheck rfl rfl ?_
      refine WL.fieldR (off := 3) Try.underlying59 rfl rfl Try.sizeOf3 rfl rfl rfl ?_
      refine WL.storeR Try.sizeOf3 rfl rfl rfl M (by first | ((repeat (first | with_reducible exact Has.here | with_reducible refine Has.there ?_)); done) | (repeat (first | exact Has.here | refine Has.there ?_))) (by repeat (first | exact SetAt.zero | apply SetAt.succ)) (by first | ((repeat (first | with_reducible exact Upd.here | with_reducible apply Upd.there)); done) | (repeat (first | exact Upd.here | apply Upd.there))) ?_
      intro w M
      refine WL.nil ?_
      refine WX.next ?_
      refine W.sub [(0, _), (2, _), (5, _), (6, _)] (.cons rfl (.cons rfl (.cons rfl (.cons rfl .nil)))) ?_
      refine W.seq ?_
      refine W.seq ?_
      refine W.region ?_
      refine WL.move rfl rfl ?_
      refine WL.nilCheck rfl rfl ?_
      refine WL.fieldA (off := 2) Try.underlying62 rfl rfl Try.sizeOf27 rfl rfl rfl ?_
      refine WL.loadE (E := flowE) Try.isAgg27 rfl (by first | with_reducible assumption | with_reducible exact RdL.mem (by with_reducible assumption) M | exact M.rdL (by first | ((repeat (first | with_reducible exact Has.here | with_reducible refine Has.there ?_)); done) | (repeat (first | exact Has.here | refine Has.there ?_))) | exact RdLH.at (by assumption) (M.sel (by first | ((repeat (first | with_reducible exact Sel.refl | with_reducible exact Sel.nil | with_reducible exact Del.here | with_reducible apply Del.there | with_reducible apply Sel.cons | with_reducible apply Sel.drop)); done) | (repeat (first | exact Sel.refl | exact Sel.nil | exact Del.here | apply Del.there | apply Sel.cons | apply Sel.drop)))) | exact RdL.nil _ _ _) (by omega) rfl rfl ?_
      refine WL.len Try.underlying27 rfl rfl ?_
      refine WL.eqI rfl rfl rfl ?_
      refine WL.nil ?_
      refine WX.next ?_
      refine W.sub [(0, _), (2, _), (5, _), (6, _), (120, _)] (.cons rfl (.cons rfl (.cons rfl (.cons rfl (.cons rfl .nil))))) ?_
      refine W.ite rfl (fun c4 => ?_) (fun c4 => ?_)
      · refine W.seq ?_
        refine W.region ?_
        refine WL.move rfl rfl ?_
        refine WL.nilCheck rfl rfl ?_
        refine WL.fieldA (off := 1) Try.underlying62 rfl rfl Try.sizeOf3 rfl rfl rfl ?_
        refine WL.storeE (E := flowE) (x' := { el fw4 k with credit := 0 }) Try.sizeOf3 rfl rfl rfl M (by first | ((repeat (first | with_reducible exact Has.here | with_reducible refine Has.there ?_)); done) | (repeat (first | exact Has.here | refine Has.there ?_))) (by omega) (by repeat (first | exact SetAt.zero | apply SetAt.succ)) (by first | ((repeat (first | with_reducible exact Upd.here | with_reducible apply Upd.there)); done) | (repeat (first | exact Upd.here | apply Upd.there))) ?_
        intro w M
        refine WL.nil ?_
        refine WX.next ?_
        refine W.sub [(0, _), (2, _), (6, _)] (.cons rfl (.cons rfl (.cons rfl .nil))) ?_
        refine W.seq ?_
        refine W.region ?_
        refine WL.move rfl rfl ?_
        refine WL.move rfl rfl ?_
        refine WL.nilCheck rfl rfl ?_
        refine WL.fieldR (off := 1) Try.underlying59 rfl rfl Try.sizeOf22 rfl rfl rfl ?_
        refine WL.loadR Try.isAgg22 rfl M (by first | ((repeat (first | with_reducible exact Has.here | with_reducible refine Has.there ?_)); done) | (repeat (first | exact Has.here | refine Has.there ?_))) rfl rfl ?_
        refine WL.call Try.call29 rfl (sDelI_ok (l := ints (k :: r)) 0 1 (by omega) (by omega) (by omega) w0 _ _ _ M (by first | ((repeat (first | with_reducible exact Del.here | with_reducible apply Del.there)); done) | (repeat (first | exact Del.here | apply Del.there)))) rfl ?_
        rintro _ w ⟨rfl, M⟩
        rw [show (ints (k :: r)).take 0 ++ (ints (k :: r)).drop 1 = ints r from rfl] at M ⊢
        refine WL.nilCheck rfl rfl ?_
        refine WL.fieldR (off := 1) Try.underlying59 rfl rfl Try.sizeOf22 rfl rfl rfl ?_
        refine WL.storeR Try.sizeOf22 rfl rfl rfl M (by first | ((repeat (first | with_reducible exact Has.here | with_reducible refine Has.there ?_)); done) | (repeat (first | exact Has.here | refine Has.there ?_))) (by repeat (first | exact SetAt.zero | apply SetAt.succ)) (by first | ((repeat (first | with_reducible exact Upd.here | with_reducible apply Upd.there)); done) | (repeat (first | exact Upd.here | apply Upd.there))) ?_
        intro w M
        refine WL.nil ?_
        refine WX.next ?_
        refine W.sub [(0, _), (2, _), (6, _)] (.cons rfl (.cons rfl (.cons rfl .nil))) ?_
        refine W.region ?_
        refine WL.move rfl rfl ?_
        refine WL.nilCheck rfl rfl ?_
        refine WL.fieldR (off := 2) Try.underlying59 rfl rfl Try.sizeOf4 rfl rfl rfl ?_
        refine WL.storeR Try.sizeOf4 rfl rfl rfl M (by first | ((repeat (first | with_reducible exact Has.here | with_reducible refine Has.there ?_)); done) | (repeat (first | exact Has.here | refine Has.there ?_))) (by repeat (first | exact SetAt.zero | apply SetAt.succ)) (by first | ((repeat (first | with_reducible exact Upd.here | with_reducible apply Upd.there)); done) | (repeat (first | exact Upd.here | apply Upd.there))) ?_
        intro w M
        refine WL.nil ?_
        refine WX.next ?_
        refine W.sub [(2, _), (6, _)] (.cons rfl (.cons rfl .nil)) ?_
        refine W.seq ?_
        refine W.region ?_
        refine WL.loadW Try.isAgg31 Try.sizeOf31 rfl M (by first | ((repeat (first | with_reducible exact Has.here | with_reducible refine Has.there ?_)); done) | (repeat (first | exact Has.here | refine Has.there ?_))) rfl rfl ?_
        refine WL.storeWA Try.sizeOf31 rfl rfl (by repeat (first | exact oneNil | refine oneCons rfl ?_)) rfl rfl M (by first | ((repeat (first | with_reducible exact Upd.here | with_reducible apply Upd.there)); done) | (repeat (first | exact Upd.here | apply Upd.there))) ?_
        intro w M
        refine WL.assign rfl rfl ?_
        refine WL.nil ?_
        refine WX.next ?_
        refine W.sub [(2, _), (3, _)] (.cons rfl (.cons rfl .nil)) ?_
        refine W.ret ?_
        refine WX.retC2 (cs := [_, _, _]) rfl rfl rfl Try.isAgg31 (by exact Try.sizeOf31) (M.cellsH (by first | ((repeat (first | with_reducible exact Has.here | with_reducible refine Has.there ?_)); done) | (repeat (first | exact Has.here | refine Has.there ?_)))) ?_
        have ht : (el fw2 k).jobs.tail = [] := List.eq_nil_of_length_eq_zero (by omega)
        have hfF : fw4.set k { el fw4 k with credit := 0 } = fw2.set k { el fw2 k with credit := if (el fw2 k).jobs.tail = [] then 0 else (el fw2 k).credit - (el (el fw2 k).jobs 0).cost, jobs := (el fw2 k).jobs.tail } := by
          rw [e4, ← hf4, ← hf3, List.set_set, List.set_set, if_pos ht]
        rw [hfF] at M
        have M5 := Mem.starSet (f := FwX.O) (l := fw2) (x := { el fw2 k with credit := if (el fw2 k).jobs.tail = [] then 0 else (el fw2 k).credit - (el (el fw2 k).jobs 0).cost, jobs := (el fw2 k).jobs.tail }) k hk (M.sel (K := Asr.lst jobE (el fw2 k).A (el fw2 k).cap (el fw2 k).jobs.tail :: Asr.star ((fw2.eraseIdx k).map FwX.O) :: Asr.row g 59 [.slice Af fw2.length cf, .slice Ar2 (ints r).length cr2, .bool false, .int .i64 (n - 1)] :: Asr.lst flowE Af cf (fw2.set k { el fw2 k with credit := if (el fw2 k).jobs.tail = [] then 0 else (el fw2 k).credit - (el (el fw2 k).jobs 0).cost, jobs := (el fw2 k).jobs.tail }) :: Asr.lst intE Ar2 cr2 (ints r) :: L) (by first | ((repeat (first | with_reducible exact Sel.refl | with_reducible exact Sel.nil | with_reducible exact Del.here | with_reducible apply Del.there | with_reducible apply Sel.cons | with_reducible apply Sel.drop)); done) | (repeat (first | exact Sel.refl | exact Sel.nil | exact Del.here | apply Del.there | apply Sel.cons | apply Sel.drop))))
        refine .inr ⟨hn0, _, ?_, rfl, hpS.symm, ⟨hpO, hpN⟩, ?_⟩
        · rw [hjJ]; rfl
        · unfold SdX.L SdX.row
          dsimp only
          rw [if_pos ht, if_pos ht, if_pos ht, List.length_set]
          rw [if_pos ht] at M5
          exact M5.sel (by first | ((repeat (first | with_reducible exact Sel.refl | with_reducible exact Sel.nil | with_reducible exact Del.here | with_reducible apply Del.there | with_reducible apply Sel.cons | with_reducible apply Sel.drop)); done) | (repeat (first | exact Sel.refl | exact Sel.nil | exact Del.here | apply Del.there | apply Sel.cons | apply Sel.drop)))
      · refine W.skip ?_
        refine WX.next ?_
        refine W.seq ?_
        refine W.region ?_
        refine WL.loadW Try.isAgg31 Try.sizeOf31 rfl M (by first | ((repeat (first | with_reducible exact Has.here | with_reducible refine Has.there ?_)); done) | (repeat (first | exact Has.here | refine Has.there ?_))) rfl rfl ?_
        refine WL.storeWA Try.sizeOf31 rfl rfl (by repeat (first | exact oneNil | refine oneCons rfl ?_)) rfl rfl M (by first | ((repeat (first | with_reducible exact Upd.here | with_reducible apply Upd.there)); done) | (repeat (first | exact Upd.here | apply Upd.there))) ?_
        intro w M
        refine WL.assign rfl rfl ?_
        refine WL.nil ?_
        refine WX.next ?_
        refine W.sub [(2, _), (3, _)] (.cons rfl (.cons rfl .nil)) ?_
        refine W.ret ?_
        refine WX.retC2 (cs := [_, _, _]) rfl rfl rfl Try.isAgg31 (by exact Try.sizeOf31) (M.cellsH (by first | ((repeat (first | with_reducible exact Has.here | with_reducible refine Has.there ?_)); done) | (repeat (first | exact Has.here | refine Has.there ?_)))) ?_
        have ht : (el fw2 k).jobs.tail ≠ [] := fun h => c4 (by rw [ht4, h]; rfl)
        have hfF : fw4 = fw2.set k { el fw2 k with credit := if (el fw2 k).jobs.tail = [] then 0 else (el fw2 k).credit - (el (el fw2 k).jobs 0).cost, jobs := (el fw2 k).jobs.tail } := by
          rw [← hf4, e3, ← hf3, List.set_set, if_neg ht]
        rw [hfF] at M
        have M5 := Mem.starSet (f := FwX.O) (l := fw2) (x := { el fw2 k with credit := if (el fw2 k).jobs.tail = [] then 0 else (el fw2 k).credit - (el (el fw2 k).jobs 0).cost, jobs := (el fw2 k).jobs.tail }) k hk (M.sel (K := Asr.lst jobE (el fw2 k).A (el fw2 k).cap (el fw2 k).jobs.tail :: Asr.star ((fw2.eraseIdx k).map FwX.O) :: Asr.row g 59 [.slice Af fw2.length cf, .slice Ar2 (ints (k :: r)).length cr2, .bool true, .int .i64 (n - 1)] :: Asr.lst flowE Af cf (fw2.set k { el fw2 k with credit := if (el fw2 k).jobs.tail = [] then 0 else (el fw2 k).credit - (el (el fw2 k).jobs 0).cost, jobs := (el fw2 k).jobs.tail }) :: Asr.lst intE Ar2 cr2 (ints (k :: r)) :: L) (by first | ((repeat (first | with_reducible exact Sel.refl | with_reducible exact Sel.nil | with_reducible exact Del.here | with_reducible apply Del.there | with_reducible apply Sel.cons | with_reducible apply Sel.drop)); done) | (repeat (first | exact Sel.refl | exact Sel.nil | exact Del.here | apply Del.there | apply Sel.cons | apply Sel.drop))))
        refine .inr ⟨hn0, _, ?_, rfl, hpS.symm, ⟨hpO, hpN⟩, ?_⟩
        · rw [hjJ]; rfl
        · unfold SdX.L SdX.row
          dsimp only
          rw [if_neg ht, if_neg ht, if_neg ht, List.length_set]
          rw [if_neg ht] at M5
          exact M5.sel (by first | ((repeat (first | with_reducible exact Sel.refl | with_reducible exact Sel.nil | with_reducible exact Del.here | with_reducible apply Del.there | with_reducible apply Sel.cons | with_reducible apply Sel.drop)); done) | (repeat (first | exact Sel.refl | exact Sel.nil | exact Del.here | apply Del.there | apply Sel.cons | apply Sel.drop)))
end Go.Proofs.Ytdhmopmfnnlhcaa
