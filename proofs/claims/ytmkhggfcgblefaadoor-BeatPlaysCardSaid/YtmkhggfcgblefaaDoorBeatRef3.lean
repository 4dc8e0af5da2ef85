/-
  The reference's Order (seawallref14).
-/
import Derived.Test.YtmkhggfcgblefaaDoorBeatRef2
namespace Go.Proofs.YtmkhggfcgblefaaDoor
open Go Go.RowKit Bin

def onesT (n i : Nat) : List Int := ((List.range i).filter fun j => n / 2 ^ j % 2 = 1).map fun j : Nat => (j : Int)
theorem onesT_succ (n i : Nat) : onesT n (i + 1) = onesT n i ++ if n / 2 ^ i % 2 = 1 then [(i : Int)] else [] := by
  unfold onesT
  rw [List.range_succ, List.filter_append, List.map_append]
  congr 1
  by_cases h : n / 2 ^ i % 2 = 1
  · rw [if_pos h, List.filter_cons_of_pos (by simpa using h)]
    rfl
  · rw [if_neg h, List.filter_cons_of_neg (by simpa using h)]
    rfl
theorem onesT_len (n i : Nat) : (onesT n i).length ≤ i := by
  unfold onesT
  rw [List.length_map]
  exact Nat.le_trans (List.length_filter_le _ _) (by rw [List.length_range]; exact Nat.le_refl _)
theorem onesT_full {n m : Nat} (hm : m ≤ 12) (hn : n < 2 ^ m) : onesT n m = onesN n := by
  have key : ∀ d, onesT n (m + d) = onesT n m := by
    intro d
    induction d with
    | zero => rfl
    | succ d ih =>
      rw [← Nat.add_assoc, onesT_succ, ih]
      have h1 : 2 ^ m ≤ 2 ^ (m + d) := Nat.pow_le_pow_right (by decide) (by omega)
      rw [Nat.div_eq_of_lt (by omega), if_neg (by decide), List.append_nil]
  have := key (12 - m)
  rw [show m + (12 - m) = 12 by omega] at this
  exact this.symm
/-- The test of round c: 0 is the home site's, c + 1 that of site c. -/
def pcB (sites : List Int) (home : Int) (c : Nat) (x : Int) : Bool := if c = 0 then decide (siteOf sites x = home) else decide (siteOf sites x = ((c - 1 : Nat) : Int) ∧ siteOf sites x ≠ home)
def preL (sites : List Int) (n : Nat) (home : Int) : Nat → List Int
  | 0 => []
  | c + 1 => preL sites n home c ++ (onesN n).filter (pcB sites home c)
theorem preL_ord (sites : List Int) (n : Nat) (home : Int) : preL sites n home 13 = ordL sites n home := by
  have key : ∀ c, preL sites n home (c + 1) = homeL sites n home ++ (List.range c).flatMap (siteL sites n home) := by
    intro c
    induction c with
    | zero =>
      show [] ++ (onesN n).filter (pcB sites home 0) = homeL sites n home ++ []
      rw [List.nil_append, List.append_nil]
      unfold homeL
      congr 1
    | succ c ih =>
      show preL sites n home (c + 1) ++ (onesN n).filter (pcB sites home (c + 1)) = _
      rw [ih, List.range_succ, List.flatMap_append, ← List.append_assoc]
      congr 1
      show _ = siteL sites n home c ++ []
      rw [List.append_nil]
      unfold siteL
      congr 1
  exact key 12
def inL (sites : List Int) (n : Nat) (home : Int) (c i : Nat) : List Int := preL sites n home c ++ (onesT n i).filter (pcB sites home c)
theorem inL_succ (sites : List Int) (n : Nat) (home : Int) (c i : Nat) : inL sites n home c (i + 1) = inL sites n home c i ++ if n / 2 ^ i % 2 = 1 ∧ pcB sites home c (i : Int) = true then [(i : Int)] else [] := by
  unfold inL
  rw [onesT_succ, List.filter_append, ← List.append_assoc]
  congr 1
  by_cases h : n / 2 ^ i % 2 = 1
  · rw [if_pos h]
    by_cases h2 : pcB sites home c (i : Int) = true
    · rw [if_pos ⟨h, h2⟩, List.filter_cons_of_pos h2]
      rfl
    · rw [if_neg (fun q => h2 q.2), List.filter_cons_of_neg h2]
      rfl
  · rw [if_neg h, if_neg (fun q => h q.1)]
    rfl
theorem preL_len (sites : List Int) (n : Nat) (home : Int) : ∀ c, (preL sites n home c).length ≤ 12 * c
  | 0 => Nat.le_refl _
  | c + 1 => by
    show (preL sites n home c ++ (onesN n).filter (pcB sites home c)).length ≤ _
    rw [List.length_append]
    have h1 := preL_len sites n home c
    have h2 := List.length_filter_le (pcB sites home c) (onesN n)
    have h3 := onesN_len n
    omega
theorem inL_len (sites : List Int) (n : Nat) (home : Int) (c i : Nat) : (inL sites n home c i).length ≤ 12 * c + i := by
  unfold inL
  rw [List.length_append]
  have h1 := preL_len sites n home c
  have h2 := List.length_filter_le (pcB sites home c) (onesT n i)
  have h3 := onesT_len n i
  omega
theorem pcB_iff (sites : List Int) (home st : Int) (c i : Nat) (hst : (c = 0 ∧ st = home) ∨ (0 < c ∧ st = (c : Int) - 1)) : pcB sites home c (i : Int) = true ↔ el sites i = st ∧ (c = 0 ∨ st ≠ home) := by
  have e : siteOf sites (i : Int) = el sites i := by unfold siteOf; rw [Int.toNat_natCast]
  unfold pcB
  rw [e]
  by_cases h : c = 0
  · rw [if_pos h, decide_eq_true_eq]
    omega
  · rw [if_neg h, decide_eq_true_eq]
    omega
theorem upN_lt2 {s : Bv} (ok : s.since.length = s.sites.length) : upN s < 2 ^ s.sites.length := by
  have h := bitsN_lt (upB s)
  unfold upB at h
  rw [List.length_map, ok] at h
  exact h
theorem ROrder_ok (a : BvA) (r : Rv) {N : Int} (ok : r.Ok N) (hN : N ≤ 1000000) (home : Int) (w0 w : World) (L : List Asr) (M : Mem w0 w (rvL a r ++ L)) :
    Fn Tryd.prog 18 [.pointer (some ⟨a.g, 0, none⟩), .int .i64 home] w fun v w' => ∃ B cB, v = .slice B (ordS (toBv r) home).length cB ∧ Mem w0 w' (Asr.lst intE B cB (ordS (toBv r) home) :: (rvL a r ++ L)) := by
  have hn := ok.n
  have hul := upN_lt2 (s := toBv r) (by rw [toBv_len]; rfl)
  have hR : ∀ L, rvL a r ++ L = Asr.row a.g 52 [.slice a.As r.sites.length a.cs, .int .i64 (r.me : Int), .int .i64 r.pat, .int .i64 r.now, .slice a.Ac r.heard.length a.cc, .int .i64 r.changed] :: Asr.lst intE a.As a.cs r.sites :: Asr.lst intE a.Ac a.cc r.heard :: L := fun _ => rfl
  have hos : ordS (toBv r) home = preL r.sites (upN (toBv r)) home 13 := (preL_ord _ _ _).symm
  have hfull : onesT (upN (toBv r)) r.sites.length = onesN (upN (toBv r)) := onesT_full hn.2 hul
  rw [hos]
  have hn4 : upN (toBv r) < 4096 := by
    have h1 : 2 ^ r.sites.length ≤ 2 ^ 12 := Nat.pow_le_pow_right (by decide) hn.2
    have h2 : upN (toBv r) < 2 ^ r.sites.length := hul
    omega
  refine Fn.enter Tryd.func18 rfl Tryd.ntmps18 rfl ?_
  refine W.sub [(0, _), (1, _)] (.cons rfl (.cons rfl .nil)) ?_
  refine W.seq ?_
  refine W.region ?_
  refine WL.assign rfl rfl ?_
  refine WL.nil ?_
  refine WX.next ?_
  refine W.sub [(0, _), (1, _)] (.cons rfl (.cons rfl .nil)) ?_
  refine W.seq ?_
  refine W.region ?_
  refine WL.move rfl rfl ?_
  refine WL.call Tryd.call20 rfl (RUp_ok a r ok hN w0 w L M) rfl ?_
  rintro _ w ⟨rfl, M⟩
  obtain ⟨n, hnn⟩ : ∃ n, upN (toBv r) = n := ⟨_, rfl⟩
  rw [hnn] at hfull hn4 ⊢
  have M2 : Mem w0 w (Asr.lst intE none 0 [] :: _) := M.nilOwn 3 1
  replace M := M2
  refine WL.assign rfl rfl ?_
  refine WL.nil ?_
  refine WX.next ?_
  refine W.sub [(0, _), (1, _), (5, _)] (.cons rfl (.cons rfl (.cons rfl .nil))) ?_
  refine W.seq ?_
  refine W.region ?_
  refine WL.assign rfl rfl ?_
  refine WL.nil ?_
  refine WX.next ?_
  refine W.sub [(0, _), (1, _), (5, _), (6, _)] (.cons rfl (.cons rfl (.cons rfl (.cons rfl .nil)))) ?_
  refine W.seq ?_
  refine W.seq ?_
  refine W.region ?_
  refine WL.assign rfl rfl ?_
  refine WL.nil ?_
  refine WX.next ?_
  refine W.sub [(0, _), (1, _), (5, _), (6, _), (7, _)] (.cons rfl (.cons rfl (.cons rfl (.cons rfl (.cons rfl .nil))))) ?_
  refine W.block ?_
  refine W.loop (ι := Nat × (Option Addr × Nat)) (fun z => [(0, .pointer (some ⟨a.g, 0, none⟩)), (1, .int .i64 home), (5, .int .u32 (n : Int)), (6, .slice z.2.1 (preL r.sites n home z.1).length z.2.2), (7, .int .i64 ((z.1 : Int) - 1))]) (fun zz w => Mem w0 w ((fun z => Asr.lst intE z.2.1 z.2.2 (preL r.sites n home z.1) :: (rvL a r ++ L)) zz) ∧ (fun z => z.1 ≤ 13) zz) (fun z => 13 - z.1) ((0, (none, 0))) (by (repeat' (first | exact envSub.nil | refine envSub.cons ?_ ?_)) <;> first | rfl | (refine congrArg some ?_; refine congrArg (Value.int _) ?_; first | omega | (dsimp only; omega)) | (simp; done) | (refine congrArg some ?_; dsimp only; congr 1; omega) | (simp; omega)) ⟨M.sel (by first | ((repeat (first | with_reducible exact Sel.refl | with_reducible exact Sel.nil | with_reducible exact Del.here | with_reducible apply Del.there | with_reducible apply Sel.cons | with_reducible apply Sel.drop)); done) | (repeat (first | exact Sel.refl | exact Sel.nil | exact Del.here | apply Del.there | apply Sel.cons | apply Sel.drop))), Nat.zero_le _⟩ ?_
  clear M; rintro (⟨c, ⟨B, cB⟩⟩) w ⟨M, hc⟩; dsimp only at M hc ⊢
  refine W.sub [(0, _), (1, _), (5, _), (6, _), (7, _)] (.cons rfl (.cons rfl (.cons rfl (.cons rfl (.cons rfl .nil))))) ?_
  refine W.seq ?_
  refine W.seq ?_
  refine W.region ?_
  refine WL.move rfl rfl ?_
  refine WL.lss rfl rfl rfl ?_
  refine WL.nil ?_
  refine WX.next ?_
  refine W.sub [(0, _), (1, _), (5, _), (6, _), (7, _), (13, _)] (.cons rfl (.cons rfl (.cons rfl (.cons rfl (.cons rfl (.cons rfl .nil)))))) ?_
  refine W.ite rfl (fun c0 => ?_) (fun c0 => ?_)
  · have hc13 : c < 13 := by omega
    refine W.skip ?_
    refine WX.next ?_
    refine W.seq ?_
    refine W.block ?_
    refine W.seq ?_
    refine W.region ?_
    refine WL.move rfl rfl ?_
    refine WL.assign rfl rfl ?_
    refine WL.nil ?_
    refine WX.next ?_
    refine W.sub [(0, _), (1, _), (5, _), (6, _), (7, _), (8, _)] (.cons rfl (.cons rfl (.cons rfl (.cons rfl (.cons rfl (.cons rfl .nil)))))) ?_
    refine W.joint (fun (st : Int) => [(0, .pointer (some ⟨a.g, 0, none⟩)), (1, .int .i64 home), (5, .int .u32 (n : Int)), (6, .slice B (preL r.sites n home c).length cB), (7, .int .i64 ((c : Int) - 1)), (8, .int .i64 st)]) (fun j w => Mem w0 w ((fun _ => Asr.lst intE B cB (preL r.sites n home c) :: (rvL a r ++ L)) j) ∧ (fun st => (c = 0 ∧ st = home) ∨ (0 < c ∧ st = (c : Int) - 1)) j) ?_ ?_
    · refine W.seq ?_
      refine W.region ?_
      refine WL.move rfl rfl ?_
      refine WL.lss rfl rfl rfl ?_
      refine WL.nil ?_
      refine WX.next ?_
      refine W.sub [(0, _), (1, _), (5, _), (6, _), (7, _), (8, _), (18, _)] (.cons rfl (.cons rfl (.cons rfl (.cons rfl (.cons rfl (.cons rfl (.cons rfl .nil))))))) ?_
      refine W.ite rfl (fun c1 => ?_) (fun c1 => ?_)
      · refine W.region ?_
        refine WL.move rfl rfl ?_
        refine WL.assign rfl rfl ?_
        refine WL.nil ?_
        refine WX.join (home) (by (repeat' (first | exact envSub.nil | refine envSub.cons ?_ ?_)) <;> first | rfl | (refine congrArg some ?_; refine congrArg (Value.int _) ?_; first | omega | (dsimp only; omega)) | (simp; done) | (refine congrArg some ?_; dsimp only; congr 1; omega) | (simp; omega)) ⟨M.sel (by first | ((repeat (first | with_reducible exact Sel.refl | with_reducible exact Sel.nil | with_reducible exact Del.here | with_reducible apply Del.there | with_reducible apply Sel.cons | with_reducible apply Sel.drop)); done) | (repeat (first | exact Sel.refl | exact Sel.nil | exact Del.here | apply Del.there | apply Sel.cons | apply Sel.drop))), .inl ⟨by omega, rfl⟩⟩
      · refine W.skip ?_
        refine WX.join (((c : Int) - 1)) (by (repeat' (first | exact envSub.nil | refine envSub.cons ?_ ?_)) <;> first | rfl | (refine congrArg some ?_; refine congrArg (Value.int _) ?_; first | omega | (dsimp only; omega)) | (simp; done) | (refine congrArg some ?_; dsimp only; congr 1; omega) | (simp; omega)) ⟨M.sel (by first | ((repeat (first | with_reducible exact Sel.refl | with_reducible exact Sel.nil | with_reducible exact Del.here | with_reducible apply Del.there | with_reducible apply Sel.cons | with_reducible apply Sel.drop)); done) | (repeat (first | exact Sel.refl | exact Sel.nil | exact Del.here | apply Del.there | apply Sel.cons | apply Sel.drop))), .inr ⟨by omega, rfl⟩⟩
    clear M; rintro (st) w ⟨M, hst⟩; dsimp only at M hst ⊢
    refine W.sub [(0, _), (1, _), (5, _), (6, _), (7, _), (8, _)] (.cons rfl (.cons rfl (.cons rfl (.cons rfl (.cons rfl (.cons rfl .nil)))))) ?_
    refine W.seq ?_
    have e0 : inL r.sites n home c 0 = preL r.sites n home c := List.append_nil _
    rw [← e0] at M ⊢
    refine W.region ?_
    refine WL.assign rfl rfl ?_
    refine WL.nil ?_
    refine WX.next ?_
    refine W.sub [(0, _), (1, _), (5, _), (6, _), (7, _), (8, _), (9, _)] (.cons rfl (.cons rfl (.cons rfl (.cons rfl (.cons rfl (.cons rfl (.cons rfl .nil))))))) ?_
    refine W.block ?_
    refine W.loop (ι := Nat × (Option Addr × Nat)) (fun z => [(0, .pointer (some ⟨a.g, 0, none⟩)), (1, .int .i64 home), (5, .int .u32 (n : Int)), (6, .slice z.2.1 (inL r.sites n home c z.1).length z.2.2), (7, .int .i64 ((c : Int) - 1)), (8, .int .i64 st), (9, .int .i64 (z.1 : Int))]) (fun zz w => Mem w0 w ((fun z => Asr.lst intE z.2.1 z.2.2 (inL r.sites n home c z.1) :: (rvL a r ++ L)) zz) ∧ (fun z => z.1 ≤ r.sites.length) zz) (fun z => r.sites.length - z.1) ((0, (B, cB))) (by (repeat' (first | exact envSub.nil | refine envSub.cons ?_ ?_)) <;> first | rfl | (refine congrArg some ?_; refine congrArg (Value.int _) ?_; first | omega | (dsimp only; omega)) | (simp; done) | (refine congrArg some ?_; dsimp only; congr 1; omega) | (simp; omega)) ⟨M.sel (by first | ((repeat (first | with_reducible exact Sel.refl | with_reducible exact Sel.nil | with_reducible exact Del.here | with_reducible apply Del.there | with_reducible apply Sel.cons | with_reducible apply Sel.drop)); done) | (repeat (first | exact Sel.refl | exact Sel.nil | exact Del.here | apply Del.there | apply Sel.cons | apply Sel.drop))), Nat.zero_le _⟩ ?_
    clear M; rintro (⟨i, ⟨C, cC⟩⟩) w ⟨M, hi⟩; dsimp only at M hi ⊢
    refine W.sub [(0, _), (1, _), (5, _), (6, _), (7, _), (8, _), (9, _)] (.cons rfl (.cons rfl (.cons rfl (.cons rfl (.cons rfl (.cons rfl (.cons rfl .nil))))))) ?_
    refine W.seq ?_
    refine W.seq ?_
    rw [hR] at M
    refine W.region ?_
    refine WL.move rfl rfl ?_
    refine WL.move rfl rfl ?_
    refine WL.nilCheck rfl rfl ?_
    refine WL.fieldR (off := 0) Tryd.underlying52 rfl rfl Tryd.sizeOf22 rfl rfl rfl ?_
    refine WL.loadR Tryd.isAgg22 rfl M (by first | ((repeat (first | with_reducible exact Has.here | with_reducible refine Has.there ?_)); done) | (repeat (first | exact Has.here | refine Has.there ?_))) rfl rfl ?_
    refine WL.len Tryd.underlying22 rfl rfl ?_
    refine WL.lss rfl rfl rfl ?_
    refine WL.nil ?_
    refine WX.next ?_
    refine W.sub [(0, _), (1, _), (5, _), (6, _), (7, _), (8, _), (9, _), (26, _)] (.cons rfl (.cons rfl (.cons rfl (.cons rfl (.cons rfl (.cons rfl (.cons rfl (.cons rfl .nil)))))))) ?_
    refine W.ite rfl (fun c2 => ?_) (fun c2 => ?_)
    · have hil : i < r.sites.length := by omega
      have hsucc := inL_succ r.sites n home c i
      have hpi := pcB_iff r.sites home st c i hst
      have hlen := inL_len r.sites n home c i
      obtain ⟨bq, hbq⟩ : ∃ b, n / 2 ^ i = b := ⟨_, rfl⟩
      rw [hbq] at hsucc
      refine W.skip ?_
      refine WX.next ?_
      refine W.seq ?_
      refine W.block ?_
      refine W.seq ?_
      refine W.region ?_
      refine WL.move rfl rfl ?_
      refine WL.nilCheck rfl rfl ?_
      refine WL.fieldR (off := 0) Tryd.underlying52 rfl rfl Tryd.sizeOf22 rfl rfl rfl ?_
      refine WL.loadR Tryd.isAgg22 rfl M (by first | ((repeat (first | with_reducible exact Has.here | with_reducible refine Has.there ?_)); done) | (repeat (first | exact Has.here | refine Has.there ?_))) rfl rfl ?_
      refine WL.move rfl rfl ?_
      refine WL.idxA Tryd.underlying22 Tryd.sizeOf3 rfl rfl (RdL.isSome (E := intE) (by first | with_reducible assumption | with_reducible exact RdL.mem (by with_reducible assumption) M | exact M.rdL (by first | ((repeat (first | with_reducible exact Has.here | with_reducible refine Has.there ?_)); done) | (repeat (first | exact Has.here | refine Has.there ?_))) | exact RdLH.at (by assumption) (M.sel (by first | ((repeat (first | with_reducible exact Sel.refl | with_reducible exact Sel.nil | with_reducible exact Del.here | with_reducible apply Del.there | with_reducible apply Sel.cons | with_reducible apply Sel.drop)); done) | (repeat (first | exact Sel.refl | exact Sel.nil | exact Del.here | apply Del.there | apply Sel.cons | apply Sel.drop)))) | exact RdL.nil _ _ _) (by omega)) (by omega) (by omega) (by first | exact rfl | exact (Int.toNat_of_nonneg (by omega)).symm) rfl ?_
      refine WL.loadE0 (E := intE) Tryd.isAgg3 rfl (by first | with_reducible assumption | with_reducible exact RdL.mem (by with_reducible assumption) M | exact M.rdL (by first | ((repeat (first | with_reducible exact Has.here | with_reducible refine Has.there ?_)); done) | (repeat (first | exact Has.here | refine Has.there ?_))) | exact RdLH.at (by assumption) (M.sel (by first | ((repeat (first | with_reducible exact Sel.refl | with_reducible exact Sel.nil | with_reducible exact Del.here | with_reducible apply Del.there | with_reducible apply Sel.cons | with_reducible apply Sel.drop)); done) | (repeat (first | exact Sel.refl | exact Sel.nil | exact Del.here | apply Del.there | apply Sel.cons | apply Sel.drop)))) | exact RdL.nil _ _ _) (by omega) rfl rfl ?_
      refine WL.move rfl rfl ?_
      refine WL.eqI rfl rfl rfl ?_
      refine WL.moveIf rfl rfl (fun c3 => ?_) (fun c3 => ?_)
      · refine WL.on rfl rfl ?_
        refine WL.move rfl rfl ?_
        refine WL.on rfl rfl ?_
        refine WL.lss rfl rfl rfl ?_
        refine WL.on rfl rfl ?_
        refine WL.moveIf rfl rfl (fun c4 => ?_) (fun c4 => ?_)
        · refine WL.off rfl rfl rfl rfl ?_
          refine WL.off rfl rfl rfl rfl ?_
          refine WL.off rfl rfl rfl rfl ?_
          refine WL.on rfl rfl ?_
          refine WL.pickT rfl rfl rfl ?_
          refine WL.pickT rfl rfl rfl ?_
          refine WL.move rfl rfl ?_
          refine WL.on rfl rfl ?_
          refine WL.move rfl rfl ?_
          refine WL.on rfl rfl ?_
          refine WL.move rfl rfl ?_
          refine WL.on rfl rfl ?_
          refine WL.conv Tryd.underlying3 Tryd.underlying39 rfl (by first | exact wU64 (by omega) | exact mU64 _ | rfl) rfl ?_
          refine WL.on rfl rfl ?_
          refine WL.shr rfl rfl (by omega) (by show _ ≤ (32 : Int); omega) (show _ = (bq : Int) from (shr_bit n i).trans (congrArg Int.ofNat hbq)) rfl ?_
          refine WL.on rfl rfl ?_
          refine WL.rem rfl rfl (by omega) (remN (by omega)) rfl ?_
          refine WL.on rfl rfl ?_
          refine WL.eqI rfl rfl rfl ?_
          refine WL.pickT rfl rfl rfl ?_
          refine WL.nil ?_
          refine WX.next ?_
          refine W.sub [(0, _), (1, _), (5, _), (6, _), (7, _), (8, _), (9, _), (54, _)] (.cons rfl (.cons rfl (.cons rfl (.cons rfl (.cons rfl (.cons rfl (.cons rfl (.cons rfl .nil)))))))) ?_
          refine W.ite rfl (fun c6 => ?_) (fun c6 => ?_)
          · refine W.region ?_
            refine WL.move rfl rfl ?_
            refine WL.move rfl rfl ?_
            refine WL.buildL (E := intE) (l := [(i : Int)]) Tryd.elem3 M rfl rfl rfl rfl rfl rfl ?_
            intro g13_2 w M
            refine WL.appendL (E := intE) Tryd.elem3 rfl rfl M (by first | ((repeat (first | with_reducible exact Del.here | with_reducible apply Del.there)); done) | (repeat (first | exact Del.here | apply Del.there))) (by first | with_reducible assumption | with_reducible exact RdL.mem (by with_reducible assumption) M | exact M.rdL (by first | ((repeat (first | with_reducible exact Has.here | with_reducible refine Has.there ?_)); done) | (repeat (first | exact Has.here | refine Has.there ?_))) | exact RdLH.at (by assumption) (M.sel (by first | ((repeat (first | with_reducible exact Sel.refl | with_reducible exact Sel.nil | with_reducible exact Del.here | with_reducible apply Del.there | with_reducible apply Sel.cons | with_reducible apply Sel.drop)); done) | (repeat (first | exact Sel.refl | exact Sel.nil | exact Del.here | apply Del.there | apply Sel.cons | apply Sel.drop)))) | exact RdL.nil _ _ _) rfl rfl (by simp only [List.length_cons, List.length_nil]; omega) (by simp only [maxLen, List.length_cons, List.length_nil]; omega) rfl ?_
            intro A13_3 cap13_3 w M
            refine WL.assign rfl rfl ?_
            refine WL.nil ?_
            refine WX.blockNormal ?_
            refine WX.next ?_
            refine W.sub [(0, _), (1, _), (5, _), (6, _), (7, _), (8, _), (9, _)] (.cons rfl (.cons rfl (.cons rfl (.cons rfl (.cons rfl (.cons rfl (.cons rfl .nil))))))) ?_
            refine W.region ?_
            refine WL.move rfl rfl ?_
            refine WL.add rfl rfl (by first | exact wI64 (by omega) | rfl) rfl ?_
            refine WL.assign rfl rfl ?_
            refine WL.nil ?_
            rw [← hR] at M
            rw [if_pos ⟨by omega, hpi.2 ⟨c3, .inl (by omega)⟩⟩] at hsucc
            rw [← hsucc] at M ⊢
            refine WX.round ((i + 1, (A13_3, cap13_3))) (by (repeat' (first | exact envSub.nil | refine envSub.cons ?_ ?_)) <;> first | rfl | (refine congrArg some ?_; refine congrArg (Value.int _) ?_; first | omega | (dsimp only; omega)) | (simp; done) | (refine congrArg some ?_; dsimp only; congr 1; omega) | (simp; omega)) ⟨M.sel (by first | ((repeat (first | with_reducible exact Sel.refl | with_reducible exact Sel.nil | with_reducible exact Del.here | with_reducible apply Del.there | with_reducible apply Sel.cons | with_reducible apply Sel.drop)); done) | (repeat (first | exact Sel.refl | exact Sel.nil | exact Del.here | apply Del.there | apply Sel.cons | apply Sel.drop))), by dsimp only; omega⟩ (by first | omega | (dsimp only; omega))
          · refine W.skip ?_
            refine WX.blockNormal ?_
            refine WX.next ?_
            refine W.region ?_
            refine WL.move rfl rfl ?_
            refine WL.add rfl rfl (by first | exact wI64 (by omega) | rfl) rfl ?_
            refine WL.assign rfl rfl ?_
            refine WL.nil ?_
            rw [← hR] at M
            rw [if_neg (fun q => c6 (by have := q.1; omega)), List.append_nil] at hsucc
            rw [← hsucc] at M ⊢
            refine WX.round ((i + 1, (C, cC))) (by (repeat' (first | exact envSub.nil | refine envSub.cons ?_ ?_)) <;> first | rfl | (refine congrArg some ?_; refine congrArg (Value.int _) ?_; first | omega | (dsimp only; omega)) | (simp; done) | (refine congrArg some ?_; dsimp only; congr 1; omega) | (simp; omega)) ⟨M.sel (by first | ((repeat (first | with_reducible exact Sel.refl | with_reducible exact Sel.nil | with_reducible exact Del.here | with_reducible apply Del.there | with_reducible apply Sel.cons | with_reducible apply Sel.drop)); done) | (repeat (first | exact Sel.refl | exact Sel.nil | exact Del.here | apply Del.there | apply Sel.cons | apply Sel.drop))), by dsimp only; omega⟩ (by first | omega | (dsimp only; omega))
        · refine WL.on rfl rfl ?_
          refine WL.move rfl rfl ?_
          refine WL.on rfl rfl ?_
          refine WL.move rfl rfl ?_
          refine WL.on rfl rfl ?_
          refine WL.neI rfl rfl rfl ?_
          refine WL.on rfl rfl ?_
          refine WL.pickF rfl rfl rfl ?_
          refine WL.pickT rfl rfl rfl ?_
          refine WL.moveIf rfl rfl (fun c5 => ?_) (fun c5 => ?_)
          · refine WL.on rfl rfl ?_
            refine WL.move rfl rfl ?_
            refine WL.on rfl rfl ?_
            refine WL.move rfl rfl ?_
            refine WL.on rfl rfl ?_
            refine WL.conv Tryd.underlying3 Tryd.underlying39 rfl (by first | exact wU64 (by omega) | exact mU64 _ | rfl) rfl ?_
            refine WL.on rfl rfl ?_
            refine WL.shr rfl rfl (by omega) (by show _ ≤ (32 : Int); omega) (show _ = (bq : Int) from (shr_bit n i).trans (congrArg Int.ofNat hbq)) rfl ?_
            refine WL.on rfl rfl ?_
            refine WL.rem rfl rfl (by omega) (remN (by omega)) rfl ?_
            refine WL.on rfl rfl ?_
            refine WL.eqI rfl rfl rfl ?_
            refine WL.pickT rfl rfl rfl ?_
            refine WL.nil ?_
            refine WX.next ?_
            refine W.sub [(0, _), (1, _), (5, _), (6, _), (7, _), (8, _), (9, _), (54, _)] (.cons rfl (.cons rfl (.cons rfl (.cons rfl (.cons rfl (.cons rfl (.cons rfl (.cons rfl .nil)))))))) ?_
            refine W.ite rfl (fun c6 => ?_) (fun c6 => ?_)
            · refine W.region ?_
              refine WL.move rfl rfl ?_
              refine WL.move rfl rfl ?_
              refine WL.buildL (E := intE) (l := [(i : Int)]) Tryd.elem3 M rfl rfl rfl rfl rfl rfl ?_
              intro g13_2 w M
              refine WL.appendL (E := intE) Tryd.elem3 rfl rfl M (by first | ((repeat (first | with_reducible exact Del.here | with_reducible apply Del.there)); done) | (repeat (first | exact Del.here | apply Del.there))) (by first | with_reducible assumption | with_reducible exact RdL.mem (by with_reducible assumption) M | exact M.rdL (by first | ((repeat (first | with_reducible exact Has.here | with_reducible refine Has.there ?_)); done) | (repeat (first | exact Has.here | refine Has.there ?_))) | exact RdLH.at (by assumption) (M.sel (by first | ((repeat (first | with_reducible exact Sel.refl | with_reducible exact Sel.nil | with_reducible exact Del.here | with_reducible apply Del.there | with_reducible apply Sel.cons | with_reducible apply Sel.drop)); done) | (repeat (first | exact Sel.refl | exact Sel.nil | exact Del.here | apply Del.there | apply Sel.cons | apply Sel.drop)))) | exact RdL.nil _ _ _) rfl rfl (by simp only [List.length_cons, List.length_nil]; omega) (by simp only [maxLen, List.length_cons, List.length_nil]; omega) rfl ?_
              intro A13_3 cap13_3 w M
              refine WL.assign rfl rfl ?_
              refine WL.nil ?_
              refine WX.blockNormal ?_
              refine WX.next ?_
              refine W.sub [(0, _), (1, _), (5, _), (6, _), (7, _), (8, _), (9, _)] (.cons rfl (.cons rfl (.cons rfl (.cons rfl (.cons rfl (.cons rfl (.cons rfl .nil))))))) ?_
              refine W.region ?_
              refine WL.move rfl rfl ?_
              refine WL.add rfl rfl (by first | exact wI64 (by omega) | rfl) rfl ?_
              refine WL.assign rfl rfl ?_
              refine WL.nil ?_
              rw [← hR] at M
              rw [if_pos ⟨by omega, hpi.2 ⟨c3, .inr c5⟩⟩] at hsucc
              rw [← hsucc] at M ⊢
              refine WX.round ((i + 1, (A13_3, cap13_3))) (by (repeat' (first | exact envSub.nil | refine envSub.cons ?_ ?_)) <;> first | rfl | (refine congrArg some ?_; refine congrArg (Value.int _) ?_; first | omega | (dsimp only; omega)) | (simp; done) | (refine congrArg some ?_; dsimp only; congr 1; omega) | (simp; omega)) ⟨M.sel (by first | ((repeat (first | with_reducible exact Sel.refl | with_reducible exact Sel.nil | with_reducible exact Del.here | with_reducible apply Del.there | with_reducible apply Sel.cons | with_reducible apply Sel.drop)); done) | (repeat (first | exact Sel.refl | exact Sel.nil | exact Del.here | apply Del.there | apply Sel.cons | apply Sel.drop))), by dsimp only; omega⟩ (by first | omega | (dsimp only; omega))
            · refine W.skip ?_
              refine WX.blockNormal ?_
              refine WX.next ?_
              refine W.region ?_
              refine WL.move rfl rfl ?_
              refine WL.add rfl rfl (by first | exact wI64 (by omega) | rfl) rfl ?_
              refine WL.assign rfl rfl ?_
              refine WL.nil ?_
              rw [← hR] at M
              rw [if_neg (fun q => c6 (by have := q.1; omega)), List.append_nil] at hsucc
              rw [← hsucc] at M ⊢
              refine WX.round ((i + 1, (C, cC))) (by (repeat' (first | exact envSub.nil | refine envSub.cons ?_ ?_)) <;> first | rfl | (refine congrArg some ?_; refine congrArg (Value.int _) ?_; first | omega | (dsimp only; omega)) | (simp; done) | (refine congrArg some ?_; dsimp only; congr 1; omega) | (simp; omega)) ⟨M.sel (by first | ((repeat (first | with_reducible exact Sel.refl | with_reducible exact Sel.nil | with_reducible exact Del.here | with_reducible apply Del.there | with_reducible apply Sel.cons | with_reducible apply Sel.drop)); done) | (repeat (first | exact Sel.refl | exact Sel.nil | exact Del.here | apply Del.there | apply Sel.cons | apply Sel.drop))), by dsimp only; omega⟩ (by first | omega | (dsimp only; omega))
          · refine WL.off rfl rfl rfl rfl ?_
            refine WL.off rfl rfl rfl rfl ?_
            refine WL.off rfl rfl rfl rfl ?_
            refine WL.off rfl rfl rfl rfl ?_
            refine WL.off rfl rfl rfl rfl ?_
            refine WL.off rfl rfl rfl rfl ?_
            refine WL.pickF rfl rfl rfl ?_
            refine WL.nil ?_
            refine WX.next ?_
            refine W.sub [(0, _), (1, _), (5, _), (6, _), (7, _), (8, _), (9, _), (54, _)] (.cons rfl (.cons rfl (.cons rfl (.cons rfl (.cons rfl (.cons rfl (.cons rfl (.cons rfl .nil)))))))) ?_
            refine W.condF rfl ?_
            refine W.skip ?_
            refine WX.blockNormal ?_
            refine WX.next ?_
            refine W.region ?_
            refine WL.move rfl rfl ?_
            refine WL.add rfl rfl (by first | exact wI64 (by omega) | rfl) rfl ?_
            refine WL.assign rfl rfl ?_
            refine WL.nil ?_
            rw [← hR] at M
            rw [if_neg (fun q => by have := (hpi.1 q.2).2; omega), List.append_nil] at hsucc
            rw [← hsucc] at M ⊢
            refine WX.round ((i + 1, (C, cC))) (by (repeat' (first | exact envSub.nil | refine envSub.cons ?_ ?_)) <;> first | rfl | (refine congrArg some ?_; refine congrArg (Value.int _) ?_; first | omega | (dsimp only; omega)) | (simp; done) | (refine congrArg some ?_; dsimp only; congr 1; omega) | (simp; omega)) ⟨M.sel (by first | ((repeat (first | with_reducible exact Sel.refl | with_reducible exact Sel.nil | with_reducible exact Del.here | with_reducible apply Del.there | with_reducible apply Sel.cons | with_reducible apply Sel.drop)); done) | (repeat (first | exact Sel.refl | exact Sel.nil | exact Del.here | apply Del.there | apply Sel.cons | apply Sel.drop))), by dsimp only; omega⟩ (by first | omega | (dsimp only; omega))
      · refine WL.off rfl rfl rfl rfl ?_
        refine WL.off rfl rfl rfl rfl ?_
        refine WL.off rfl rfl rfl rfl ?_
        refine WL.offU rfl rfl rfl ?_
        refine WL.offU rfl rfl rfl ?_
        refine WL.offU rfl rfl rfl ?_
        refine WL.off rfl rfl rfl rfl ?_
        refine WL.pickF rfl rfl rfl ?_
        refine WL.move rfl rfl ?_
        refine WL.off rfl rfl rfl rfl ?_
        refine WL.off rfl rfl rfl rfl ?_
        refine WL.off rfl rfl rfl rfl ?_
        refine WL.off rfl rfl rfl rfl ?_
        refine WL.off rfl rfl rfl rfl ?_
        refine WL.off rfl rfl rfl rfl ?_
        refine WL.pickF rfl rfl rfl ?_
        refine WL.nil ?_
        refine WX.next ?_
        refine W.sub [(0, _), (1, _), (5, _), (6, _), (7, _), (8, _), (9, _), (54, _)] (.cons rfl (.cons rfl (.cons rfl (.cons rfl (.cons rfl (.cons rfl (.cons rfl (.cons rfl .nil)))))))) ?_
        refine W.condF rfl ?_
        refine W.skip ?_
        refine WX.blockNormal ?_
        refine WX.next ?_
        refine W.region ?_
        refine WL.move rfl rfl ?_
        refine WL.add rfl rfl (by first | exact wI64 (by omega) | rfl) rfl ?_
        refine WL.assign rfl rfl ?_
        refine WL.nil ?_
        rw [← hR] at M
        rw [if_neg (fun q => c3 (hpi.1 q.2).1), List.append_nil] at hsucc
        rw [← hsucc] at M ⊢
        refine WX.round ((i + 1, (C, cC))) (by (repeat' (first | exact envSub.nil | refine envSub.cons ?_ ?_)) <;> first | rfl | (refine congrArg some ?_; refine congrArg (Value.int _) ?_; first | omega | (dsimp only; omega)) | (simp; done) | (refine congrArg some ?_; dsimp only; congr 1; omega) | (simp; omega)) ⟨M.sel (by first | ((repeat (first | with_reducible exact Sel.refl | with_reducible exact Sel.nil | with_reducible exact Del.here | with_reducible apply Del.there | with_reducible apply Sel.cons | with_reducible apply Sel.drop)); done) | (repeat (first | exact Sel.refl | exact Sel.nil | exact Del.here | apply Del.there | apply Sel.cons | apply Sel.drop))), by dsimp only; omega⟩ (by first | omega | (dsimp only; omega))
    · refine W.exit ?_
      refine WX.thenExit ?_
      refine WX.thenExit ?_
      refine WX.blockHere ?_
      refine WX.blockNormal ?_
      refine WX.next ?_
      refine W.region ?_
      refine WL.move rfl rfl ?_
      refine WL.add rfl rfl (by first | exact wI64 (by omega) | rfl) rfl ?_
      refine WL.assign rfl rfl ?_
      refine WL.nil ?_
      obtain rfl : i = r.sites.length := by omega
      have e : inL r.sites n home c r.sites.length = preL r.sites n home (c + 1) := by unfold inL; rw [hfull]; rfl
      rw [← hR] at M
      rw [e] at M ⊢
      refine WX.round ((c + 1, (C, cC))) (by (repeat' (first | exact envSub.nil | refine envSub.cons ?_ ?_)) <;> first | rfl | (refine congrArg some ?_; refine congrArg (Value.int _) ?_; first | omega | (dsimp only; omega)) | (simp; done) | (refine congrArg some ?_; dsimp only; congr 1; omega) | (simp; omega)) ⟨M.sel (by first | ((repeat (first | with_reducible exact Sel.refl | with_reducible exact Sel.nil | with_reducible exact Del.here | with_reducible apply Del.there | with_reducible apply Sel.cons | with_reducible apply Sel.drop)); done) | (repeat (first | exact Sel.refl | exact Sel.nil | exact Del.here | apply Del.there | apply Sel.cons | apply Sel.drop))), by dsimp only; omega⟩ (by first | omega | (dsimp only; omega))
  · refine W.exit ?_
    refine WX.thenExit ?_
    refine WX.thenExit ?_
    refine WX.blockHere ?_
    refine WX.next ?_
    refine W.seq ?_
    refine W.region ?_
    refine WL.move rfl rfl ?_
    refine WL.assign rfl rfl ?_
    refine WL.nil ?_
    refine WX.next ?_
    refine W.sub [(4, _)] (.cons rfl .nil) ?_
    refine W.ret ?_
    refine WX.ret1 rfl rfl ?_
    obtain rfl : c = 13 := by omega
    exact ⟨B, cB, rfl, M⟩
end Go.Proofs.YtmkhggfcgblefaaDoor
