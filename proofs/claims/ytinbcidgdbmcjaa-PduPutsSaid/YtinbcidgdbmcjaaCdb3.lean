/-
  Walk: the command of bytes (cdb.Parse).
-/
import Derived.Test.YtinbcidgdbmcjaaCdb2
namespace Go.Proofs.Ytinbcidgdbmcjaa
open Go Go.RowKit Bin

/-- The command that sixteen bytes tell. -/
def cmdOf (B : List UInt8) : CmX := ⟨((el B 0).toNat : Int), num (sub B (fmOf ((el B 0).toNat : Int)).la ((fmOf ((el B 0).toNat : Int)).la + (fmOf ((el B 0).toNat : Int)).ln)), (num (sub B (fmOf ((el B 0).toNat : Int)).ca ((fmOf ((el B 0).toNat : Int)).ca + (fmOf ((el B 0).toNat : Int)).cn)) : Int), (num (sub B (fmOf ((el B 0).toNat : Int)).ra ((fmOf ((el B 0).toNat : Int)).ra + (fmOf ((el B 0).toNat : Int)).rn)) : Int)⟩
def prsE (b : List UInt8) : Int := if b.length < 16 then 10 else if kindC ((el (b.take 16) 0).toNat : Int) < 0 then 190 else if chkC (cmdOf (b.take 16)) ≠ 0 ∨ prB (cmdOf (b.take 16)) ≠ b.take 16 then 191 else 0
def prsC (b : List UInt8) : CmX := if prsE b = 0 then cmdOf (b.take 16) else ⟨0, 0, 0, 0⟩
theorem pow256_le {n : Nat} (h : n ≤ 8) : 256 ^ n ≤ 18446744073709551616 := by
  rcases Nat.lt_or_ge n 8 with h1 | h1
  · have := pow256 h1
    omega
  · obtain rfl : n = 8 := by omega
    decide
theorem num_sub_lt {B : List UInt8} {a n : Nat} (h : a + n ≤ B.length) (hn : n ≤ 8) : num (sub B a (a + n)) < 18446744073709551616 := by
  have h1 := num_lt (sub B a (a + n))
  rw [sub_length (by omega) h, show a + n - a = n by omega] at h1
  have h2 := pow256_le hn
  omega
theorem prsE_bad {b : List UInt8} {e : Int} (h : prsE b = e) (he : e ≠ 0) : prsC b = ⟨0, 0, 0, 0⟩ := by
  unfold prsC
  rw [if_neg (by rw [h]; exact he)]
set_option maxRecDepth 10000 in
set_option maxHeartbeats 2000000 in
theorem cParse_ok {A : Option Addr} {cap : Nat} {b : List UInt8} (hl : b.length ≤ 1000000) {w0 : World} (h : RdB w0 A cap b) :
    Fn Try.prog 38 [.slice A b.length cap] w0 fun v w' => v = .tuple #[(prsC b).v, .int .i64 (prsE b)] ∧ Mem w0 w' [] := by
  have M := Mem.refl w0
  obtain ⟨w, hw⟩ : ∃ w, w = w0 := ⟨w0, rfl⟩
  have hcap : b.length ≤ cap := Rd.le h
  have bad : ∀ (e : Int) (w : World) (L : List Asr), Mem w0 w L → e ≠ 0 → prsE b = e → Value.tuple #[CmX.v ⟨0, 0, 0, 0⟩, .int .i64 e] = .tuple #[(prsC b).v, .int .i64 (prsE b)] ∧ Mem w0 w [] := by
    intro e w L M he hp
    exact ⟨by rw [prsE_bad hp he, hp], M.sel (.nil)⟩
  refine Fn.enter Try.func38 rfl Try.ntmps38 rfl ?_
  refine W.sub [(0, _)] (.cons rfl .nil) ?_
  refine W.seq ?_
  refine W.region ?_
  refine WL.alloc Try.zeroValue36 M rfl ?_
  intro g0_0 w M
  try simp only [Value.cells] at M
  try simp only [List.toList_toArray] at M
  refine WL.assign rfl rfl ?_
  refine WL.nil ?_
  refine WX.next ?_
  refine W.sub [(0, _), (2, _)] (.cons rfl (.cons rfl .nil)) ?_
  refine W.seq ?_
  refine W.seq ?_
  refine W.region ?_
  refine WL.move rfl rfl ?_
  refine WL.len Try.underlying25 rfl rfl ?_
  refine WL.lss rfl rfl rfl ?_
  refine WL.nil ?_
  refine WX.next ?_
  refine W.sub [(0, _), (2, _), (13, _)] (.cons rfl (.cons rfl (.cons rfl .nil))) ?_
  refine W.ite rfl (fun c0 => ?_) (fun c0 => ?_)
  · refine W.seq ?_
    refine W.region ?_
    refine WL.buildP (places := #[(0, 1), (1, 1), (2, 1), (3, 1)]) Try.underlying36 Try.zeroValue36 (fun _ => by simp [Try.sizeOf3, Try.sizeOf22, Try.sizeOf3, Try.sizeOf3]) rfl (by repeat (first | exact Puts.nil | exact SetAt.zero | apply SetAt.succ | apply Puts.cons rfl rfl)) rfl ?_
    refine WL.storeWA Try.sizeOf36 rfl rfl (by repeat (first | exact oneNil | refine oneCons rfl ?_)) rfl rfl M (by first | ((repeat (first | with_reducible exact Upd.here | with_reducible apply Upd.there)); done) | (repeat (first | exact Upd.here | apply Upd.there))) ?_
    intro w M
    refine WL.assign rfl rfl ?_
    refine WL.nil ?_
    refine WX.next ?_
    refine W.sub [(2, _), (3, _)] (.cons rfl (.cons rfl .nil)) ?_
    refine W.ret ?_
    refine WX.thenRet ?_
    refine WX.retC2 (cs := [_, _, _, _]) rfl rfl rfl Try.isAgg36 (by exact Try.sizeOf36) (M.cellsH (by first | ((repeat (first | with_reducible exact Has.here | with_reducible refine Has.there ?_)); done) | (repeat (first | exact Has.here | refine Has.there ?_)))) ?_
    exact bad 10 _ _ M (by decide) (by unfold prsE; rw [if_pos (by omega)])
  · have h16 : 16 ≤ b.length := by omega
    have hE : prsE b = if kindC ((el (b.take 16) 0).toNat : Int) < 0 then 190 else if chkC (cmdOf (b.take 16)) ≠ 0 ∨ prB (cmdOf (b.take 16)) ≠ b.take 16 then 191 else 0 := by
      unfold prsE
      rw [if_neg (by omega)]
    have hC : prsE b = 0 → prsC b = cmdOf (b.take 16) := by
      intro h0
      unfold prsC
      rw [if_pos h0]
    have hR : RdB w0 A cap (b.take 16) := h.pre' h16
    obtain ⟨B, hB⟩ : ∃ B, b.take 16 = B := ⟨_, rfl⟩
    have hBl : B.length = 16 := by rw [← hB, List.length_take]; omega
    rw [hB] at hE hR hC
    have q0 := UInt8.toNat_lt (el B 0)
    refine W.skip ?_
    refine WX.next ?_
    refine W.seq ?_
    refine W.region ?_
    refine WL.move rfl rfl ?_
    refine WL.cutH (m' := (B).length) Try.underlying25 Try.sizeOf5 rfl rfl (by omega) (by omega) (by omega) rfl ?_
    refine WL.assign rfl rfl ?_
    refine WL.nil ?_
    refine WX.next ?_
    refine W.sub [(0, _), (2, _)] (.cons rfl (.cons rfl .nil)) ?_
    refine W.seq ?_
    refine W.region ?_
    refine WL.move rfl rfl ?_
    refine WL.idxA (jn := 0) Try.underlying25 Try.sizeOf5 rfl rfl (RdB.isSome (by first | first | with_reducible assumption | with_reducible exact RdB.mem (by with_reducible assumption) M | exact M.rdB (by first | ((repeat (first | with_reducible exact Has.here | with_reducible refine Has.there ?_)); done) | (repeat (first | exact Has.here | refine Has.there ?_))) | exact RdH.at (by assumption) (M.sel (by first | ((repeat (first | with_reducible exact Sel.refl | with_reducible exact Sel.nil | with_reducible exact Del.here | with_reducible apply Del.there | with_reducible apply Sel.cons | with_reducible apply Sel.drop)); done) | (repeat (first | exact Sel.refl | exact Sel.nil | exact Del.here | apply Del.there | apply Sel.cons | apply Sel.drop)))) | exact M.rdLit' (by first | ((repeat (first | with_reducible exact Has.here | with_reducible refine Has.there ?_)); done) | (repeat (first | exact Has.here | refine Has.there ?_))) | exact M.rdLent (by first | ((repeat (first | with_reducible exact Has.here | with_reducible refine Has.there ?_)); done) | (repeat (first | exact Has.here | refine Has.there ?_))) | exact RdB.nil _ _ | exact RdB.sub (by first | with_reducible assumption | with_reducible exact RdB.mem (by with_reducible assumption) M | exact M.rdB (by first | ((repeat (first | with_reducible exact Has.here | with_reducible refine Has.there ?_)); done) | (repeat (first | exact Has.here | refine Has.there ?_))) | exact RdH.at (by assumption) (M.sel (by first | ((repeat (first | with_reducible exact Sel.refl | with_reducible exact Sel.nil | with_reducible exact Del.here | with_reducible apply Del.there | with_reducible apply Sel.cons | with_reducible apply Sel.drop)); done) | (repeat (first | exact Sel.refl | exact Sel.nil | exact Del.here | apply Del.there | apply Sel.cons | apply Sel.drop)))) | exact M.rdLit' (by first | ((repeat (first | with_reducible exact Has.here | with_reducible refine Has.there ?_)); done) | (repeat (first | exact Has.here | refine Has.there ?_))) | exact M.rdLent (by first | ((repeat (first | with_reducible exact Has.here | with_reducible refine Has.there ?_)); done) | (repeat (first | exact Has.here | refine Has.there ?_))) | exact RdB.nil _ _) (by omega) (by omega) | exact RdB.pre' (by first | with_reducible assumption | with_reducible exact RdB.mem (by with_reducible assumption) M | exact M.rdB (by first | ((repeat (first | with_reducible exact Has.here | with_reducible refine Has.there ?_)); done) | (repeat (first | exact Has.here | refine Has.there ?_))) | exact RdH.at (by assumption) (M.sel (by first | ((repeat (first | with_reducible exact Sel.refl | with_reducible exact Sel.nil | with_reducible exact Del.here | with_reducible apply Del.there | with_reducible apply Sel.cons | with_reducible apply Sel.drop)); done) | (repeat (first | exact Sel.refl | exact Sel.nil | exact Del.here | apply Del.there | apply Sel.cons | apply Sel.drop)))) | exact M.rdLit' (by first | ((repeat (first | with_reducible exact Has.here | with_reducible refine Has.there ?_)); done) | (repeat (first | exact Has.here | refine Has.there ?_))) | exact M.rdLent (by first | ((repeat (first | with_reducible exact Has.here | with_reducible refine Has.there ?_)); done) | (repeat (first | exact Has.here | refine Has.there ?_))) | exact RdB.nil _ _) (by omega) | exact RdB.suf (by first | with_reducible assumption | with_reducible exact RdB.mem (by with_reducible assumption) M | exact M.rdB (by first | ((repeat (first | with_reducible exact Has.here | with_reducible refine Has.there ?_)); done) | (repeat (first | exact Has.here | refine Has.there ?_))) | exact RdH.at (by assumption) (M.sel (by first | ((repeat (first | with_reducible exact Sel.refl | with_reducible exact Sel.nil | with_reducible exact Del.here | with_reducible apply Del.there | with_reducible apply Sel.cons | with_reducible apply Sel.drop)); done) | (repeat (first | exact Sel.refl | exact Sel.nil | exact Del.here | apply Del.there | apply Sel.cons | apply Sel.drop)))) | exact M.rdLit' (by first | ((repeat (first | with_reducible exact Has.here | with_reducible refine Has.there ?_)); done) | (repeat (first | exact Has.here | refine Has.there ?_))) | exact M.rdLent (by first | ((repeat (first | with_reducible exact Has.here | with_reducible refine Has.there ?_)); done) | (repeat (first | exact Has.here | refine Has.there ?_))) | exact RdB.nil _ _) (by omega)) (by omega)) (by omega) (by omega) (by first | exact rfl | exact (Int.toNat_of_nonneg (by omega)).symm) rfl ?_
    refine WL.loadB Try.isAgg5 rfl (by first | first | with_reducible assumption | with_reducible exact RdB.mem (by with_reducible assumption) M | exact M.rdB (by first | ((repeat (first | with_reducible exact Has.here | with_reducible refine Has.there ?_)); done) | (repeat (first | exact Has.here | refine Has.there ?_))) | exact RdH.at (by assumption) (M.sel (by first | ((repeat (first | with_reducible exact Sel.refl | with_reducible exact Sel.nil | with_reducible exact Del.here | with_reducible apply Del.there | with_reducible apply Sel.cons | with_reducible apply Sel.drop)); done) | (repeat (first | exact Sel.refl | exact Sel.nil | exact Del.here | apply Del.there | apply Sel.cons | apply Sel.drop)))) | exact M.rdLit' (by first | ((repeat (first | with_reducible exact Has.here | with_reducible refine Has.there ?_)); done) | (repeat (first | exact Has.here | refine Has.there ?_))) | exact M.rdLent (by first | ((repeat (first | with_reducible exact Has.here | with_reducible refine Has.there ?_)); done) | (repeat (first | exact Has.here | refine Has.there ?_))) | exact RdB.nil _ _ | exact RdB.sub (by first | with_reducible assumption | with_reducible exact RdB.mem (by with_reducible assumption) M | exact M.rdB (by first | ((repeat (first | with_reducible exact Has.here | with_reducible refine Has.there ?_)); done) | (repeat (first | exact Has.here | refine Has.there ?_))) | exact RdH.at (by assumption) (M.sel (by first | ((repeat (first | with_reducible exact Sel.refl | with_reducible exact Sel.nil | with_reducible exact Del.here | with_reducible apply Del.there | with_reducible apply Sel.cons | with_reducible apply Sel.drop)); done) | (repeat (first | exact Sel.refl | exact Sel.nil | exact Del.here | apply Del.there | apply Sel.cons | apply Sel.drop)))) | exact M.rdLit' (by first | ((repeat (first | with_reducible exact Has.here | with_reducible refine Has.there ?_)); done) | (repeat (first | exact Has.here | refine Has.there ?_))) | exact M.rdLent (by first | ((repeat (first | with_reducible exact Has.here | with_reducible refine Has.there ?_)); done) | (repeat (first | exact Has.here | refine Has.there ?_))) | exact RdB.nil _ _) (by omega) (by omega) | exact RdB.pre' (by first | with_reducible assumption | with_reducible exact RdB.mem (by with_reducible assumption) M | exact M.rdB (by first | ((repeat (first | with_reducible exact Has.here | with_reducible refine Has.there ?_)); done) | (repeat (first | exact Has.here | refine Has.there ?_))) | exact RdH.at (by assumption) (M.sel (by first | ((repeat (first | with_reducible exact Sel.refl | with_reducible exact Sel.nil | with_reducible exact Del.here | with_reducible apply Del.there | with_reducible apply Sel.cons | with_reducible apply Sel.drop)); done) | (repeat (first | exact Sel.refl | exact Sel.nil | exact Del.here | apply Del.there | apply Sel.cons | apply Sel.drop)))) | exact M.rdLit' (by first | ((repeat (first | with_reducible exact Has.here | with_reducible refine Has.there ?_)); done) | (repeat (first | exact Has.here | refine Has.there ?_))) | exact M.rdLent (by first | ((repeat (first | with_reducible exact Has.here | with_reducible refine Has.there ?_)); done) | (repeat (first | exact Has.here | refine Has.there ?_))) | exact RdB.nil _ _) (by omega) | exact RdB.suf (by first | with_reducible assumption | with_reducible exact RdB.mem (by with_reducible assumption) M | exact M.rdB (by first | ((repeat (first | with_reducible exact Has.here | with_reducible refine Has.there ?_)); done) | (repeat (first | exact Has.here | refine Has.there ?_))) | exact RdH.at (by assumption) (M.sel (by first | ((repeat (first | with_reducible exact Sel.refl | with_reducible exact Sel.nil | with_reducible exact Del.here | with_reducible apply Del.there | with_reducible apply Sel.cons | with_reducible apply Sel.drop)); done) | (repeat (first | exact Sel.refl | exact Sel.nil | exact Del.here | apply Del.there | apply Sel.cons | apply Sel.drop)))) | exact M.rdLit' (by first | ((repeat (first | with_reducible exact Has.here | with_reducible refine Has.there ?_)); done) | (repeat (first | exact Has.here | refine Has.there ?_))) | exact M.rdLent (by first | ((repeat (first | with_reducible exact Has.here | with_reducible refine Has.there ?_)); done) | (repeat (first | exact Has.here | refine Has.there ?_))) | exact RdB.nil _ _) (by omega)) (by omega) rfl ?_
    refine WL.conv Try.underlying5 Try.underlying3 rfl (by first | exact wI64 (by omega) | rfl) rfl ?_
    refine WL.call Try.call53 rfl (find_ok ((el B 0).toNat : Int) _) rfl ?_
    rintro _ w ⟨rfl, m⟩
    replace M := M.call0 m; clear m
    obtain ⟨op, hop⟩ : ∃ op : Int, op = ((el B 0).toNat : Int) := ⟨_, rfl⟩
    have hcm : cmdOf B = ⟨op, num (sub B (fmOf op).la ((fmOf op).la + (fmOf op).ln)), (num (sub B (fmOf op).ca ((fmOf op).ca + (fmOf op).cn)) : Int), (num (sub B (fmOf op).ra ((fmOf op).ra + (fmOf op).rn)) : Int)⟩ := by rw [hop]; rfl
    rw [← hop] at hE ⊢
    obtain ⟨g1, g2, g3, g4, g5, g6⟩ := fm_fits op
    have hfk : 0 ≤ kindC op → _ := fun hk => fm_kind hk
    obtain ⟨f, hf⟩ : ∃ f, fmOf op = f := ⟨_, rfl⟩
    rw [hf] at g1 g2 g3 g4 g5 g6 hcm hfk ⊢
    unfold Fm.v
    refine WL.move rfl rfl ?_
    refine WL.extractL rfl rfl rfl ?_
    refine WL.extractL rfl rfl rfl ?_
    refine WL.alloc Try.zeroValue99 M rfl ?_
    intro g4_8 w M
    try simp only [Value.cells] at M
    try simp only [List.toList_toArray] at M
    refine WL.storeWA Try.sizeOf99 rfl rfl (by repeat (first | exact oneNil | refine oneCons rfl ?_)) rfl rfl M (by first | ((repeat (first | with_reducible exact Upd.here | with_reducible apply Upd.there)); done) | (repeat (first | exact Upd.here | apply Upd.there))) ?_
    intro w M
    refine WL.assign rfl rfl ?_
    refine WL.nil ?_
    refine WX.next ?_
    refine W.sub [(0, _), (2, _), (4, _), (5, _)] (.cons rfl (.cons rfl (.cons rfl (.cons rfl .nil)))) ?_
    refine W.seq ?_
    refine W.seq ?_
    refine W.region ?_
    refine WL.move rfl rfl ?_
    refine WL.not rfl rfl ?_
    refine WL.nil ?_
    refine WX.next ?_
    refine W.sub [(0, _), (2, _), (4, _), (26, _)] (.cons rfl (.cons rfl (.cons rfl (.cons rfl .nil)))) ?_
    refine W.cond rfl (fun c1 => ?_) (fun c1 => ?_)
    · (try simp only [Bool.not_eq_true'] at c1); (try simp only [Bool.not_eq_false'] at c1); (try simp only [decide_eq_true_eq] at c1); (try simp only [decide_eq_false_iff_not] at c1)
      refine W.seq ?_
      refine W.region ?_
      refine WL.buildP (places := #[(0, 1), (1, 1), (2, 1), (3, 1)]) Try.underlying36 Try.zeroValue36 (fun _ => by simp [Try.sizeOf3, Try.sizeOf22, Try.sizeOf3, Try.sizeOf3]) rfl (by repeat (first | exact Puts.nil | exact SetAt.zero | apply SetAt.succ | apply Puts.cons rfl rfl)) rfl ?_
      refine WL.storeWA Try.sizeOf36 rfl rfl (by repeat (first | exact oneNil | refine oneCons rfl ?_)) rfl rfl M (by first | ((repeat (first | with_reducible exact Upd.here | with_reducible apply Upd.there)); done) | (repeat (first | exact Upd.here | apply Upd.there))) ?_
      intro w M
      refine WL.assign rfl rfl ?_
      refine WL.nil ?_
      refine WX.next ?_
      refine W.sub [(2, _), (3, _)] (.cons rfl (.cons rfl .nil)) ?_
      refine W.ret ?_
      refine WX.thenRet ?_
      refine WX.retC2 (cs := [_, _, _, _]) rfl rfl rfl Try.isAgg36 (by exact Try.sizeOf36) (M.cellsH (by first | ((repeat (first | with_reducible exact Has.here | with_reducible refine Has.there ?_)); done) | (repeat (first | exact Has.here | refine Has.there ?_)))) ?_
      exact bad 190 _ _ M (by decide) (by rw [hE, if_pos (by simpa using c1)])
    · (try simp only [Bool.not_eq_true'] at c1); (try simp only [Bool.not_eq_false'] at c1); (try simp only [decide_eq_true_eq] at c1); (try simp only [decide_eq_false_iff_not] at c1)
      have hk : 0 ≤ kindC op := by simpa using c1
      obtain ⟨f1, f2, f3, f4⟩ := hfk hk
      have mC := maxCt_le (kindC op)
      have mR := maxRm_le (kindC op)
      rw [if_neg (by omega)] at hE
      have nl := num_sub_lt (B := B) (a := f.la) (n := f.ln) (by omega) g2
      have nc := num_sub_lt (B := B) (a := f.ca) (n := f.cn) (by omega) g4
      have nr := num_sub_lt (B := B) (a := f.ra) (n := f.rn) (by omega) g6
      obtain ⟨NL, hNL⟩ : ∃ N, num (sub B f.la (f.la + f.ln)) = N := ⟨_, rfl⟩
      obtain ⟨NC, hNC⟩ : ∃ N, num (sub B f.ca (f.ca + f.cn)) = N := ⟨_, rfl⟩
      obtain ⟨NR, hNR⟩ : ∃ N, num (sub B f.ra (f.ra + f.rn)) = N := ⟨_, rfl⟩
      rw [hNL, hNC, hNR] at hcm
      rw [hNL] at nl
      rw [hNC] at nc
      rw [hNR] at nr
      refine W.skip ?_
      refine WX.next ?_
      refine W.seq ?_
      refine W.drawM ([Asr.row g4_8 99 [.int .i64 f.op, .int .i64 (f.la : Int), .int .i64 (f.ln : Int), .int .i64 (f.ca : Int), .int .i64 (f.cn : Int), .int .i64 (f.ra : Int), .int .i64 (f.rn : Int), .int .u8 (f.one.toNat : Int)], Asr.row g0_0 36 (CmX.cells ⟨0, 0, 0, 0⟩)]) (by kernel_rfl) (fun j => [2, 3, 6].contains j) M (by first | ((repeat (first | with_reducible exact Sel.refl | with_reducible exact Sel.nil | with_reducible exact Del.here | with_reducible apply Del.there | with_reducible apply Sel.cons | with_reducible apply Sel.drop)); done) | (repeat (first | exact Sel.refl | exact Sel.nil | exact Del.here | apply Del.there | apply Sel.cons | apply Sel.drop))) ?_
      clear M; intro M
      apply DG.pure_ [0, 1, 4, 5] 6 rfl (by kernel_rfl) (by kernel_rfl)
      · intro w
        refine WL.move rfl rfl ?_
        refine WL.fieldR (off := 3) Try.underlying99 rfl rfl Try.sizeOf97 rfl rfl rfl ?_
        refine WL.move rfl rfl ?_
        refine WL.fieldR (off := 5) Try.underlying99 rfl rfl Try.sizeOf97 rfl rfl rfl ?_
        exact Chain.end_ rfl
      apply DG.take [2, 6] 4 rfl (by kernel_rfl) (by kernel_rfl) (M.sel (by first | ((repeat (first | with_reducible exact Sel.refl | with_reducible exact Sel.nil | with_reducible exact Del.here | with_reducible apply Del.there | with_reducible apply Sel.cons | with_reducible apply Sel.drop)); done) | (repeat (first | exact Sel.refl | exact Sel.nil | exact Del.here | apply Del.there | apply Sel.cons | apply Sel.drop))))
      · intro w M
        refine WL.loadSub (ss := [_, _]) Try.isAgg97 Try.sizeOf97 rfl M (by first | ((repeat (first | with_reducible exact Has.here | with_reducible refine Has.there ?_)); done) | (repeat (first | exact Has.here | refine Has.there ?_))) rfl rfl rfl ?_
        refine WL.loadSub (ss := [_, _]) Try.isAgg97 Try.sizeOf97 rfl M (by first | ((repeat (first | with_reducible exact Has.here | with_reducible refine Has.there ?_)); done) | (repeat (first | exact Has.here | refine Has.there ?_))) rfl rfl rfl ?_
        exact Chain.end_ rfl
      refine DG.step 3 3 rfl (by kernel_rfl) ?_
      refine WL.call Try.call54 rfl (get_ok (l := B) (a := f.ca) (n := f.cn) (by omega) g4 (by omega) (hR.mem M)) rfl ?_
      rintro _ w ⟨rfl, m⟩
      replace M := M.call0 m; clear m
      rw [hNC]
      refine DG.go (G := fun j => [2, 3, 6].contains j) (i := 3) (f' := 3) (done := [0, 1, 4, 5, 2, 6]) (fun _ => M.sel (by first | ((repeat (first | with_reducible exact Sel.refl | with_reducible exact Sel.nil | with_reducible exact Del.here | with_reducible apply Del.there | with_reducible apply Sel.cons | with_reducible apply Sel.drop)); done) | (repeat (first | exact Sel.refl | exact Sel.nil | exact Del.here | apply Del.there | apply Sel.cons | apply Sel.drop)))) ?_
      refine DG.step 7 2 rfl (by kernel_rfl) ?_
      refine WL.call Try.call54 rfl (get_ok (l := B) (a := f.ra) (n := f.rn) (by omega) g6 (by omega) (hR.mem M)) rfl ?_
      rintro _ w ⟨rfl, m⟩
      replace M := M.call0 m; clear m
      rw [hNR]
      refine DG.go (G := fun j => [2, 3, 6].contains j) (i := 7) (f' := 2) (done := [0, 1, 4, 5, 2, 6, 3]) (fun h => by cases h) ?_
      apply DG.pure_ [8, 9] 0 rfl (by kernel_rfl) (by kernel_rfl)
      · intro w
        refine WL.assign rfl rfl ?_
        refine WL.assign rfl rfl ?_
        exact Chain.end_ rfl
      refine DG.end_ (by kernel_rfl) ?_
      refine WX.next ?_
      refine W.sub [(0, _), (2, _), (4, _), (6, _), (7, _)] (.cons rfl (.cons rfl (.cons rfl (.cons rfl (.cons rfl .nil))))) ?_
      refine W.seq ?_
      refine W.seq ?_
      refine W.region ?_
      refine WL.move rfl rfl ?_
      refine WL.fieldR (off := 3) Try.underlying99 rfl rfl Try.sizeOf97 rfl rfl rfl ?_
      refine WL.loadSub (ss := [_, _]) Try.isAgg97 Try.sizeOf97 rfl M (by first | ((repeat (first | with_reducible exact Has.here | with_reducible refine Has.there ?_)); done) | (repeat (first | exact Has.here | refine Has.there ?_))) rfl rfl rfl ?_
      refine WL.call Try.call55 rfl (most_ok f.ca f.cn _) rfl ?_
      rintro _ w ⟨rfl, m⟩
      replace M := M.call0 m; clear m
      rw [f3]
      refine WL.gtr rfl rfl rfl ?_
      refine WL.moveIf rfl rfl (fun c2 => ?_) (fun c2 => ?_)
      · refine WL.off rfl rfl rfl rfl ?_
        refine WL.off rfl rfl rfl rfl ?_
        refine WL.off rfl rfl rfl rfl ?_
        refine WL.off rfl rfl rfl rfl ?_
        refine WL.off rfl rfl rfl rfl ?_
        refine WL.pickT rfl rfl rfl ?_
        refine WL.nil ?_
        refine WX.next ?_
        refine W.sub [(0, _), (2, _), (4, _), (6, _), (7, _), (47, _)] (.cons rfl (.cons rfl (.cons rfl (.cons rfl (.cons rfl (.cons rfl .nil)))))) ?_
        refine W.condT rfl ?_
        refine W.seq ?_
        refine W.region ?_
        refine WL.buildP (places := #[(0, 1), (1, 1), (2, 1), (3, 1)]) Try.underlying36 Try.zeroValue36 (fun _ => by simp [Try.sizeOf3, Try.sizeOf22, Try.sizeOf3, Try.sizeOf3]) rfl (by repeat (first | exact Puts.nil | exact SetAt.zero | apply SetAt.succ | apply Puts.cons rfl rfl)) rfl ?_
        refine WL.storeWA Try.sizeOf36 rfl rfl (by repeat (first | exact oneNil | refine oneCons rfl ?_)) rfl rfl M (by first | ((repeat (first | with_reducible exact Upd.here | with_reducible apply Upd.there)); done) | (repeat (first | exact Upd.here | apply Upd.there))) ?_
        intro w M
        refine WL.assign rfl rfl ?_
        refine WL.nil ?_
        refine WX.next ?_
        refine W.sub [(2, _), (3, _)] (.cons rfl (.cons rfl .nil)) ?_
        refine W.ret ?_
        refine WX.thenRet ?_
        refine WX.retC2 (cs := [_, _, _, _]) rfl rfl rfl Try.isAgg36 (by exact Try.sizeOf36) (M.cellsH (by first | ((repeat (first | with_reducible exact Has.here | with_reducible refine Has.there ?_)); done) | (repeat (first | exact Has.here | refine Has.there ?_)))) ?_
        exact bad 191 _ _ M (by decide) (by rw [hE, if_pos]; left; rw [hcm]; unfold chkC; rw [if_neg (by dsimp only; omega), if_pos (by dsimp only; omega)]; decide)
      · refine WL.on rfl rfl ?_
        refine WL.move rfl rfl ?_
        refine WL.on rfl rfl ?_
        refine WL.fieldR (off := 5) Try.underlying99 rfl rfl Try.sizeOf97 rfl rfl rfl ?_
        refine WL.on rfl rfl ?_
        refine WL.loadSub (ss := [_, _]) Try.isAgg97 Try.sizeOf97 rfl M (by first | ((repeat (first | with_reducible exact Has.here | with_reducible refine Has.there ?_)); done) | (repeat (first | exact Has.here | refine Has.there ?_))) rfl rfl rfl ?_
        refine WL.on rfl rfl ?_
        refine WL.call Try.call55 rfl (most_ok f.ra f.rn _) rfl ?_
        rintro _ w ⟨rfl, m⟩
        replace M := M.call0 m; clear m
        rw [f4]
        refine WL.on rfl rfl ?_
        refine WL.gtr rfl rfl rfl ?_
        refine WL.pickF rfl rfl rfl ?_
        refine WL.nil ?_
        refine WX.next ?_
        refine W.sub [(0, _), (2, _), (4, _), (6, _), (7, _), (47, _)] (.cons rfl (.cons rfl (.cons rfl (.cons rfl (.cons rfl (.cons rfl .nil)))))) ?_
        refine W.ite rfl (fun c3 => ?_) (fun c3 => ?_)
        · refine W.seq ?_
          refine W.region ?_
          refine WL.buildP (places := #[(0, 1), (1, 1), (2, 1), (3, 1)]) Try.underlying36 Try.zeroValue36 (fun _ => by simp [Try.sizeOf3, Try.sizeOf22, Try.sizeOf3, Try.sizeOf3]) rfl (by repeat (first | exact Puts.nil | exact SetAt.zero | apply SetAt.succ | apply Puts.cons rfl rfl)) rfl ?_
          refine WL.storeWA Try.sizeOf36 rfl rfl (by repeat (first | exact oneNil | refine oneCons rfl ?_)) rfl rfl M (by first | ((repeat (first | with_reducible exact Upd.here | with_reducible apply Upd.there)); done) | (repeat (first | exact Upd.here | apply Upd.there))) ?_
          intro w M
          refine WL.assign rfl rfl ?_
          refine WL.nil ?_
          refine WX.next ?_
          refine W.sub [(2, _), (3, _)] (.cons rfl (.cons rfl .nil)) ?_
          refine W.ret ?_
          refine WX.thenRet ?_
          refine WX.retC2 (cs := [_, _, _, _]) rfl rfl rfl Try.isAgg36 (by exact Try.sizeOf36) (M.cellsH (by first | ((repeat (first | with_reducible exact Has.here | with_reducible refine Has.there ?_)); done) | (repeat (first | exact Has.here | refine Has.there ?_)))) ?_
          exact bad 191 _ _ M (by decide) (by rw [hE, if_pos]; left; rw [hcm]; unfold chkC; rw [if_neg (by dsimp only; omega), if_pos (by dsimp only; omega)]; decide)
        · refine W.skip ?_
          refine WX.next ?_
          refine W.seq ?_
          refine W.drawM ([Asr.row g4_8 99 [.int .i64 f.op, .int .i64 (f.la : Int), .int .i64 (f.ln : Int), .int .i64 (f.ca : Int), .int .i64 (f.cn : Int), .int .i64 (f.ra : Int), .int .i64 (f.rn : Int), .int .u8 (f.one.toNat : Int)], Asr.row g0_0 36 (CmX.cells ⟨0, 0, 0, 0⟩)]) (by kernel_rfl) (fun j => [1, 4, 5, 11].contains j) M (by first | ((repeat (first | with_reducible exact Sel.refl | with_reducible exact Sel.nil | with_reducible exact Del.here | with_reducible apply Del.there | with_reducible apply Sel.cons | with_reducible apply Sel.drop)); done) | (repeat (first | exact Sel.refl | exact Sel.nil | exact Del.here | apply Del.there | apply Sel.cons | apply Sel.drop))) ?_
          clear M; intro M
          apply DG.pure_ [0, 2, 3, 6, 7, 8, 9] 6 rfl (by kernel_rfl) (by kernel_rfl)
          · intro w
            refine WL.fieldR (off := 0) Try.underlying99 rfl rfl Try.sizeOf3 rfl rfl rfl ?_
            refine WL.move rfl rfl ?_
            refine WL.fieldR (off := 1) Try.underlying99 rfl rfl Try.sizeOf97 rfl rfl rfl ?_
            refine WL.move rfl rfl ?_
            refine WL.conv Try.underlying22 Try.underlying3 rfl (by first | exact wI64 (by omega) | rfl) rfl ?_
            refine WL.move rfl rfl ?_
            refine WL.conv Try.underlying22 Try.underlying3 rfl (by first | exact wI64 (by omega) | rfl) rfl ?_
            exact Chain.end_ rfl
          apply DG.take [1, 4] 4 rfl (by kernel_rfl) (by kernel_rfl) (M.sel (by first | ((repeat (first | with_reducible exact Sel.refl | with_reducible exact Sel.nil | with_reducible exact Del.here | with_reducible apply Del.there | with_reducible apply Sel.cons | with_reducible apply Sel.drop)); done) | (repeat (first | exact Sel.refl | exact Sel.nil | exact Del.here | apply Del.there | apply Sel.cons | apply Sel.drop))))
          · intro w M
            refine WL.loadR Try.isAgg3 rfl M (by first | ((repeat (first | with_reducible exact Has.here | with_reducible refine Has.there ?_)); done) | (repeat (first | exact Has.here | refine Has.there ?_))) rfl rfl ?_
            refine WL.loadSub (ss := [_, _]) Try.isAgg97 Try.sizeOf97 rfl M (by first | ((repeat (first | with_reducible exact Has.here | with_reducible refine Has.there ?_)); done) | (repeat (first | exact Has.here | refine Has.there ?_))) rfl rfl rfl ?_
            exact Chain.end_ rfl
          refine DG.steps [5, 11] 3 rfl (by kernel_rfl) rfl ?_
          intro i hi; simp only [List.mem_cons, List.not_mem_nil, or_false] at hi; rcases hi with rfl | rfl
          · refine WL.call Try.call54 rfl (get_ok (l := B) (a := f.la) (n := f.ln) (by omega) g2 (by omega) (hR.mem M)) rfl ?_
            rintro _ w ⟨rfl, m⟩
            replace M := M.call0 m; clear m
            rw [hNL]
            refine DG.go (G := fun j => [1, 4, 5, 11].contains j) (i := 5) (f' := 3) (done := [0, 2, 3, 6, 7, 8, 9, 1, 4]) (fun _ => M.sel (by first | ((repeat (first | with_reducible exact Sel.refl | with_reducible exact Sel.nil | with_reducible exact Del.here | with_reducible apply Del.there | with_reducible apply Sel.cons | with_reducible apply Sel.drop)); done) | (repeat (first | exact Sel.refl | exact Sel.nil | exact Del.here | apply Del.there | apply Sel.cons | apply Sel.drop)))) ?_
            apply DG.pure_ [10] 2 rfl (by kernel_rfl) (by kernel_rfl)
            · intro w
              refine WL.buildP (places := #[(0, 1), (1, 1), (2, 1), (3, 1)]) Try.underlying36 Try.zeroValue36 (fun _ => by simp [Try.sizeOf3, Try.sizeOf22, Try.sizeOf3, Try.sizeOf3]) rfl (by repeat (first | exact Puts.nil | exact SetAt.zero | apply SetAt.succ | apply Puts.cons rfl rfl)) rfl ?_
              exact Chain.end_ rfl
            refine DG.step 11 1 rfl (by kernel_rfl) ?_
            refine WL.alloc Try.zeroValue36 M rfl ?_
            intro g10_11 w M
            try simp only [Value.cells] at M
            try simp only [List.toList_toArray] at M
            refine DG.go (G := fun j => [1, 4, 5, 11].contains j) (i := 11) (f' := 1) (done := [0, 2, 3, 6, 7, 8, 9, 1, 4, 5, 10]) (fun _ => M.sel (by first | ((repeat (first | with_reducible exact Sel.refl | with_reducible exact Sel.nil | with_reducible exact Del.here | with_reducible apply Del.there | with_reducible apply Sel.cons | with_reducible apply Sel.drop)); done) | (repeat (first | exact Sel.refl | exact Sel.nil | exact Del.here | apply Del.there | apply Sel.cons | apply Sel.drop)))) ?_
            refine DG.step 12 0 rfl (by kernel_rfl) ?_
            refine WL.storeWA Try.sizeOf36 rfl rfl (by repeat (first | exact oneNil | refine oneCons rfl ?_)) rfl rfl M (by first | ((repeat (first | with_reducible exact Upd.here | with_reducible apply Upd.there)); done) | (repeat (first | exact Upd.here | apply Upd.there))) ?_
            intro w M
            refine DG.go (G := fun j => [1, 4, 5, 11].contains j) (i := 12) (f' := 0) (done := [0, 2, 3, 6, 7, 8, 9, 1, 4, 5, 10, 11]) (fun h => by cases h) ?_
            refine DG.end_ (by kernel_rfl) ?_
            refine WX.next ?_
            refine W.sub [(0, _), (2, _), (8, _)] (.cons rfl (.cons rfl (.cons rfl .nil))) ?_
            refine W.seq ?_
            refine W.seq ?_
            refine W.region ?_
            refine WL.loadW Try.isAgg36 Try.sizeOf36 rfl M (by first | ((repeat (first | with_reducible exact Has.here | with_reducible refine Has.there ?_)); done) | (repeat (first | exact Has.here | refine Has.there ?_))) rfl rfl ?_
            refine WL.call Try.call56 rfl (cPrint_ok ⟨f.op, NL, (NC : Int), (NR : Int)⟩ ⟨nl, ⟨by dsimp only; omega, by dsimp only; omega⟩, ⟨by dsimp only; omega, by dsimp only; omega⟩⟩ _) rfl ?_
            rintro _ w ⟨⟨C, cC, y⟩, rfl, m, hy⟩
            replace M := M.call1 m; clear m
            rw [f1] at hy ⊢
            rw [← hcm] at hy ⊢
            unfold OX.v
            unfold OX.O at M
            dsimp only at hy M ⊢
            refine WL.move rfl rfl ?_
            refine WL.extractL rfl rfl rfl ?_
            refine WL.extractL rfl rfl rfl ?_
            refine WL.assign rfl rfl ?_
            refine WL.assign rfl rfl ?_
            refine WL.nil ?_
            refine WX.next ?_
            refine W.sub [(0, _), (2, _), (8, _), (9, _), (10, _)] (.cons rfl (.cons rfl (.cons rfl (.cons rfl (.cons rfl .nil))))) ?_
            refine W.seq ?_
            refine W.region ?_
            refine WL.move rfl rfl ?_
            refine WL.neI rfl rfl rfl ?_
            refine WL.moveIf rfl rfl (fun c4 => ?_) (fun c4 => ?_)
            · refine WL.off rfl rfl rfl rfl ?_
              refine WL.off rfl rfl rfl rfl ?_
              refine WL.off rfl rfl rfl rfl ?_
              refine WL.off rfl rfl rfl rfl ?_
              refine WL.off rfl rfl rfl rfl ?_
              refine WL.pickT rfl rfl rfl ?_
              refine WL.nil ?_
              refine WX.next ?_
              refine W.sub [(2, _), (8, _), (73, _)] (.cons rfl (.cons rfl (.cons rfl .nil))) ?_
              refine W.condT rfl ?_
              refine W.seq ?_
              refine W.region ?_
              refine WL.buildP (places := #[(0, 1), (1, 1), (2, 1), (3, 1)]) Try.underlying36 Try.zeroValue36 (fun _ => by simp [Try.sizeOf3, Try.sizeOf22, Try.sizeOf3, Try.sizeOf3]) rfl (by repeat (first | exact Puts.nil | exact SetAt.zero | apply SetAt.succ | apply Puts.cons rfl rfl)) rfl ?_
              refine WL.storeWA Try.sizeOf36 rfl rfl (by repeat (first | exact oneNil | refine oneCons rfl ?_)) rfl rfl M (by first | ((repeat (first | with_reducible exact Upd.here | with_reducible apply Upd.there)); done) | (repeat (first | exact Upd.here | apply Upd.there))) ?_
              intro w M
              refine WL.assign rfl rfl ?_
              refine WL.nil ?_
              refine WX.next ?_
              refine W.sub [(2, _), (3, _)] (.cons rfl (.cons rfl .nil)) ?_
              refine W.ret ?_
              refine WX.thenRet ?_
              refine WX.retC2 (cs := [_, _, _, _]) rfl rfl rfl Try.isAgg36 (by exact Try.sizeOf36) (M.cellsH (by first | ((repeat (first | with_reducible exact Has.here | with_reducible refine Has.there ?_)); done) | (repeat (first | exact Has.here | refine Has.there ?_)))) ?_
              exact bad 191 _ _ M (by decide) (by rw [hE, if_pos]; first | exact .inl c4 | (right; rw [if_pos (Classical.not_not.1 c4)] at hy; rw [← hy]; exact c5))
            · refine WL.on rfl rfl ?_
              refine WL.move rfl rfl ?_
              refine WL.on rfl rfl ?_
              refine WL.toStr Try.underlying25 Try.underlying5 Try.underlying9 rfl (by first | first | with_reducible assumption | with_reducible exact RdB.mem (by with_reducible assumption) M | exact M.rdB (by first | ((repeat (first | with_reducible exact Has.here | with_reducible refine Has.there ?_)); done) | (repeat (first | exact Has.here | refine Has.there ?_))) | exact RdH.at (by assumption) (M.sel (by first | ((repeat (first | with_reducible exact Sel.refl | with_reducible exact Sel.nil | with_reducible exact Del.here | with_reducible apply Del.there | with_reducible apply Sel.cons | with_reducible apply Sel.drop)); done) | (repeat (first | exact Sel.refl | exact Sel.nil | exact Del.here | apply Del.there | apply Sel.cons | apply Sel.drop)))) | exact M.rdLit' (by first | ((repeat (first | with_reducible exact Has.here | with_reducible refine Has.there ?_)); done) | (repeat (first | exact Has.here | refine Has.there ?_))) | exact M.rdLent (by first | ((repeat (first | with_reducible exact Has.here | with_reducible refine Has.there ?_)); done) | (repeat (first | exact Has.here | refine Has.there ?_))) | exact RdB.nil _ _ | exact RdB.sub (by first | with_reducible assumption | with_reducible exact RdB.mem (by with_reducible assumption) M | exact M.rdB (by first | ((repeat (first | with_reducible exact Has.here | with_reducible refine Has.there ?_)); done) | (repeat (first | exact Has.here | refine Has.there ?_))) | exact RdH.at (by assumption) (M.sel (by first | ((repeat (first | with_reducible exact Sel.refl | with_reducible exact Sel.nil | with_reducible exact Del.here | with_reducible apply Del.there | with_reducible apply Sel.cons | with_reducible apply Sel.drop)); done) | (repeat (first | exact Sel.refl | exact Sel.nil | exact Del.here | apply Del.there | apply Sel.cons | apply Sel.drop)))) | exact M.rdLit' (by first | ((repeat (first | with_reducible exact Has.here | with_reducible refine Has.there ?_)); done) | (repeat (first | exact Has.here | refine Has.there ?_))) | exact M.rdLent (by first | ((repeat (first | with_reducible exact Has.here | with_reducible refine Has.there ?_)); done) | (repeat (first | exact Has.here | refine Has.there ?_))) | exact RdB.nil _ _) (by omega) (by omega) | exact RdB.pre' (by first | with_reducible assumption | with_reducible exact RdB.mem (by with_reducible assumption) M | exact M.rdB (by first | ((repeat (first | with_reducible exact Has.here | with_reducible refine Has.there ?_)); done) | (repeat (first | exact Has.here | refine Has.there ?_))) | exact RdH.at (by assumption) (M.sel (by first | ((repeat (first | with_reducible exact Sel.refl | with_reducible exact Sel.nil | with_reducible exact Del.here | with_reducible apply Del.there | with_reducible apply Sel.cons | with_reducible apply Sel.drop)); done) | (repeat (first | exact Sel.refl | exact Sel.nil | exact Del.here | apply Del.there | apply Sel.cons | apply Sel.drop)))) | exact M.rdLit' (by first | ((repeat (first | with_reducible exact Has.here | with_reducible refine Has.there ?_)); done) | (repeat (first | exact Has.here | refine Has.there ?_))) | exact M.rdLent (by first | ((repeat (first | with_reducible exact Has.here | with_reducible refine Has.there ?_)); done) | (repeat (first | exact Has.here | refine Has.there ?_))) | exact RdB.nil _ _) (by omega) | exact RdB.suf (by first | with_reducible assumption | with_reducible exact RdB.mem (by with_reducible assumption) M | exact M.rdB (by first | ((repeat (first | with_reducible exact Has.here | with_reducible refine Has.there ?_)); done) | (repeat (first | exact Has.here | refine Has.there ?_))) | exact RdH.at (by assumption) (M.sel (by first | ((repeat (first | with_reducible exact Sel.refl | with_reducible exact Sel.nil | with_reducible exact Del.here | with_reducible apply Del.there | with_reducible apply Sel.cons | with_reducible apply Sel.drop)); done) | (repeat (first | exact Sel.refl | exact Sel.nil | exact Del.here | apply Del.there | apply Sel.cons | apply Sel.drop)))) | exact M.rdLit' (by first | ((repeat (first | with_reducible exact Has.here | with_reducible refine Has.there ?_)); done) | (repeat (first | exact Has.here | refine Has.there ?_))) | exact M.rdLent (by first | ((repeat (first | with_reducible exact Has.here | with_reducible refine Has.there ?_)); done) | (repeat (first | exact Has.here | refine Has.there ?_))) | exact RdB.nil _ _) (by omega)) rfl rfl ?_
              refine WL.on rfl rfl ?_
              refine WL.move rfl rfl ?_
              refine WL.on rfl rfl ?_
              refine WL.toStr Try.underlying25 Try.underlying5 Try.underlying9 rfl (hR.mem M) rfl rfl ?_
              refine WL.on rfl rfl ?_
              refine WL.neS rfl rfl rfl ?_
              refine WL.pickF rfl rfl rfl ?_
              refine WL.nil ?_
              refine WX.next ?_
              refine W.sub [(2, _), (8, _), (73, _)] (.cons rfl (.cons rfl (.cons rfl .nil))) ?_
              refine W.ite rfl (fun c5 => ?_) (fun c5 => ?_)
              · refine W.seq ?_
                refine W.region ?_
                refine WL.buildP (places := #[(0, 1), (1, 1), (2, 1), (3, 1)]) Try.underlying36 Try.zeroValue36 (fun _ => by simp [Try.sizeOf3, Try.sizeOf22, Try.sizeOf3, Try.sizeOf3]) rfl (by repeat (first | exact Puts.nil | exact SetAt.zero | apply SetAt.succ | apply Puts.cons rfl rfl)) rfl ?_
                refine WL.storeWA Try.sizeOf36 rfl rfl (by repeat (first | exact oneNil | refine oneCons rfl ?_)) rfl rfl M (by first | ((repeat (first | with_reducible exact Upd.here | with_reducible apply Upd.there)); done) | (repeat (first | exact Upd.here | apply Upd.there))) ?_
                intro w M
                refine WL.assign rfl rfl ?_
                refine WL.nil ?_
                refine WX.next ?_
                refine W.sub [(2, _), (3, _)] (.cons rfl (.cons rfl .nil)) ?_
                refine W.ret ?_
                refine WX.thenRet ?_
                refine WX.retC2 (cs := [_, _, _, _]) rfl rfl rfl Try.isAgg36 (by exact Try.sizeOf36) (M.cellsH (by first | ((repeat (first | with_reducible exact Has.here | with_reducible refine Has.there ?_)); done) | (repeat (first | exact Has.here | refine Has.there ?_)))) ?_
                exact bad 191 _ _ M (by decide) (by rw [hE, if_pos]; first | exact .inl c4 | (right; rw [if_pos (Classical.not_not.1 c4)] at hy; rw [← hy]; exact c5))
              · refine W.skip ?_
                refine WX.next ?_
                refine W.seq ?_
                refine W.region ?_
                refine WL.loadW Try.isAgg36 Try.sizeOf36 rfl M (by first | ((repeat (first | with_reducible exact Has.here | with_reducible refine Has.there ?_)); done) | (repeat (first | exact Has.here | refine Has.there ?_))) rfl rfl ?_
                refine WL.storeWA Try.sizeOf36 rfl rfl (by repeat (first | exact oneNil | refine oneCons rfl ?_)) rfl rfl M (by first | ((repeat (first | with_reducible exact Upd.here | with_reducible apply Upd.there)); done) | (repeat (first | exact Upd.here | apply Upd.there))) ?_
                intro w M
                refine WL.assign rfl rfl ?_
                refine WL.nil ?_
                refine WX.next ?_
                refine W.sub [(2, _), (3, _)] (.cons rfl (.cons rfl .nil)) ?_
                refine W.ret ?_
                refine WX.retC2 (cs := [_, _, _, _]) rfl rfl rfl Try.isAgg36 (by exact Try.sizeOf36) (M.cellsH (by first | ((repeat (first | with_reducible exact Has.here | with_reducible refine Has.there ?_)); done) | (repeat (first | exact Has.here | refine Has.there ?_)))) ?_
                have e1 : chkC (cmdOf B) = 0 := Classical.not_not.1 c4
                rw [if_pos e1] at hy
                have e2 : prsE b = 0 := by
                  rw [hE, if_neg]
                  rintro (e | e)
                  · exact e e1
                  · exact e (by rw [← hy]; exact Classical.not_not.1 c5)
                exact ⟨by rw [e2, hC e2, hcm, f1]; rfl, M.sel (by first | ((repeat (first | with_reducible exact Sel.refl | with_reducible exact Sel.nil | with_reducible exact Del.here | with_reducible apply Del.there | with_reducible apply Sel.cons | with_reducible apply Sel.drop)); done) | (repeat (first | exact Sel.refl | exact Sel.nil | exact Del.here | apply Del.there | apply Sel.cons | apply Sel.drop)))⟩
          · refine WL.alloc Try.zeroValue36 M rfl ?_
            intro g10_11 w M
            try simp only [Value.cells] at M
            try simp only [List.toList_toArray] at M
            refine DG.go (G := fun j => [1, 4, 5, 11].contains j) (i := 11) (f' := 3) (done := [0, 2, 3, 6, 7, 8, 9, 1, 4]) (fun _ => M.sel (by first | ((repeat (first | with_reducible exact Sel.refl | with_reducible exact Sel.nil | with_reducible exact Del.here | with_reducible apply Del.there | with_reducible apply Sel.cons | with_reducible apply Sel.drop)); done) | (repeat (first | exact Sel.refl | exact Sel.nil | exact Del.here | apply Del.there | apply Sel.cons | apply Sel.drop)))) ?_
            refine DG.step 5 2 rfl (by kernel_rfl) ?_
            refine WL.call Try.call54 rfl (get_ok (l := B) (a := f.la) (n := f.ln) (by omega) g2 (by omega) (hR.mem M)) rfl ?_
            rintro _ w ⟨rfl, m⟩
            replace M := M.call0 m; clear m
            rw [hNL]
            refine DG.go (G := fun j => [1, 4, 5, 11].contains j) (i := 5) (f' := 2) (done := [0, 2, 3, 6, 7, 8, 9, 1, 4, 11]) (fun _ => M.sel (by first | ((repeat (first | with_reducible exact Sel.refl | with_reducible exact Sel.nil | with_reducible exact Del.here | with_reducible apply Del.there | with_reducible apply Sel.cons | with_reducible apply Sel.drop)); done) | (repeat (first | exact Sel.refl | exact Sel.nil | exact Del.here | apply Del.there | apply Sel.cons | apply Sel.drop)))) ?_
            apply DG.pure_ [10] 1 rfl (by kernel_rfl) (by kernel_rfl)
            · intro w
              refine WL.buildP (places := #[(0, 1), (1, 1), (2, 1), (3, 1)]) Try.underlying36 Try.zeroValue36 (fun _ => by simp [Try.sizeOf3, Try.sizeOf22, Try.sizeOf3, Try.sizeOf3]) rfl (by repeat (first | exact Puts.nil | exact SetAt.zero | apply SetAt.succ | apply Puts.cons rfl rfl)) rfl ?_
              exact Chain.end_ rfl
            refine DG.step 12 0 rfl (by kernel_rfl) ?_
            refine WL.storeWA Try.sizeOf36 rfl rfl (by repeat (first | exact oneNil | refine oneCons rfl ?_)) rfl rfl M (by first | ((repeat (first | with_reducible exact Upd.here | with_reducible apply Upd.there)); done) | (repeat (first | exact Upd.here | apply Upd.there))) ?_
            intro w M
            refine DG.go (G := fun j => [1, 4, 5, 11].contains j) (i := 12) (f' := 0) (done := [0, 2, 3, 6, 7, 8, 9, 1, 4, 11, 5, 10]) (fun h => by cases h) ?_
            refine DG.end_ (by kernel_rfl) ?_
            refine WX.next ?_
            refine W.sub [(0, _), (2, _), (8, _)] (.cons rfl (.cons rfl (.cons rfl .nil))) ?_
            refine W.seq ?_
            refine W.seq ?_
            refine W.region ?_
            refine WL.loadW Try.isAgg36 Try.sizeOf36 rfl M (by first | ((repeat (first | with_reducible exact Has.here | with_reducible refine Has.there ?_)); done) | (repeat (first | exact Has.here | refine Has.there ?_))) rfl rfl ?_
            refine WL.call Try.call56 rfl (cPrint_ok ⟨f.op, NL, (NC : Int), (NR : Int)⟩ ⟨nl, ⟨by dsimp only; omega, by dsimp only; omega⟩, ⟨by dsimp only; omega, by dsimp only; omega⟩⟩ _) rfl ?_
            rintro _ w ⟨⟨C, cC, y⟩, rfl, m, hy⟩
            replace M := M.call1 m; clear m
            rw [f1] at hy ⊢
            rw [← hcm] at hy ⊢
            unfold OX.v
            unfold OX.O at M
            dsimp only at hy M ⊢
            refine WL.move rfl rfl ?_
            refine WL.extractL rfl rfl rfl ?_
            refine WL.extractL rfl rfl rfl ?_
            refine WL.assign rfl rfl ?_
            refine WL.assign rfl rfl ?_
            refine WL.nil ?_
            refine WX.next ?_
            refine W.sub [(0, _), (2, _), (8, _), (9, _), (10, _)] (.cons rfl (.cons rfl (.cons rfl (.cons rfl (.cons rfl .nil))))) ?_
            refine W.seq ?_
            refine W.region ?_
            refine WL.move rfl rfl ?_
            refine WL.neI rfl rfl rfl ?_
            refine WL.moveIf rfl rfl (fun c4 => ?_) (fun c4 => ?_)
            · refine WL.off rfl rfl rfl rfl ?_
              refine WL.off rfl rfl rfl rfl ?_
              refine WL.off rfl rfl rfl rfl ?_
              refine WL.off rfl rfl rfl rfl ?_
              refine WL.off rfl rfl rfl rfl ?_
              refine WL.pickT rfl rfl rfl ?_
              refine WL.nil ?_
              refine WX.next ?_
              refine W.sub [(2, _), (8, _), (73, _)] (.cons rfl (.cons rfl (.cons rfl .nil))) ?_
              refine W.condT rfl ?_
              refine W.seq ?_
              refine W.region ?_
              refine WL.buildP (places := #[(0, 1), (1, 1), (2, 1), (3, 1)]) Try.underlying36 Try.zeroValue36 (fun _ => by simp [Try.sizeOf3, Try.sizeOf22, Try.sizeOf3, Try.sizeOf3]) rfl (by repeat (first | exact Puts.nil | exact SetAt.zero | apply SetAt.succ | apply Puts.cons rfl rfl)) rfl ?_
              refine WL.storeWA Try.sizeOf36 rfl rfl (by repeat (first | exact oneNil | refine oneCons rfl ?_)) rfl rfl M (by first | ((repeat (first | with_reducible exact Upd.here | with_reducible apply Upd.there)); done) | (repeat (first | exact Upd.here | apply Upd.there))) ?_
              intro w M
              refine WL.assign rfl rfl ?_
              refine WL.nil ?_
              refine WX.next ?_
              refine W.sub [(2, _), (3, _)] (.cons rfl (.cons rfl .nil)) ?_
              refine W.ret ?_
              refine WX.thenRet ?_
              refine WX.retC2 (cs := [_, _, _, _]) rfl rfl rfl Try.isAgg36 (by exact Try.sizeOf36) (M.cellsH (by first | ((repeat (first | with_reducible exact Has.here | with_reducible refine Has.there ?_)); done) | (repeat (first | exact Has.here | refine Has.there ?_)))) ?_
              exact bad 191 _ _ M (by decide) (by rw [hE, if_pos]; first | exact .inl c4 | (right; rw [if_pos (Classical.not_not.1 c4)] at hy; rw [← hy]; exact c5))
            · refine WL.on rfl rfl ?_
              refine WL.move rfl rfl ?_
              refine WL.on rfl rfl ?_
              refine WL.toStr Try.underlying25 Try.underlying5 Try.underlying9 rfl (by first | first | with_reducible assumption | with_reducible exact RdB.mem (by with_reducible assumption) M | exact M.rdB (by first | ((repeat (first | with_reducible exact Has.here | with_reducible refine Has.there ?_)); done) | (repeat (first | exact Has.here | refine Has.there ?_))) | exact RdH.at (by assumption) (M.sel (by first | ((repeat (first | with_reducible exact Sel.refl | with_reducible exact Sel.nil | with_reducible exact Del.here | with_reducible apply Del.there | with_reducible apply Sel.cons | with_reducible apply Sel.drop)); done) | (repeat (first | exact Sel.refl | exact Sel.nil | exact Del.here | apply Del.there | apply Sel.cons | apply Sel.drop)))) | exact M.rdLit' (by first | ((repeat (first | with_reducible exact Has.here | with_reducible refine Has.there ?_)); done) | (repeat (first | exact Has.here | refine Has.there ?_))) | exact M.rdLent (by first | ((repeat (first | with_reducible exact Has.here | with_reducible refine Has.there ?_)); done) | (repeat (first | exact Has.here | refine Has.there ?_))) | exact RdB.nil _ _ | exact RdB.sub (by first | with_reducible assumption | with_reducible exact RdB.mem (by with_reducible assumption) M | exact M.rdB (by first | ((repeat (first | with_reducible exact Has.here | with_reducible refine Has.there ?_)); done) | (repeat (first | exact Has.here | refine Has.there ?_))) | exact RdH.at (by assumption) (M.sel (by first | ((repeat (first | with_reducible exact Sel.refl | with_reducible exact Sel.nil | with_reducible exact Del.here | with_reducible apply Del.there | with_reducible apply Sel.cons | with_reducible apply Sel.drop)); done) | (repeat (first | exact Sel.refl | exact Sel.nil | exact Del.here | apply Del.there | apply Sel.cons | apply Sel.drop)))) | exact M.rdLit' (by first | ((repeat (first | with_reducible exact Has.here | with_reducible refine Has.there ?_)); done) | (repeat (first | exact Has.here | refine Has.there ?_))) | exact M.rdLent (by first | ((repeat (first | with_reducible exact Has.here | with_reducible refine Has.there ?_)); done) | (repeat (first | exact Has.here | refine Has.there ?_))) | exact RdB.nil _ _) (by omega) (by omega) | exact RdB.pre' (by first | with_reducible assumption | with_reducible exact RdB.mem (by with_reducible assumption) M | exact M.rdB (by first | ((repeat (first | with_reducible exact Has.here | with_reducible refine Has.there ?_)); done) | (repeat (first | exact Has.here | refine Has.there ?_))) | exact RdH.at (by assumption) (M.sel (by first | ((repeat (first | with_reducible exact Sel.refl | with_reducible exact Sel.nil | with_reducible exact Del.here | with_reducible apply Del.there | with_reducible apply Sel.cons | with_reducible apply Sel.drop)); done) | (repeat (first | exact Sel.refl | exact Sel.nil | exact Del.here | apply Del.there | apply Sel.cons | apply Sel.drop)))) | exact M.rdLit' (by first | ((repeat (first | with_reducible exact Has.here | with_reducible refine Has.there ?_)); done) | (repeat (first | exact Has.here | refine Has.there ?_))) | exact M.rdLent (by first | ((repeat (first | with_reducible exact Has.here | with_reducible refine Has.there ?_)); done) | (repeat (first | exact Has.here | refine Has.there ?_))) | exact RdB.nil _ _) (by omega) | exact RdB.suf (by first | with_reducible assumption | with_reducible exact RdB.mem (by with_reducible assumption) M | exact M.rdB (by first | ((repeat (first | with_reducible exact Has.here | with_reducible refine Has.there ?_)); done) | (repeat (first | exact Has.here | refine Has.there ?_))) | exact RdH.at (by assumption) (M.sel (by first | ((repeat (first | with_reducible exact Sel.refl | with_reducible exact Sel.nil | with_reducible exact Del.here | with_reducible apply Del.there | with_reducible apply Sel.cons | with_reducible apply Sel.drop)); done) | (repeat (first | exact Sel.refl | exact Sel.nil | exact Del.here | apply Del.there | apply Sel.cons | apply Sel.drop)))) | exact M.rdLit' (by first | ((repeat (first | with_reducible exact Has.here | with_reducible refine Has.there ?_)); done) | (repeat (first | exact Has.here | refine Has.there ?_))) | exact M.rdLent (by first | ((repeat (first | with_reducible exact Has.here | with_reducible refine Has.there ?_)); done) | (repeat (first | exact Has.here | refine Has.there ?_))) | exact RdB.nil _ _) (by omega)) rfl rfl ?_
              refine WL.on rfl rfl ?_
              refine WL.move rfl rfl ?_
              refine WL.on rfl rfl ?_
              refine WL.toStr Try.underlying25 Try.underlying5 Try.underlying9 rfl (hR.mem M) rfl rfl ?_
              refine WL.on rfl rfl ?_
              refine WL.neS rfl rfl rfl ?_
              refine WL.pickF rfl rfl rfl ?_
              refine WL.nil ?_
              refine WX.next ?_
              refine W.sub [(2, _), (8, _), (73, _)] (.cons rfl (.cons rfl (.cons rfl .nil))) ?_
              refine W.ite rfl (fun c5 => ?_) (fun c5 => ?_)
              · refine W.seq ?_
                refine W.region ?_
                refine WL.buildP (places := #[(0, 1), (1, 1), (2, 1), (3, 1)]) Try.underlying36 Try.zeroValue36 (fun _ => by simp [Try.sizeOf3, Try.sizeOf22, Try.sizeOf3, Try.sizeOf3]) rfl (by repeat (first | exact Puts.nil | exact SetAt.zero | apply SetAt.succ | apply Puts.cons rfl rfl)) rfl ?_
                refine WL.storeWA Try.sizeOf36 rfl rfl (by repeat (first | exact oneNil | refine oneCons rfl ?_)) rfl rfl M (by first | ((repeat (first | with_reducible exact Upd.here | with_reducible apply Upd.there)); done) | (repeat (first | exact Upd.here | apply Upd.there))) ?_
                intro w M
                refine WL.assign rfl rfl ?_
                refine WL.nil ?_
                refine WX.next ?_
                refine W.sub [(2, _), (3, _)] (.cons rfl (.cons rfl .nil)) ?_
                refine W.ret ?_
                refine WX.thenRet ?_
                refine WX.retC2 (cs := [_, _, _, _]) rfl rfl rfl Try.isAgg36 (by exact Try.sizeOf36) (M.cellsH (by first | ((repeat (first | with_reducible exact Has.here | with_reducible refine Has.there ?_)); done) | (repeat (first | exact Has.here | refine Has.there ?_)))) ?_
                exact bad 191 _ _ M (by decide) (by rw [hE, if_pos]; first | exact .inl c4 | (right; rw [if_pos (Classical.not_not.1 c4)] at hy; rw [← hy]; exact c5))
              · refine W.skip ?_
                refine WX.next ?_
                refine W.seq ?_
                refine W.region ?_
                refine WL.loadW Try.isAgg36 Try.sizeOf36 rfl M (by first | ((repeat (first | with_reducible exact Has.here | with_reducible refine Has.there ?_)); done) | (repeat (first | exact Has.here | refine Has.there ?_))) rfl rfl ?_
                refine WL.storeWA Try.sizeOf36 rfl rfl (by repeat (first | exact oneNil | refine oneCons rfl ?_)) rfl rfl M (by first | ((repeat (first | with_reducible exact Upd.here | with_reducible apply Upd.there)); done) | (repeat (first | exact Upd.here | apply Upd.there))) ?_
                intro w M
                refine WL.assign rfl rfl ?_
                refine WL.nil ?_
                refine WX.next ?_
                refine W.sub [(2, _), (3, _)] (.cons rfl (.cons rfl .nil)) ?_
                refine W.ret ?_
                refine WX.retC2 (cs := [_, _, _, _]) rfl rfl rfl Try.isAgg36 (by exact Try.sizeOf36) (M.cellsH (by first | ((repeat (first | with_reducible exact Has.here | with_reducible refine Has.there ?_)); done) | (repeat (first | exact Has.here | refine Has.there ?_)))) ?_
                have e1 : chkC (cmdOf B) = 0 := Classical.not_not.1 c4
                rw [if_pos e1] at hy
                have e2 : prsE b = 0 := by
                  rw [hE, if_neg]
                  rintro (e | e)
                  · exact e e1
                  · exact e (by rw [← hy]; exact Classical.not_not.1 c5)
                exact ⟨by rw [e2, hC e2, hcm, f1]; rfl, M.sel (by first | ((repeat (first | with_reducible exact Sel.refl | with_reducible exact Sel.nil | with_reducible exact Del.here | with_reducible apply Del.there | with_reducible apply Sel.cons | with_reducible apply Sel.drop)); done) | (repeat (first | exact Sel.refl | exact Sel.nil | exact Del.here | apply Del.there | apply Sel.cons | apply Sel.drop)))⟩
end Go.Proofs.Ytinbcidgdbmcjaa
