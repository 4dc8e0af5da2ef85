/-
  Walk: Get (pdu).
-/
import Derived.Test.YtinbcidgdbmcjaaPdu2
namespace Go.Proofs.Ytinbcidgdbmcjaa
open Go Go.RowKit Bin

set_option maxRecDepth 10000 in
theorem and64 (x : UInt8) : bits .and .u8 (x.toNat : Int) 64 = ((64 * (x.toNat / 64 % 2) : Nat) : Int) := by
  have hx := UInt8.toNat_lt x
  rw [show (64 : Int) = ((64 : Nat) : Int) from rfl, andU8 _ _ hx (by omega)]
  have h : ∀ k : Fin 256, k.val &&& 64 = 64 * (k.val / 64 % 2) := by decide
  rw [h ⟨x.toNat, hx⟩]
set_option maxRecDepth 10000 in
theorem andNot64 (x : UInt8) : bits .andNot .u8 (x.toNat : Int) 64 = if x.toNat / 64 % 2 = 1 then (x.toNat : Int) - 64 else (x.toNat : Int) := by
  have hx := UInt8.toNat_lt x
  rw [show (64 : Int) = ((64 : Nat) : Int) from rfl, u8_andNot_nat _ _ hx (by omega)]
  have h : ∀ k : Fin 256, k.val &&& (255 - 64) = if k.val / 64 % 2 = 1 then k.val - 64 else k.val := by decide
  rw [h ⟨x.toNat, hx⟩]
  dsimp only
  split <;> omega
theorem lun_or (a b : Nat) (ha : a < 4294967296) (hb : b < 4294967296) : bits .or .u64 ((a : Int) * 4294967296) (b : Int) = ((a * 4294967296 + b : Nat) : Int) := by
  have h := or64 a b 32 (by omega) (by omega)
  rw [show (2 : Nat) ^ 32 = 4294967296 from rfl] at h
  rw [← h]
  congr 1
def wsk (b : List UInt8) (k : Nat) : Nat → Nat := fun j => if j < k then wd b (20 + 4 * j) else 0
theorem ws_set {op : Int} {now : Bool} {flags : UInt8} {lun tag : Nat} {ws ws' : Nat → Nat} {x : OX} {i : Nat} (hi : i < 7) {v : Nat} (hv : ws' i = v) (ho : ∀ j, j ≠ i → ws' j = ws j) :
    SetAt (.int .u32 (v : Int)) (PdX.cells ⟨op, now, flags, lun, tag, ws, x⟩) (5 + i * 1) (PdX.cells ⟨op, now, flags, lun, tag, ws', x⟩) := by
  subst hv
  unfold PdX.cells
  dsimp only
  match i, hi with
  | 0, _ => rw [ho 1 (by decide), ho 2 (by decide), ho 3 (by decide), ho 4 (by decide), ho 5 (by decide), ho 6 (by decide)]; exact .succ (.succ (.succ (.succ (.succ .zero))))
  | 1, _ => rw [ho 0 (by decide), ho 2 (by decide), ho 3 (by decide), ho 4 (by decide), ho 5 (by decide), ho 6 (by decide)]; exact .succ (.succ (.succ (.succ (.succ (.succ .zero)))))
  | 2, _ => rw [ho 0 (by decide), ho 1 (by decide), ho 3 (by decide), ho 4 (by decide), ho 5 (by decide), ho 6 (by decide)]; exact .succ (.succ (.succ (.succ (.succ (.succ (.succ .zero))))))
  | 3, _ => rw [ho 0 (by decide), ho 1 (by decide), ho 2 (by decide), ho 4 (by decide), ho 5 (by decide), ho 6 (by decide)]; exact .succ (.succ (.succ (.succ (.succ (.succ (.succ (.succ .zero)))))))
  | 4, _ => rw [ho 0 (by decide), ho 1 (by decide), ho 2 (by decide), ho 3 (by decide), ho 5 (by decide), ho 6 (by decide)]; exact .succ (.succ (.succ (.succ (.succ (.succ (.succ (.succ (.succ .zero))))))))
  | 5, _ => rw [ho 0 (by decide), ho 1 (by decide), ho 2 (by decide), ho 3 (by decide), ho 4 (by decide), ho 6 (by decide)]; exact .succ (.succ (.succ (.succ (.succ (.succ (.succ (.succ (.succ (.succ .zero)))))))))
  | 6, _ => rw [ho 0 (by decide), ho 1 (by decide), ho 2 (by decide), ho 3 (by decide), ho 4 (by decide), ho 5 (by decide)]; exact .succ (.succ (.succ (.succ (.succ (.succ (.succ (.succ (.succ (.succ (.succ .zero))))))))))
theorem chkM_cases (op : Int) (now : Bool) : chkM op now 0 = 190 ∨ chkM op now 0 = 11 ∨ chkM op now 0 = 0 := by
  unfold chkM
  split
  · exact .inl rfl
  · split
    · exact .inr (.inl rfl)
    · rw [if_neg (by omega)]
      exact .inr (.inr rfl)
theorem u8_zero {x : UInt8} (h : x.toNat = 0) : x = 0 := UInt8.toNat_inj.1 (by simpa using h)
def zeroM : MX := ⟨0, false, 0, 0, 0, fun _ => 0, []⟩
def zeroP : PdX := ⟨0, false, 0, 0, 0, fun _ => 0, ⟨none, 0, []⟩⟩

set_option maxRecDepth 10000 in
set_option maxHeartbeats 4000000 in
theorem Get_ok {A : Option Addr} {cap : Nat} {b : List UInt8} (hl : b.length ≤ 1000000) {w0 : World} (h : RdB w0 A cap b) :
    Fn Try.prog 21 [.slice A b.length cap] w0 fun v w' => ∃ p : PdX, v = .tuple #[p.v, .int .i64 (if getE b = 0 then (endM b : Int) else 0), .int .i64 (getE b)] ∧ Mem w0 w' [p.O] ∧ (getE b = 0 → p.m = hdM b) ∧ (getE b ≠ 0 → p.m = zeroM) := by
  have M := Mem.refl w0
  obtain ⟨w, hw⟩ : ∃ w, w = w0 := ⟨w0, rfl⟩
  have bad : ∀ (e : Int) (w : World) (L : List Asr), Mem w0 w L → e ≠ 0 → getE b = e → ∃ p : PdX, Value.tuple #[zeroP.v, .int .i64 0, .int .i64 e] = .tuple #[p.v, .int .i64 (if getE b = 0 then (endM b : Int) else 0), .int .i64 (getE b)] ∧ Mem w0 w [p.O] ∧ (getE b = 0 → p.m = hdM b) ∧ (getE b ≠ 0 → p.m = zeroM) := by
    intro e w L M he hg
    refine ⟨zeroP, by rw [hg, if_neg he], (M.sel (.nil)).nilOwn 5 1, fun h0 => absurd (hg.symm.trans h0) he, fun _ => rfl⟩
  have q0 := UInt8.toNat_lt (el b 0)
  have v4 := wd_lt b 4
  have v8 := wd_lt b 8
  have v12 := wd_lt b 12
  have hcap : b.length ≤ cap := Rd.le h
  have hpd : padN (wd b 4) ≤ 3 := by unfold padN; omega
  refine Fn.enter Try.func21 rfl Try.ntmps21 rfl ?_
  refine W.sub [(0, _)] (.cons rfl .nil) ?_
  refine W.seq ?_
  refine W.region ?_
  refine WL.alloc Try.zeroValue27 M rfl ?_
  intro g0_0 w M
  try simp only [Value.cells] at M
  try simp only [List.toList_toArray] at M
  refine WL.assign rfl rfl ?_
  refine WL.assign rfl rfl ?_
  refine WL.nil ?_
  refine WX.next ?_
  refine W.sub [(0, _), (2, _)] (.cons rfl (.cons rfl .nil)) ?_
  refine W.seq ?_
  refine W.seq ?_
  refine W.region ?_
  refine WL.move rfl rfl ?_
  refine WL.len Try.underlying25 rfl rfl ?_
  refine WL.lss rfl rfl rfl ?_
  refine WL.nil ?_
  refine WX.next ?_
  refine W.sub [(0, _), (2, _), (14, _)] (.cons rfl (.cons rfl (.cons rfl .nil))) ?_
  refine W.ite rfl (fun c0 => ?_) (fun c0 => ?_)
  · refine W.seq ?_
    refine W.region ?_
    refine WL.buildP (places := #[(0, 1), (1, 1), (2, 1), (3, 1), (4, 1), (5, 7), (12, 1)]) Try.underlying27 Try.zeroValue27 (fun _ => by simp [Try.sizeOf3, Try.sizeOf4, Try.sizeOf5, Try.sizeOf22, Try.sizeOf23, Try.sizeOf24, Try.sizeOf25]) rfl (by repeat (first | exact Puts.nil | exact SetAt.zero | apply SetAt.succ | apply Puts.cons rfl rfl)) rfl ?_
    refine WL.storeWA Try.sizeOf27 rfl rfl (by repeat (first | exact oneNil | refine oneCons rfl ?_)) rfl rfl M (by first | ((repeat (first | with_reducible exact Upd.here | with_reducible apply Upd.there)); done) | (repeat (first | exact Upd.here | apply Upd.there))) ?_
    intro w M
    refine WL.assign rfl rfl ?_
    refine WL.assign rfl rfl ?_
    refine WL.nil ?_
    refine WX.next ?_
    refine W.sub [(2, _), (3, _), (4, _)] (.cons rfl (.cons rfl (.cons rfl .nil))) ?_
    refine W.ret ?_
    refine WX.thenRet ?_
    refine WX.retC3 (cs := [_, _, _, _, _, _, _, _, _, _, _, _, _]) rfl rfl rfl rfl Try.isAgg27 (by exact Try.sizeOf27) (M.cellsH (by first | ((repeat (first | with_reducible exact Has.here | with_reducible refine Has.there ?_)); done) | (repeat (first | exact Has.here | refine Has.there ?_)))) ?_
    exact bad 10 _ _ M (by decide) (by unfold getE; rw [if_pos (by omega)])
  · refine W.skip ?_
    refine WX.next ?_
    refine W.joint (fun (g : Nat) => [(0, .slice A b.length cap), (2, .pointer (some ⟨g0_0, 0, none⟩)), (5, .pointer (some ⟨g, 0, none⟩))]) (fun j w => Mem w0 w ((fun g => [Asr.row g 27 (PdX.cells ⟨(hdM b).op, (hdM b).now, el b 1, wd b 8 * 4294967296 + wd b 12, wd b 16, wsk b 0, ⟨none, 0, []⟩⟩), Asr.row g0_0 27 zeroP.cells]) j) ∧ (fun _ => True) j) ?_ ?_
    · refine W.drawM ([]) (by kernel_rfl) (fun j => [2, 3, 4, 7, 8, 9, 12, 14, 15, 16, 18, 19, 20, 22, 24].contains j) M (by first | ((repeat (first | with_reducible exact Sel.refl | with_reducible exact Sel.nil | with_reducible exact Del.here | with_reducible apply Del.there | with_reducible apply Sel.cons | with_reducible apply Sel.drop)); done) | (repeat (first | exact Sel.refl | exact Sel.nil | exact Del.here | apply Del.there | apply Sel.cons | apply Sel.drop))) ?_
      clear M; intro M
      apply DG.pure_ [0, 1, 5, 6, 10, 11, 13, 17, 21] 17 rfl (by kernel_rfl) (by kernel_rfl)
      · intro w
        refine WL.move rfl rfl ?_
        refine WL.idxA (jn := 0) Try.underlying25 Try.sizeOf5 rfl rfl (RdB.isSome (by first | first | with_reducible assumption | with_reducible exact RdB.mem (by with_reducible assumption) M | exact M.rdB (by first | ((repeat (first | with_reducible exact Has.here | with_reducible refine Has.there ?_)); done) | (repeat (first | exact Has.here | refine Has.there ?_))) | exact RdH.at (by assumption) (M.sel (by first | ((repeat (first | with_reducible exact Sel.refl | with_reducible exact Sel.nil | with_reducible exact Del.here | with_reducible apply Del.there | with_reducible apply Sel.cons | with_reducible apply Sel.drop)); done) | (repeat (first | exact Sel.refl | exact Sel.nil | exact Del.here | apply Del.there | apply Sel.cons | apply Sel.drop)))) | exact M.rdLit' (by first | ((repeat (first | with_reducible exact Has.here | with_reducible refine Has.there ?_)); done) | (repeat (first | exact Has.here | refine Has.there ?_))) | exact M.rdLent (by first | ((repeat (first | with_reducible exact Has.here | with_reducible refine Has.there ?_)); done) | (repeat (first | exact Has.here | refine Has.there ?_))) | exact RdB.nil _ _ | exact RdB.sub (by first | with_reducible assumption | with_reducible exact RdB.mem (by with_reducible assumption) M | exact M.rdB (by first | ((repeat (first | with_reducible exact Has.here | with_reducible refine Has.there ?_)); done) | (repeat (first | exact Has.here | refine Has.there ?_))) | exact RdH.at (by assumption) (M.sel (by first | ((repeat (first | with_reducible exact Sel.refl | with_reducible exact Sel.nil | with_reducible exact Del.here | with_reducible apply Del.there | with_reducible apply Sel.cons | with_reducible apply Sel.drop)); done) | (repeat (first | exact Sel.refl | exact Sel.nil | exact Del.here | apply Del.there | apply Sel.cons | apply Sel.drop)))) | exact M.rdLit' (by first | ((repeat (first | with_reducible exact Has.here | with_reducible refine Has.there ?_)); done) | (repeat (first | exact Has.here | refine Has.there ?_))) | exact M.rdLent (by first | ((repeat (first | with_reducible exact Has.here | with_reducible refine Has.there ?_)); done) | (repeat (first | exact Has.here | refine Has.there ?_))) | exact RdB.nil _ _) (by omega) (by omega) | exact RdB.pre' (by first | with_reducible assumption | with_reducible exact RdB.mem (by with_reducible assumption) M | exact M.rdB (by first | ((repeat (first | with_reducible exact Has.here | with_reducible refine Has.there ?_)); done) | (repeat (first | exact Has.here | refine Has.there ?_))) | exact RdH.at (by assumption) (M.sel (by first | ((repeat (first | with_reducible exact Sel.refl | with_reducible exact Sel.nil | with_reducible exact Del.here | with_reducible apply Del.there | with_reducible apply Sel.cons | with_reducible apply Sel.drop)); done) | (repeat (first | exact Sel.refl | exact Sel.nil | exact Del.here | apply Del.there | apply Sel.cons | apply Sel.drop)))) | exact M.rdLit' (by first | ((repeat (first | with_reducible exact Has.here | with_reducible refine Has.there ?_)); done) | (repeat (first | exact Has.here | refine Has.there ?_))) | exact M.rdLent (by first | ((repeat (first | with_reducible exact Has.here | with_reducible refine Has.there ?_)); done) | (repeat (first | exact Has.here | refine Has.there ?_))) | exact RdB.nil _ _) (by omega) | exact RdB.suf (by first | with_reducible assumption | with_reducible exact RdB.mem (by with_reducible assumption) M | exact M.rdB (by first | ((repeat (first | with_reducible exact Has.here | with_reducible refine Has.there ?_)); done) | (repeat (first | exact Has.here | refine Has.there ?_))) | exact RdH.at (by assumption) (M.sel (by first | ((repeat (first | with_reducible exact Sel.refl | with_reducible exact Sel.nil | with_reducible exact Del.here | with_reducible apply Del.there | with_reducible apply Sel.cons | with_reducible apply Sel.drop)); done) | (repeat (first | exact Sel.refl | exact Sel.nil | exact Del.here | apply Del.there | apply Sel.cons | apply Sel.drop)))) | exact M.rdLit' (by first | ((repeat (first | with_reducible exact Has.here | with_reducible refine Has.there ?_)); done) | (repeat (first | exact Has.here | refine Has.there ?_))) | exact M.rdLent (by first | ((repeat (first | with_reducible exact Has.here | with_reducible refine Has.there ?_)); done) | (repeat (first | exact Has.here | refine Has.there ?_))) | exact RdB.nil _ _) (by omega)) (by omega)) (by omega) (by omega) (by first | exact rfl | exact (Int.toNat_of_nonneg (by omega)).symm) rfl ?_
        refine WL.move rfl rfl ?_
        refine WL.idxA (jn := 0) Try.underlying25 Try.sizeOf5 rfl rfl (RdB.isSome (by first | first | with_reducible assumption | with_reducible exact RdB.mem (by with_reducible assumption) M | exact M.rdB (by first | ((repeat (first | with_reducible exact Has.here | with_reducible refine Has.there ?_)); done) | (repeat (first | exact Has.here | refine Has.there ?_))) | exact RdH.at (by assumption) (M.sel (by first | ((repeat (first | with_reducible exact Sel.refl | with_reducible exact Sel.nil | with_reducible exact Del.here | with_reducible apply Del.there | with_reducible apply Sel.cons | with_reducible apply Sel.drop)); done) | (repeat (first | exact Sel.refl | exact Sel.nil | exact Del.here | apply Del.there | apply Sel.cons | apply Sel.drop)))) | exact M.rdLit' (by first | ((repeat (first | with_reducible exact Has.here | with_reducible refine Has.there ?_)); done) | (repeat (first | exact Has.here | refine Has.there ?_))) | exact M.rdLent (by first | ((repeat (first | with_reducible exact Has.here | with_reducible refine Has.there ?_)); done) | (repeat (first | exact Has.here | refine Has.there ?_))) | exact RdB.nil _ _ | exact RdB.sub (by first | with_reducible assumption | with_reducible exact RdB.mem (by with_reducible assumption) M | exact M.rdB (by first | ((repeat (first | with_reducible exact Has.here | with_reducible refine Has.there ?_)); done) | (repeat (first | exact Has.here | refine Has.there ?_))) | exact RdH.at (by assumption) (M.sel (by first | ((repeat (first | with_reducible exact Sel.refl | with_reducible exact Sel.nil | with_reducible exact Del.here | with_reducible apply Del.there | with_reducible apply Sel.cons | with_reducible apply Sel.drop)); done) | (repeat (first | exact Sel.refl | exact Sel.nil | exact Del.here | apply Del.there | apply Sel.cons | apply Sel.drop)))) | exact M.rdLit' (by first | ((repeat (first | with_reducible exact Has.here | with_reducible refine Has.there ?_)); done) | (repeat (first | exact Has.here | refine Has.there ?_))) | exact M.rdLent (by first | ((repeat (first | with_reducible exact Has.here | with_reducible refine Has.there ?_)); done) | (repeat (first | exact Has.here | refine Has.there ?_))) | exact RdB.nil _ _) (by omega) (by omega) | exact RdB.pre' (by first | with_reducible assumption | with_reducible exact RdB.mem (by with_reducible assumption) M | exact M.rdB (by first | ((repeat (first | with_reducible exact Has.here | with_reducible refine Has.there ?_)); done) | (repeat (first | exact Has.here | refine Has.there ?_))) | exact RdH.at (by assumption) (M.sel (by first | ((repeat (first | with_reducible exact Sel.refl | with_reducible exact Sel.nil | with_reducible exact Del.here | with_reducible apply Del.there | with_reducible apply Sel.cons | with_reducible apply Sel.drop)); done) | (repeat (first | exact Sel.refl | exact Sel.nil | exact Del.here | apply Del.there | apply Sel.cons | apply Sel.drop)))) | exact M.rdLit' (by first | ((repeat (first | with_reducible exact Has.here | with_reducible refine Has.there ?_)); done) | (repeat (first | exact Has.here | refine Has.there ?_))) | exact M.rdLent (by first | ((repeat (first | with_reducible exact Has.here | with_reducible refine Has.there ?_)); done) | (repeat (first | exact Has.here | refine Has.there ?_))) | exact RdB.nil _ _) (by omega) | exact RdB.suf (by first | with_reducible assumption | with_reducible exact RdB.mem (by with_reducible assumption) M | exact M.rdB (by first | ((repeat (first | with_reducible exact Has.here | with_reducible refine Has.there ?_)); done) | (repeat (first | exact Has.here | refine Has.there ?_))) | exact RdH.at (by assumption) (M.sel (by first | ((repeat (first | with_reducible exact Sel.refl | with_reducible exact Sel.nil | with_reducible exact Del.here | with_reducible apply Del.there | with_reducible apply Sel.cons | with_reducible apply Sel.drop)); done) | (repeat (first | exact Sel.refl | exact Sel.nil | exact Del.here | apply Del.there | apply Sel.cons | apply Sel.drop)))) | exact M.rdLit' (by first | ((repeat (first | with_reducible exact Has.here | with_reducible refine Has.there ?_)); done) | (repeat (first | exact Has.here | refine Has.there ?_))) | exact M.rdLent (by first | ((repeat (first | with_reducible exact Has.here | with_reducible refine Has.there ?_)); done) | (repeat (first | exact Has.here | refine Has.there ?_))) | exact RdB.nil _ _) (by omega)) (by omega)) (by omega) (by omega) (by first | exact rfl | exact (Int.toNat_of_nonneg (by omega)).symm) rfl ?_
        refine WL.move rfl rfl ?_
        refine WL.idxA (jn := 1) Try.underlying25 Try.sizeOf5 rfl rfl (RdB.isSome (by first | first | with_reducible assumption | with_reducible exact RdB.mem (by with_reducible assumption) M | exact M.rdB (by first | ((repeat (first | with_reducible exact Has.here | with_reducible refine Has.there ?_)); done) | (repeat (first | exact Has.here | refine Has.there ?_))) | exact RdH.at (by assumption) (M.sel (by first | ((repeat (first | with_reducible exact Sel.refl | with_reducible exact Sel.nil | with_reducible exact Del.here | with_reducible apply Del.there | with_reducible apply Sel.cons | with_reducible apply Sel.drop)); done) | (repeat (first | exact Sel.refl | exact Sel.nil | exact Del.here | apply Del.there | apply Sel.cons | apply Sel.drop)))) | exact M.rdLit' (by first | ((repeat (first | with_reducible exact Has.here | with_reducible refine Has.there ?_)); done) | (repeat (first | exact Has.here | refine Has.there ?_))) | exact M.rdLent (by first | ((repeat (first | with_reducible exact Has.here | with_reducible refine Has.there ?_)); done) | (repeat (first | exact Has.here | refine Has.there ?_))) | exact RdB.nil _ _ | exact RdB.sub (by first | with_reducible assumption | with_reducible exact RdB.mem (by with_reducible assumption) M | exact M.rdB (by first | ((repeat (first | with_reducible exact Has.here | with_reducible refine Has.there ?_)); done) | (repeat (first | exact Has.here | refine Has.there ?_))) | exact RdH.at (by assumption) (M.sel (by first | ((repeat (first | with_reducible exact Sel.refl | with_reducible exact Sel.nil | with_reducible exact Del.here | with_reducible apply Del.there | with_reducible apply Sel.cons | with_reducible apply Sel.drop)); done) | (repeat (first | exact Sel.refl | exact Sel.nil | exact Del.here | apply Del.there | apply Sel.cons | apply Sel.drop)))) | exact M.rdLit' (by first | ((repeat (first | with_reducible exact Has.here | with_reducible refine Has.there ?_)); done) | (repeat (first | exact Has.here | refine Has.there ?_))) | exact M.rdLent (by first | ((repeat (first | with_reducible exact Has.here | with_reducible refine Has.there ?_)); done) | (repeat (first | exact Has.here | refine Has.there ?_))) | exact RdB.nil _ _) (by omega) (by omega) | exact RdB.pre' (by first | with_reducible assumption | with_reducible exact RdB.mem (by with_reducible assumption) M | exact M.rdB (by first | ((repeat (first | with_reducible exact Has.here | with_reducible refine Has.there ?_)); done) | (repeat (first | exact Has.here | refine Has.there ?_))) | exact RdH.at (by assumption) (M.sel (by first | ((repeat (first | with_reducible exact Sel.refl | with_reducible exact Sel.nil | with_reducible exact Del.here | with_reducible apply Del.there | with_reducible apply Sel.cons | with_reducible apply Sel.drop)); done) | (repeat (first | exact Sel.refl | exact Sel.nil | exact Del.here | apply Del.there | apply Sel.cons | apply Sel.drop)))) | exact M.rdLit' (by first | ((repeat (first | with_reducible exact Has.here | with_reducible refine Has.there ?_)); done) | (repeat (first | exact Has.here | refine Has.there ?_))) | exact M.rdLent (by first | ((repeat (first | with_reducible exact Has.here | with_reducible refine Has.there ?_)); done) | (repeat (first | exact Has.here | refine Has.there ?_))) | exact RdB.nil _ _) (by omega) | exact RdB.suf (by first | with_reducible assumption | with_reducible exact RdB.mem (by with_reducible assumption) M | exact M.rdB (by first | ((repeat (first | with_reducible exact Has.here | with_reducible refine Has.there ?_)); done) | (repeat (first | exact Has.here | refine Has.there ?_))) | exact RdH.at (by assumption) (M.sel (by first | ((repeat (first | with_reducible exact Sel.refl | with_reducible exact Sel.nil | with_reducible exact Del.here | with_reducible apply Del.there | with_reducible apply Sel.cons | with_reducible apply Sel.drop)); done) | (repeat (first | exact Sel.refl | exact Sel.nil | exact Del.here | apply Del.there | apply Sel.cons | apply Sel.drop)))) | exact M.rdLit' (by first | ((repeat (first | with_reducible exact Has.here | with_reducible refine Has.there ?_)); done) | (repeat (first | exact Has.here | refine Has.there ?_))) | exact M.rdLent (by first | ((repeat (first | with_reducible exact Has.here | with_reducible refine Has.there ?_)); done) | (repeat (first | exact Has.here | refine Has.there ?_))) | exact RdB.nil _ _) (by omega)) (by omega)) (by omega) (by omega) (by first | exact rfl | exact (Int.toNat_of_nonneg (by omega)).symm) rfl ?_
        refine WL.move rfl rfl ?_
        refine WL.move rfl rfl ?_
        refine WL.move rfl rfl ?_
        exact Chain.end_ rfl
      apply DG.take [2, 3, 4, 7, 8, 9, 12] 10 rfl (by kernel_rfl) (by kernel_rfl) (M.sel (by first | ((repeat (first | with_reducible exact Sel.refl | with_reducible exact Sel.nil | with_reducible exact Del.here | with_reducible apply Del.there | with_reducible apply Sel.cons | with_reducible apply Sel.drop)); done) | (repeat (first | exact Sel.refl | exact Sel.nil | exact Del.here | apply Del.there | apply Sel.cons | apply Sel.drop))))
      · intro w M
        refine WL.loadB Try.isAgg5 rfl (by first | first | with_reducible assumption | with_reducible exact RdB.mem (by with_reducible assumption) M | exact M.rdB (by first | ((repeat (first | with_reducible exact Has.here | with_reducible refine Has.there ?_)); done) | (repeat (first | exact Has.here | refine Has.there ?_))) | exact RdH.at (by assumption) (M.sel (by first | ((repeat (first | with_reducible exact Sel.refl | with_reducible exact Sel.nil | with_reducible exact Del.here | with_reducible apply Del.there | with_reducible apply Sel.cons | with_reducible apply Sel.drop)); done) | (repeat (first | exact Sel.refl | exact Sel.nil | exact Del.here | apply Del.there | apply Sel.cons | apply Sel.drop)))) | exact M.rdLit' (by first | ((repeat (first | with_reducible exact Has.here | with_reducible refine Has.there ?_)); done) | (repeat (first | exact Has.here | refine Has.there ?_))) | exact M.rdLent (by first | ((repeat (first | with_reducible exact Has.here | with_reducible refine Has.there ?_)); done) | (repeat (first | exact Has.here | refine Has.there ?_))) | exact RdB.nil _ _ | exact RdB.sub (by first | with_reducible assumption | with_reducible exact RdB.mem (by with_reducible assumption) M | exact M.rdB (by first | ((repeat (first | with_reducible exact Has.here | with_reducible refine Has.there ?_)); done) | (repeat (first | exact Has.here | refine Has.there ?_))) | exact RdH.at (by assumption) (M.sel (by first | ((repeat (first | with_reducible exact Sel.refl | with_reducible exact Sel.nil | with_reducible exact Del.here | with_reducible apply Del.there | with_reducible apply Sel.cons | with_reducible apply Sel.drop)); done) | (repeat (first | exact Sel.refl | exact Sel.nil | exact Del.here | apply Del.there | apply Sel.cons | apply Sel.drop)))) | exact M.rdLit' (by first | ((repeat (first | with_reducible exact Has.here | with_reducible refine Has.there ?_)); done) | (repeat (first | exact Has.here | refine Has.there ?_))) | exact M.rdLent (by first | ((repeat (first | with_reducible exact Has.here | with_reducible refine Has.there ?_)); done) | (repeat (first | exact Has.here | refine Has.there ?_))) | exact RdB.nil _ _) (by omega) (by omega) | exact RdB.pre' (by first | with_reducible assumption | with_reducible exact RdB.mem (by with_reducible assumption) M | exact M.rdB (by first | ((repeat (first | with_reducible exact Has.here | with_reducible refine Has.there ?_)); done) | (repeat (first | exact Has.here | refine Has.there ?_))) | exact RdH.at (by assumption) (M.sel (by first | ((repeat (first | with_reducible exact Sel.refl | with_reducible exact Sel.nil | with_reducible exact Del.here | with_reducible apply Del.there | with_reducible apply Sel.cons | with_reducible apply Sel.drop)); done) | (repeat (first | exact Sel.refl | exact Sel.nil | exact Del.here | apply Del.there | apply Sel.cons | apply Sel.drop)))) | exact M.rdLit' (by first | ((repeat (first | with_reducible exact Has.here | with_reducible refine Has.there ?_)); done) | (repeat (first | exact Has.here | refine Has.there ?_))) | exact M.rdLent (by first | ((repeat (first | with_reducible exact Has.here | with_reducible refine Has.there ?_)); done) | (repeat (first | exact Has.here | refine Has.there ?_))) | exact RdB.nil _ _) (by omega) | exact RdB.suf (by first | with_reducible assumption | with_reducible exact RdB.mem (by with_reducible assumption) M | exact M.rdB (by first | ((repeat (first | with_reducible exact Has.here | with_reducible refine Has.there ?_)); done) | (repeat (first | exact Has.here | refine Has.there ?_))) | exact RdH.at (by assumption) (M.sel (by first | ((repeat (first | with_reducible exact Sel.refl | with_reducible exact Sel.nil | with_reducible exact Del.here | with_reducible apply Del.there | with_reducible apply Sel.cons | with_reducible apply Sel.drop)); done) | (repeat (first | exact Sel.refl | exact Sel.nil | exact Del.here | apply Del.there | apply Sel.cons | apply Sel.drop)))) | exact M.rdLit' (by first | ((repeat (first | with_reducible exact Has.here | with_reducible refine Has.there ?_)); done) | (repeat (first | exact Has.here | refine Has.there ?_))) | exact M.rdLent (by first | ((repeat (first | with_reducible exact Has.here | with_reducible refine Has.there ?_)); done) | (repeat (first | exact Has.here | refine Has.there ?_))) | exact RdB.nil _ _) (by omega)) (by omega) rfl ?_
        refine WL.bandNot rfl rfl (andNot64 (el b 0)) rfl ?_
        refine WL.conv Try.underlying5 Try.underlying3 rfl (wI64 (by split <;> omega)) rfl ?_
        refine WL.loadB Try.isAgg5 rfl (by first | first | with_reducible assumption | with_reducible exact RdB.mem (by with_reducible assumption) M | exact M.rdB (by first | ((repeat (first | with_reducible exact Has.here | with_reducible refine Has.there ?_)); done) | (repeat (first | exact Has.here | refine Has.there ?_))) | exact RdH.at (by assumption) (M.sel (by first | ((repeat (first | with_reducible exact Sel.refl | with_reducible exact Sel.nil | with_reducible exact Del.here | with_reducible apply Del.there | with_reducible apply Sel.cons | with_reducible apply Sel.drop)); done) | (repeat (first | exact Sel.refl | exact Sel.nil | exact Del.here | apply Del.there | apply Sel.cons | apply Sel.drop)))) | exact M.rdLit' (by first | ((repeat (first | with_reducible exact Has.here | with_reducible refine Has.there ?_)); done) | (repeat (first | exact Has.here | refine Has.there ?_))) | exact M.rdLent (by first | ((repeat (first | with_reducible exact Has.here | with_reducible refine Has.there ?_)); done) | (repeat (first | exact Has.here | refine Has.there ?_))) | exact RdB.nil _ _ | exact RdB.sub (by first | with_reducible assumption | with_reducible exact RdB.mem (by with_reducible assumption) M | exact M.rdB (by first | ((repeat (first | with_reducible exact Has.here | with_reducible refine Has.there ?_)); done) | (repeat (first | exact Has.here | refine Has.there ?_))) | exact RdH.at (by assumption) (M.sel (by first | ((repeat (first | with_reducible exact Sel.refl | with_reducible exact Sel.nil | with_reducible exact Del.here | with_reducible apply Del.there | with_reducible apply Sel.cons | with_reducible apply Sel.drop)); done) | (repeat (first | exact Sel.refl | exact Sel.nil | exact Del.here | apply Del.there | apply Sel.cons | apply Sel.drop)))) | exact M.rdLit' (by first | ((repeat (first | with_reducible exact Has.here | with_reducible refine Has.there ?_)); done) | (repeat (first | exact Has.here | refine Has.there ?_))) | exact M.rdLent (by first | ((repeat (first | with_reducible exact Has.here | with_reducible refine Has.there ?_)); done) | (repeat (first | exact Has.here | refine Has.there ?_))) | exact RdB.nil _ _) (by omega) (by omega) | exact RdB.pre' (by first | with_reducible assumption | with_reducible exact RdB.mem (by with_reducible assumption) M | exact M.rdB (by first | ((repeat (first | with_reducible exact Has.here | with_reducible refine Has.there ?_)); done) | (repeat (first | exact Has.here | refine Has.there ?_))) | exact RdH.at (by assumption) (M.sel (by first | ((repeat (first | with_reducible exact Sel.refl | with_reducible exact Sel.nil | with_reducible exact Del.here | with_reducible apply Del.there | with_reducible apply Sel.cons | with_reducible apply Sel.drop)); done) | (repeat (first | exact Sel.refl | exact Sel.nil | exact Del.here | apply Del.there | apply Sel.cons | apply Sel.drop)))) | exact M.rdLit' (by first | ((repeat (first | with_reducible exact Has.here | with_reducible refine Has.there ?_)); done) | (repeat (first | exact Has.here | refine Has.there ?_))) | exact M.rdLent (by first | ((repeat (first | with_reducible exact Has.here | with_reducible refine Has.there ?_)); done) | (repeat (first | exact Has.here | refine Has.there ?_))) | exact RdB.nil _ _) (by omega) | exact RdB.suf (by first | with_reducible assumption | with_reducible exact RdB.mem (by with_reducible assumption) M | exact M.rdB (by first | ((repeat (first | with_reducible exact Has.here | with_reducible refine Has.there ?_)); done) | (repeat (first | exact Has.here | refine Has.there ?_))) | exact RdH.at (by assumption) (M.sel (by first | ((repeat (first | with_reducible exact Sel.refl | with_reducible exact Sel.nil | with_reducible exact Del.here | with_reducible apply Del.there | with_reducible apply Sel.cons | with_reducible apply Sel.drop)); done) | (repeat (first | exact Sel.refl | exact Sel.nil | exact Del.here | apply Del.there | apply Sel.cons | apply Sel.drop)))) | exact M.rdLit' (by first | ((repeat (first | with_reducible exact Has.here | with_reducible refine Has.there ?_)); done) | (repeat (first | exact Has.here | refine Has.there ?_))) | exact M.rdLent (by first | ((repeat (first | with_reducible exact Has.here | with_reducible refine Has.there ?_)); done) | (repeat (first | exact Has.here | refine Has.there ?_))) | exact RdB.nil _ _) (by omega)) (by omega) rfl ?_
        refine WL.band rfl rfl (and64 (el b 0)) rfl ?_
        refine WL.neI rfl rfl rfl ?_
        refine WL.loadB Try.isAgg5 rfl (by first | first | with_reducible assumption | with_reducible exact RdB.mem (by with_reducible assumption) M | exact M.rdB (by first | ((repeat (first | with_reducible exact Has.here | with_reducible refine Has.there ?_)); done) | (repeat (first | exact Has.here | refine Has.there ?_))) | exact RdH.at (by assumption) (M.sel (by first | ((repeat (first | with_reducible exact Sel.refl | with_reducible exact Sel.nil | with_reducible exact Del.here | with_reducible apply Del.there | with_reducible apply Sel.cons | with_reducible apply Sel.drop)); done) | (repeat (first | exact Sel.refl | exact Sel.nil | exact Del.here | apply Del.there | apply Sel.cons | apply Sel.drop)))) | exact M.rdLit' (by first | ((repeat (first | with_reducible exact Has.here | with_reducible refine Has.there ?_)); done) | (repeat (first | exact Has.here | refine Has.there ?_))) | exact M.rdLent (by first | ((repeat (first | with_reducible exact Has.here | with_reducible refine Has.there ?_)); done) | (repeat (first | exact Has.here | refine Has.there ?_))) | exact RdB.nil _ _ | exact RdB.sub (by first | with_reducible assumption | with_reducible exact RdB.mem (by with_reducible assumption) M | exact M.rdB (by first | ((repeat (first | with_reducible exact Has.here | with_reducible refine Has.there ?_)); done) | (repeat (first | exact Has.here | refine Has.there ?_))) | exact RdH.at (by assumption) (M.sel (by first | ((repeat (first | with_reducible exact Sel.refl | with_reducible exact Sel.nil | with_reducible exact Del.here | with_reducible apply Del.there | with_reducible apply Sel.cons | with_reducible apply Sel.drop)); done) | (repeat (first | exact Sel.refl | exact Sel.nil | exact Del.here | apply Del.there | apply Sel.cons | apply Sel.drop)))) | exact M.rdLit' (by first | ((repeat (first | with_reducible exact Has.here | with_reducible refine Has.there ?_)); done) | (repeat (first | exact Has.here | refine Has.there ?_))) | exact M.rdLent (by first | ((repeat (first | with_reducible exact Has.here | with_reducible refine Has.there ?_)); done) | (repeat (first | exact Has.here | refine Has.there ?_))) | exact RdB.nil _ _) (by omega) (by omega) | exact RdB.pre' (by first | with_reducible assumption | with_reducible exact RdB.mem (by with_reducible assumption) M | exact M.rdB (by first | ((repeat (first | with_reducible exact Has.here | with_reducible refine Has.there ?_)); done) | (repeat (first | exact Has.here | refine Has.there ?_))) | exact RdH.at (by assumption) (M.sel (by first | ((repeat (first | with_reducible exact Sel.refl | with_reducible exact Sel.nil | with_reducible exact Del.here | with_reducible apply Del.there | with_reducible apply Sel.cons | with_reducible apply Sel.drop)); done) | (repeat (first | exact Sel.refl | exact Sel.nil | exact Del.here | apply Del.there | apply Sel.cons | apply Sel.drop)))) | exact M.rdLit' (by first | ((repeat (first | with_reducible exact Has.here | with_reducible refine Has.there ?_)); done) | (repeat (first | exact Has.here | refine Has.there ?_))) | exact M.rdLent (by first | ((repeat (first | with_reducible exact Has.here | with_reducible refine Has.there ?_)); done) | (repeat (first | exact Has.here | refine Has.there ?_))) | exact RdB.nil _ _) (by omega) | exact RdB.suf (by first | with_reducible assumption | with_reducible exact RdB.mem (by with_reducible assumption) M | exact M.rdB (by first | ((repeat (first | with_reducible exact Has.here | with_reducible refine Has.there ?_)); done) | (repeat (first | exact Has.here | refine Has.there ?_))) | exact RdH.at (by assumption) (M.sel (by first | ((repeat (first | with_reducible exact Sel.refl | with_reducible exact Sel.nil | with_reducible exact Del.here | with_reducible apply Del.there | with_reducible apply Sel.cons | with_reducible apply Sel.drop)); done) | (repeat (first | exact Sel.refl | exact Sel.nil | exact Del.here | apply Del.there | apply Sel.cons | apply Sel.drop)))) | exact M.rdLit' (by first | ((repeat (first | with_reducible exact Has.here | with_reducible refine Has.there ?_)); done) | (repeat (first | exact Has.here | refine Has.there ?_))) | exact M.rdLent (by first | ((repeat (first | with_reducible exact Has.here | with_reducible refine Has.there ?_)); done) | (repeat (first | exact Has.here | refine Has.there ?_))) | exact RdB.nil _ _) (by omega)) (by omega) rfl ?_
        exact Chain.end_ rfl
      refine DG.steps [14, 24] 9 rfl (by kernel_rfl) rfl ?_
      intro i hi; simp only [List.mem_cons, List.not_mem_nil, or_false] at hi; rcases hi with rfl | rfl
      · refine WL.call Try.call43 rfl (word_ok (k := 8) rfl (by omega) (by omega) (h.mem M)) rfl ?_
        rintro _ w ⟨rfl, m⟩
        replace M := M.call0 m; clear m
        refine DG.go (G := fun j => [2, 3, 4, 7, 8, 9, 12, 14, 15, 16, 18, 19, 20, 22, 24].contains j) (i := 14) (f' := 9) (done := [0, 1, 5, 6, 10, 11, 13, 17, 21, 2, 3, 4, 7, 8, 9, 12]) (fun _ => M.sel (by first | ((repeat (first | with_reducible exact Sel.refl | with_reducible exact Sel.nil | with_reducible exact Del.here | with_reducible apply Del.there | with_reducible apply Sel.cons | with_reducible apply Sel.drop)); done) | (repeat (first | exact Sel.refl | exact Sel.nil | exact Del.here | apply Del.there | apply Sel.cons | apply Sel.drop)))) ?_
        apply DG.take [15, 16] 7 rfl (by kernel_rfl) (by kernel_rfl) (M.sel (by first | ((repeat (first | with_reducible exact Sel.refl | with_reducible exact Sel.nil | with_reducible exact Del.here | with_reducible apply Del.there | with_reducible apply Sel.cons | with_reducible apply Sel.drop)); done) | (repeat (first | exact Sel.refl | exact Sel.nil | exact Del.here | apply Del.there | apply Sel.cons | apply Sel.drop))))
        · intro w M
          refine WL.conv Try.underlying23 Try.underlying22 rfl (by first | exact wU64 (by omega) | exact mU64 _ | rfl) rfl ?_
          refine WL.shlC rfl rfl 32 rfl rfl 4294967296 rfl (by first | exact wU64 (by omega) | exact mU64 _ | rfl) rfl ?_
          exact Chain.end_ rfl
        refine DG.steps [18, 24] 6 rfl (by kernel_rfl) rfl ?_
        intro i hi; simp only [List.mem_cons, List.not_mem_nil, or_false] at hi; rcases hi with rfl | rfl
        · refine WL.call Try.call43 rfl (word_ok (k := 12) rfl (by omega) (by omega) (h.mem M)) rfl ?_
          rintro _ w ⟨rfl, m⟩
          replace M := M.call0 m; clear m
          refine DG.go (G := fun j => [2, 3, 4, 7, 8, 9, 12, 14, 15, 16, 18, 19, 20, 22, 24].contains j) (i := 18) (f' := 6) (done := [0, 1, 5, 6, 10, 11, 13, 17, 21, 2, 3, 4, 7, 8, 9, 12, 14, 15, 16]) (fun _ => M.sel (by first | ((repeat (first | with_reducible exact Sel.refl | with_reducible exact Sel.nil | with_reducible exact Del.here | with_reducible apply Del.there | with_reducible apply Sel.cons | with_reducible apply Sel.drop)); done) | (repeat (first | exact Sel.refl | exact Sel.nil | exact Del.here | apply Del.there | apply Sel.cons | apply Sel.drop)))) ?_
          apply DG.take [19, 20] 4 rfl (by kernel_rfl) (by kernel_rfl) (M.sel (by first | ((repeat (first | with_reducible exact Sel.refl | with_reducible exact Sel.nil | with_reducible exact Del.here | with_reducible apply Del.there | with_reducible apply Sel.cons | with_reducible apply Sel.drop)); done) | (repeat (first | exact Sel.refl | exact Sel.nil | exact Del.here | apply Del.there | apply Sel.cons | apply Sel.drop))))
          · intro w M
            refine WL.conv Try.underlying23 Try.underlying22 rfl (by first | exact wU64 (by omega) | exact mU64 _ | rfl) rfl ?_
            refine WL.bor rfl rfl (lun_or (wd b 8) (wd b 12) v8 v12) rfl ?_
            exact Chain.end_ rfl
          refine DG.steps [22, 24] 3 rfl (by kernel_rfl) rfl ?_
          intro i hi; simp only [List.mem_cons, List.not_mem_nil, or_false] at hi; rcases hi with rfl | rfl
          · refine WL.call Try.call43 rfl (word_ok (k := 16) rfl (by omega) (by omega) (h.mem M)) rfl ?_
            rintro _ w ⟨rfl, m⟩
            replace M := M.call0 m; clear m
            refine DG.go (G := fun j => [2, 3, 4, 7, 8, 9, 12, 14, 15, 16, 18, 19, 20, 22, 24].contains j) (i := 22) (f' := 3) (done := [0, 1, 5, 6, 10, 11, 13, 17, 21, 2, 3, 4, 7, 8, 9, 12, 14, 15, 16, 18, 19, 20]) (fun _ => M.sel (by first | ((repeat (first | with_reducible exact Sel.refl | with_reducible exact Sel.nil | with_reducible exact Del.here | with_reducible apply Del.there | with_reducible apply Sel.cons | with_reducible apply Sel.drop)); done) | (repeat (first | exact Sel.refl | exact Sel.nil | exact Del.here | apply Del.there | apply Sel.cons | apply Sel.drop)))) ?_
            apply DG.pure_ [23] 2 rfl (by kernel_rfl) (by kernel_rfl)
            · intro w
              refine WL.buildP (places := #[(0, 1), (1, 1), (2, 1), (3, 1), (4, 1), (5, 7), (12, 1)]) Try.underlying27 Try.zeroValue27 (fun _ => by simp [Try.sizeOf3, Try.sizeOf4, Try.sizeOf5, Try.sizeOf22, Try.sizeOf23, Try.sizeOf24, Try.sizeOf25]) rfl (by repeat (first | exact Puts.nil | exact SetAt.zero | apply SetAt.succ | apply Puts.cons rfl rfl)) rfl ?_
              exact Chain.end_ rfl
            refine DG.step 24 1 rfl (by kernel_rfl) ?_
            refine WL.alloc Try.zeroValue27 M rfl ?_
            intro g3_24 w M
            try simp only [Value.cells] at M
            try simp only [List.toList_toArray] at M
            refine DG.go (G := fun j => [2, 3, 4, 7, 8, 9, 12, 14, 15, 16, 18, 19, 20, 22, 24].contains j) (i := 24) (f' := 1) (done := [0, 1, 5, 6, 10, 11, 13, 17, 21, 2, 3, 4, 7, 8, 9, 12, 14, 15, 16, 18, 19, 20, 22, 23]) (fun _ => M.sel (by first | ((repeat (first | with_reducible exact Sel.refl | with_reducible exact Sel.nil | with_reducible exact Del.here | with_reducible apply Del.there | with_reducible apply Sel.cons | with_reducible apply Sel.drop)); done) | (repeat (first | exact Sel.refl | exact Sel.nil | exact Del.here | apply Del.there | apply Sel.cons | apply Sel.drop)))) ?_
            refine DG.step 25 0 rfl (by kernel_rfl) ?_
            refine WL.storeWA Try.sizeOf27 rfl rfl (by repeat (first | exact oneNil | refine oneCons rfl ?_)) rfl rfl M (by first | ((repeat (first | with_reducible exact Upd.here | with_reducible apply Upd.there)); done) | (repeat (first | exact Upd.here | apply Upd.there))) ?_
            intro w M
            refine DG.go (G := fun j => [2, 3, 4, 7, 8, 9, 12, 14, 15, 16, 18, 19, 20, 22, 24].contains j) (i := 25) (f' := 0) (done := [0, 1, 5, 6, 10, 11, 13, 17, 21, 2, 3, 4, 7, 8, 9, 12, 14, 15, 16, 18, 19, 20, 22, 23, 24]) (fun h => by cases h) ?_
            refine DG.end_ (by kernel_rfl) ?_
            have hnw : decide (((64 * ((el b 0).toNat / 64 % 2) : Nat) : Int) ≠ 0) = (hdM b).now := by
              show _ = decide ((el b 0).toNat / 64 % 2 = 1)
              rw [decide_eq_decide]
              omega
            rw [hnw] at M
            refine WX.join (g3_24) (by (repeat' (first | exact envSub.nil | refine envSub.cons ?_ ?_)) <;> first | rfl | (refine congrArg some ?_; refine congrArg (Value.int _) ?_; first | omega | (dsimp only; omega)) | (simp; done) | (refine congrArg some ?_; dsimp only; congr 1; omega) | (simp; omega)) ⟨M.sel (by first | ((repeat (first | with_reducible exact Sel.refl | with_reducible exact Sel.nil | with_reducible exact Del.here | with_reducible apply Del.there | with_reducible apply Sel.cons | with_reducible apply Sel.drop)); done) | (repeat (first | exact Sel.refl | exact Sel.nil | exact Del.here | apply Del.there | apply Sel.cons | apply Sel.drop))), trivial⟩
          · refine WL.alloc Try.zeroValue27 M rfl ?_
            intro g3_24 w M
            try simp only [Value.cells] at M
            try simp only [List.toList_toArray] at M
            refine DG.go (G := fun j => [2, 3, 4, 7, 8, 9, 12, 14, 15, 16, 18, 19, 20, 22, 24].contains j) (i := 24) (f' := 3) (done := [0, 1, 5, 6, 10, 11, 13, 17, 21, 2, 3, 4, 7, 8, 9, 12, 14, 15, 16, 18, 19, 20]) (fun _ => M.sel (by first | ((repeat (first | with_reducible exact Sel.refl | with_reducible exact Sel.nil | with_reducible exact Del.here | with_reducible apply Del.there | with_reducible apply Sel.cons | with_reducible apply Sel.drop)); done) | (repeat (first | exact Sel.refl | exact Sel.nil | exact Del.here | apply Del.there | apply Sel.cons | apply Sel.drop)))) ?_
            refine DG.step 22 2 rfl (by kernel_rfl) ?_
            refine WL.call Try.call43 rfl (word_ok (k := 16) rfl (by omega) (by omega) (h.mem M)) rfl ?_
            rintro _ w ⟨rfl, m⟩
            replace M := M.call0 m; clear m
            refine DG.go (G := fun j => [2, 3, 4, 7, 8, 9, 12, 14, 15, 16, 18, 19, 20, 22, 24].contains j) (i := 22) (f' := 2) (done := [0, 1, 5, 6, 10, 11, 13, 17, 21, 2, 3, 4, 7, 8, 9, 12, 14, 15, 16, 18, 19, 20, 24]) (fun _ => M.sel (by first | ((repeat (first | with_reducible exact Sel.refl | with_reducible exact Sel.nil | with_reducible exact Del.here | with_reducible apply Del.there | with_reducible apply Sel.cons | with_reducible apply Sel.drop)); done) | (repeat (first | exact Sel.refl | exact Sel.nil | exact Del.here | apply Del.there | apply Sel.cons | apply Sel.drop)))) ?_
            apply DG.pure_ [23] 1 rfl (by kernel_rfl) (by kernel_rfl)
            · intro w
              refine WL.buildP (places := #[(0, 1), (1, 1), (2, 1), (3, 1), (4, 1), (5, 7), (12, 1)]) Try.underlying27 Try.zeroValue27 (fun _ => by simp [Try.sizeOf3, Try.sizeOf4, Try.sizeOf5, Try.sizeOf22, Try.sizeOf23, Try.sizeOf24, Try.sizeOf25]) rfl (by repeat (first | exact Puts.nil | exact SetAt.zero | apply SetAt.succ | apply Puts.cons rfl rfl)) rfl ?_
              exact Chain.end_ rfl
            refine DG.step 25 0 rfl (by kernel_rfl) ?_
            refine WL.storeWA Try.sizeOf27 rfl rfl (by repeat (first | exact oneNil | refine oneCons rfl ?_)) rfl rfl M (by first | ((repeat (first | with_reducible exact Upd.here | with_reducible apply Upd.there)); done) | (repeat (first | exact Upd.here | apply Upd.there))) ?_
            intro w M
            refine DG.go (G := fun j => [2, 3, 4, 7, 8, 9, 12, 14, 15, 16, 18, 19, 20, 22, 24].contains j) (i := 25) (f' := 0) (done := [0, 1, 5, 6, 10, 11, 13, 17, 21, 2, 3, 4, 7, 8, 9, 12, 14, 15, 16, 18, 19, 20, 24, 22, 23]) (fun h => by cases h) ?_
            refine DG.end_ (by kernel_rfl) ?_
            have hnw : decide (((64 * ((el b 0).toNat / 64 % 2) : Nat) : Int) ≠ 0) = (hdM b).now := by
              show _ = decide ((el b 0).toNat / 64 % 2 = 1)
              rw [decide_eq_decide]
              omega
            rw [hnw] at M
            refine WX.join (g3_24) (by (repeat' (first | exact envSub.nil | refine envSub.cons ?_ ?_)) <;> first | rfl | (refine congrArg some ?_; refine congrArg (Value.int _) ?_; first | omega | (dsimp only; omega)) | (simp; done) | (refine congrArg some ?_; dsimp only; congr 1; omega) | (simp; omega)) ⟨M.sel (by first | ((repeat (first | with_reducible exact Sel.refl | with_reducible exact Sel.nil | with_reducible exact Del.here | with_reducible apply Del.there | with_reducible apply Sel.cons | with_reducible apply Sel.drop)); done) | (repeat (first | exact Sel.refl | exact Sel.nil | exact Del.here | apply Del.there | apply Sel.cons | apply Sel.drop))), trivial⟩
        · refine WL.alloc Try.zeroValue27 M rfl ?_
          intro g3_24 w M
          try simp only [Value.cells] at M
          try simp only [List.toList_toArray] at M
          refine DG.go (G := fun j => [2, 3, 4, 7, 8, 9, 12, 14, 15, 16, 18, 19, 20, 22, 24].contains j) (i := 24) (f' := 6) (done := [0, 1, 5, 6, 10, 11, 13, 17, 21, 2, 3, 4, 7, 8, 9, 12, 14, 15, 16]) (fun _ => M.sel (by first | ((repeat (first | with_reducible exact Sel.refl | with_reducible exact Sel.nil | with_reducible exact Del.here | with_reducible apply Del.there | with_reducible apply Sel.cons | with_reducible apply Sel.drop)); done) | (repeat (first | exact Sel.refl | exact Sel.nil | exact Del.here | apply Del.there | apply Sel.cons | apply Sel.drop)))) ?_
          refine DG.step 18 5 rfl (by kernel_rfl) ?_
          refine WL.call Try.call43 rfl (word_ok (k := 12) rfl (by omega) (by omega) (h.mem M)) rfl ?_
          rintro _ w ⟨rfl, m⟩
          replace M := M.call0 m; clear m
          refine DG.go (G := fun j => [2, 3, 4, 7, 8, 9, 12, 14, 15, 16, 18, 19, 20, 22, 24].contains j) (i := 18) (f' := 5) (done := [0, 1, 5, 6, 10, 11, 13, 17, 21, 2, 3, 4, 7, 8, 9, 12, 14, 15, 16, 24]) (fun _ => M.sel (by first | ((repeat (first | with_reducible exact Sel.refl | with_reducible exact Sel.nil | with_reducible exact Del.here | with_reducible apply Del.there | with_reducible apply Sel.cons | with_reducible apply Sel.drop)); done) | (repeat (first | exact Sel.refl | exact Sel.nil | exact Del.here | apply Del.there | apply Sel.cons | apply Sel.drop)))) ?_
          apply DG.take [19, 20] 3 rfl (by kernel_rfl) (by kernel_rfl) (M.sel (by first | ((repeat (first | with_reducible exact Sel.refl | with_reducible exact Sel.nil | with_reducible exact Del.here | with_reducible apply Del.there | with_reducible apply Sel.cons | with_reducible apply Sel.drop)); done) | (repeat (first | exact Sel.refl | exact Sel.nil | exact Del.here | apply Del.there | apply Sel.cons | apply Sel.drop))))
          · intro w M
            refine WL.conv Try.underlying23 Try.underlying22 rfl (by first | exact wU64 (by omega) | exact mU64 _ | rfl) rfl ?_
            refine WL.bor rfl rfl (lun_or (wd b 8) (wd b 12) v8 v12) rfl ?_
            exact Chain.end_ rfl
          refine DG.step 22 2 rfl (by kernel_rfl) ?_
          refine WL.call Try.call43 rfl (word_ok (k := 16) rfl (by omega) (by omega) (h.mem M)) rfl ?_
          rintro _ w ⟨rfl, m⟩
          replace M := M.call0 m; clear m
          refine DG.go (G := fun j => [2, 3, 4, 7, 8, 9, 12, 14, 15, 16, 18, 19, 20, 22, 24].contains j) (i := 22) (f' := 2) (done := [0, 1, 5, 6, 10, 11, 13, 17, 21, 2, 3, 4, 7, 8, 9, 12, 14, 15, 16, 24, 18, 19, 20]) (fun _ => M.sel (by first | ((repeat (first | with_reducible exact Sel.refl | with_reducible exact Sel.nil | with_reducible exact Del.here | with_reducible apply Del.there | with_reducible apply Sel.cons | with_reducible apply Sel.drop)); done) | (repeat (first | exact Sel.refl | exact Sel.nil | exact Del.here | apply Del.there | apply Sel.cons | apply Sel.drop)))) ?_
          apply DG.pure_ [23] 1 rfl (by kernel_rfl) (by kernel_rfl)
          · intro w
            refine WL.buildP (places := #[(0, 1), (1, 1), (2, 1), (3, 1), (4, 1), (5, 7), (12, 1)]) Try.underlying27 Try.zeroValue27 (fun _ => by simp [Try.sizeOf3, Try.sizeOf4, Try.sizeOf5, Try.sizeOf22, Try.sizeOf23, Try.sizeOf24, Try.sizeOf25]) rfl (by repeat (first | exact Puts.nil | exact SetAt.zero | apply SetAt.succ | apply Puts.cons rfl rfl)) rfl ?_
            exact Chain.end_ rfl
          refine DG.step 25 0 rfl (by kernel_rfl) ?_
          refine WL.storeWA Try.sizeOf27 rfl rfl (by repeat (first | exact oneNil | refine oneCons rfl ?_)) rfl rfl M (by first | ((repeat (first | with_reducible exact Upd.here | with_reducible apply Upd.there)); done) | (repeat (first | exact Upd.here | apply Upd.there))) ?_
          intro w M
          refine DG.go (G := fun j => [2, 3, 4, 7, 8, 9, 12, 14, 15, 16, 18, 19, 20, 22, 24].contains j) (i := 25) (f' := 0) (done := [0, 1, 5, 6, 10, 11, 13, 17, 21, 2, 3, 4, 7, 8, 9, 12, 14, 15, 16, 24, 18, 19, 20, 22, 23]) (fun h => by cases h) ?_
          refine DG.end_ (by kernel_rfl) ?_
          have hnw : decide (((64 * ((el b 0).toNat / 64 % 2) : Nat) : Int) ≠ 0) = (hdM b).now := by
            show _ = decide ((el b 0).toNat / 64 % 2 = 1)
            rw [decide_eq_decide]
            omega
          rw [hnw] at M
          refine WX.join (g3_24) (by (repeat' (first | exact envSub.nil | refine envSub.cons ?_ ?_)) <;> first | rfl | (refine congrArg some ?_; refine congrArg (Value.int _) ?_; first | omega | (dsimp only; omega)) | (simp; done) | (refine congrArg some ?_; dsimp only; congr 1; omega) | (simp; omega)) ⟨M.sel (by first | ((repeat (first | with_reducible exact Sel.refl | with_reducible exact Sel.nil | with_reducible exact Del.here | with_reducible apply Del.there | with_reducible apply Sel.cons | with_reducible apply Sel.drop)); done) | (repeat (first | exact Sel.refl | exact Sel.nil | exact Del.here | apply Del.there | apply Sel.cons | apply Sel.drop))), trivial⟩
      · refine WL.alloc Try.zeroValue27 M rfl ?_
        intro g3_24 w M
        try simp only [Value.cells] at M
        try simp only [List.toList_toArray] at M
        refine DG.go (G := fun j => [2, 3, 4, 7, 8, 9, 12, 14, 15, 16, 18, 19, 20, 22, 24].contains j) (i := 24) (f' := 9) (done := [0, 1, 5, 6, 10, 11, 13, 17, 21, 2, 3, 4, 7, 8, 9, 12]) (fun _ => M.sel (by first | ((repeat (first | with_reducible exact Sel.refl | with_reducible exact Sel.nil | with_reducible exact Del.here | with_reducible apply Del.there | with_reducible apply Sel.cons | with_reducible apply Sel.drop)); done) | (repeat (first | exact Sel.refl | exact Sel.nil | exact Del.here | apply Del.there | apply Sel.cons | apply Sel.drop)))) ?_
        refine DG.step 14 8 rfl (by kernel_rfl) ?_
        refine WL.call Try.call43 rfl (word_ok (k := 8) rfl (by omega) (by omega) (h.mem M)) rfl ?_
        rintro _ w ⟨rfl, m⟩
        replace M := M.call0 m; clear m
        refine DG.go (G := fun j => [2, 3, 4, 7, 8, 9, 12, 14, 15, 16, 18, 19, 20, 22, 24].contains j) (i := 14) (f' := 8) (done := [0, 1, 5, 6, 10, 11, 13, 17, 21, 2, 3, 4, 7, 8, 9, 12, 24]) (fun _ => M.sel (by first | ((repeat (first | with_reducible exact Sel.refl | with_reducible exact Sel.nil | with_reducible exact Del.here | with_reducible apply Del.there | with_reducible apply Sel.cons | with_reducible apply Sel.drop)); done) | (repeat (first | exact Sel.refl | exact Sel.nil | exact Del.here | apply Del.there | apply Sel.cons | apply Sel.drop)))) ?_
        apply DG.take [15, 16] 6 rfl (by kernel_rfl) (by kernel_rfl) (M.sel (by first | ((repeat (first | with_reducible exact Sel.refl | with_reducible exact Sel.nil | with_reducible exact Del.here | with_reducible apply Del.there | with_reducible apply Sel.cons | with_reducible apply Sel.drop)); done) | (repeat (first | exact Sel.refl | exact Sel.nil | exact Del.here | apply Del.there | apply Sel.cons | apply Sel.drop))))
        · intro w M
          refine WL.conv Try.underlying23 Try.underlying22 rfl (by first | exact wU64 (by omega) | exact mU64 _ | rfl) rfl ?_
          refine WL.shlC rfl rfl 32 rfl rfl 4294967296 rfl (by first | exact wU64 (by omega) | exact mU64 _ | rfl) rfl ?_
          exact Chain.end_ rfl
        refine DG.step 18 5 rfl (by kernel_rfl) ?_
        refine WL.call Try.call43 rfl (word_ok (k := 12) rfl (by omega) (by omega) (h.mem M)) rfl ?_
        rintro _ w ⟨rfl, m⟩
        replace M := M.call0 m; clear m
        refine DG.go (G := fun j => [2, 3, 4, 7, 8, 9, 12, 14, 15, 16, 18, 19, 20, 22, 24].contains j) (i := 18) (f' := 5) (done := [0, 1, 5, 6, 10, 11, 13, 17, 21, 2, 3, 4, 7, 8, 9, 12, 24, 14, 15, 16]) (fun _ => M.sel (by first | ((repeat (first | with_reducible exact Sel.refl | with_reducible exact Sel.nil | with_reducible exact Del.here | with_reducible apply Del.there | with_reducible apply Sel.cons | with_reducible apply Sel.drop)); done) | (repeat (first | exact Sel.refl | exact Sel.nil | exact Del.here | apply Del.there | apply Sel.cons | apply Sel.drop)))) ?_
        apply DG.take [19, 20] 3 rfl (by kernel_rfl) (by kernel_rfl) (M.sel (by first | ((repeat (first | with_reducible exact Sel.refl | with_reducible exact Sel.nil | with_reducible exact Del.here | with_reducible apply Del.there | with_reducible apply Sel.cons | with_reducible apply Sel.drop)); done) | (repeat (first | exact Sel.refl | exact Sel.nil | exact Del.here | apply Del.there | apply Sel.cons | apply Sel.drop))))
        · intro w M
          refine WL.conv Try.underlying23 Try.underlying22 rfl (by first | exact wU64 (by omega) | exact mU64 _ | rfl) rfl ?_
          refine WL.bor rfl rfl (lun_or (wd b 8) (wd b 12) v8 v12) rfl ?_
          exact Chain.end_ rfl
        refine DG.step 22 2 rfl (by kernel_rfl) ?_
        refine WL.call Try.call43 rfl (word_ok (k := 16) rfl (by omega) (by omega) (h.mem M)) rfl ?_
        rintro _ w ⟨rfl, m⟩
        replace M := M.call0 m; clear m
        refine DG.go (G := fun j => [2, 3, 4, 7, 8, 9, 12, 14, 15, 16, 18, 19, 20, 22, 24].contains j) (i := 22) (f' := 2) (done := [0, 1, 5, 6, 10, 11, 13, 17, 21, 2, 3, 4, 7, 8, 9, 12, 24, 14, 15, 16, 18, 19, 20]) (fun _ => M.sel (by first | ((repeat (first | with_reducible exact Sel.refl | with_reducible exact Sel.nil | with_reducible exact Del.here | with_reducible apply Del.there | with_reducible apply Sel.cons | with_reducible apply Sel.drop)); done) | (repeat (first | exact Sel.refl | exact Sel.nil | exact Del.here | apply Del.there | apply Sel.cons | apply Sel.drop)))) ?_
        apply DG.pure_ [23] 1 rfl (by kernel_rfl) (by kernel_rfl)
        · intro w
          refine WL.buildP (places := #[(0, 1), (1, 1), (2, 1), (3, 1), (4, 1), (5, 7), (12, 1)]) Try.underlying27 Try.zeroValue27 (fun _ => by simp [Try.sizeOf3, Try.sizeOf4, Try.sizeOf5, Try.sizeOf22, Try.sizeOf23, Try.sizeOf24, Try.sizeOf25]) rfl (by repeat (first | exact Puts.nil | exact SetAt.zero | apply SetAt.succ | apply Puts.cons rfl rfl)) rfl ?_
          exact Chain.end_ rfl
        refine DG.step 25 0 rfl (by kernel_rfl) ?_
        refine WL.storeWA Try.sizeOf27 rfl rfl (by repeat (first | exact oneNil | refine oneCons rfl ?_)) rfl rfl M (by first | ((repeat (first | with_reducible exact Upd.here | with_reducible apply Upd.there)); done) | (repeat (first | exact Upd.here | apply Upd.there))) ?_
        intro w M
        refine DG.go (G := fun j => [2, 3, 4, 7, 8, 9, 12, 14, 15, 16, 18, 19, 20, 22, 24].contains j) (i := 25) (f' := 0) (done := [0, 1, 5, 6, 10, 11, 13, 17, 21, 2, 3, 4, 7, 8, 9, 12, 24, 14, 15, 16, 18, 19, 20, 22, 23]) (fun h => by cases h) ?_
        refine DG.end_ (by kernel_rfl) ?_
        have hnw : decide (((64 * ((el b 0).toNat / 64 % 2) : Nat) : Int) ≠ 0) = (hdM b).now := by
          show _ = decide ((el b 0).toNat / 64 % 2 = 1)
          rw [decide_eq_decide]
          omega
        rw [hnw] at M
        refine WX.join (g3_24) (by (repeat' (first | exact envSub.nil | refine envSub.cons ?_ ?_)) <;> first | rfl | (refine congrArg some ?_; refine congrArg (Value.int _) ?_; first | omega | (dsimp only; omega)) | (simp; done) | (refine congrArg some ?_; dsimp only; congr 1; omega) | (simp; omega)) ⟨M.sel (by first | ((repeat (first | with_reducible exact Sel.refl | with_reducible exact Sel.nil | with_reducible exact Del.here | with_reducible apply Del.there | with_reducible apply Sel.cons | with_reducible apply Sel.drop)); done) | (repeat (first | exact Sel.refl | exact Sel.nil | exact Del.here | apply Del.there | apply Sel.cons | apply Sel.drop))), trivial⟩
    clear M; rintro (gp) w ⟨M, -⟩; dsimp only at M ⊢
    refine W.sub [(0, _), (2, _), (5, _)] (.cons rfl (.cons rfl (.cons rfl .nil))) ?_
    refine W.seq ?_
    refine W.seq ?_
    refine W.region ?_
    refine WL.move rfl rfl ?_
    refine WL.nil ?_
    refine WX.next ?_
    refine W.sub [(0, _), (2, _), (5, _), (40, _)] (.cons rfl (.cons rfl (.cons rfl (.cons rfl .nil)))) ?_
    refine W.block ?_
    refine W.loop (ι := Nat) (fun i => [(0, .slice A b.length cap), (2, .pointer (some ⟨g0_0, 0, none⟩)), (5, .pointer (some ⟨gp, 0, none⟩)), (40, .int .i64 (i : Int))]) (fun zz w => Mem w0 w ((fun i => [Asr.row gp 27 (PdX.cells ⟨(hdM b).op, (hdM b).now, el b 1, wd b 8 * 4294967296 + wd b 12, wd b 16, wsk b i, ⟨none, 0, []⟩⟩), Asr.row g0_0 27 zeroP.cells]) zz) ∧ (fun i => i ≤ 7) zz) (fun i => 7 - i) (0) (by (repeat' (first | exact envSub.nil | refine envSub.cons ?_ ?_)) <;> first | rfl | (refine congrArg some ?_; refine congrArg (Value.int _) ?_; first | omega | (dsimp only; omega)) | (simp; done) | (refine congrArg some ?_; dsimp only; congr 1; omega) | (simp; omega)) ⟨M.sel (by first | ((repeat (first | with_reducible exact Sel.refl | with_reducible exact Sel.nil | with_reducible exact Del.here | with_reducible apply Del.there | with_reducible apply Sel.cons | with_reducible apply Sel.drop)); done) | (repeat (first | exact Sel.refl | exact Sel.nil | exact Del.here | apply Del.there | apply Sel.cons | apply Sel.drop))), by decide⟩ ?_
    clear M; rintro (i) w ⟨M, hi⟩; dsimp only at M hi ⊢
    refine W.sub [(0, _), (2, _), (5, _), (40, _)] (.cons rfl (.cons rfl (.cons rfl (.cons rfl .nil)))) ?_
    refine W.seq ?_
    refine W.region ?_
    refine WL.lss rfl rfl rfl ?_
    refine WL.nil ?_
    refine WX.next ?_
    refine W.sub [(0, _), (2, _), (5, _), (40, _), (41, _)] (.cons rfl (.cons rfl (.cons rfl (.cons rfl (.cons rfl .nil))))) ?_
    refine W.seq ?_
    refine W.ite rfl (fun c1 => ?_) (fun c1 => ?_)
    · have hi7 : i < 7 := by omega
      refine W.skip ?_
      refine WX.next ?_
      refine W.seq ?_
      refine W.block ?_
      refine W.seq ?_
      refine W.region ?_
      refine WL.move rfl rfl ?_
      refine WL.assign rfl rfl ?_
      refine WL.nil ?_
      refine WX.next ?_
      refine W.sub [(0, _), (2, _), (5, _), (6, _), (40, _)] (.cons rfl (.cons rfl (.cons rfl (.cons rfl (.cons rfl .nil))))) ?_
      refine W.region ?_
      refine WL.move rfl rfl ?_
      refine WL.move rfl rfl ?_
      refine WL.move rfl rfl ?_
      refine WL.mul rfl rfl (by first | exact wI64 (by omega) | rfl) rfl ?_
      refine WL.add rfl rfl (by first | exact wI64 (by omega) | rfl) rfl ?_
      refine WL.call Try.call43 rfl (word_ok (k := 20 + 4 * i) (by omega) (by omega) (by omega) (h.mem M)) rfl ?_
      rintro _ w ⟨rfl, m⟩
      replace M := M.call0 m; clear m
      refine WL.fieldR (off := 5) Try.underlying27 rfl rfl Try.sizeOf24 rfl rfl rfl ?_
      refine WL.idxArr Try.underlying24 Try.sizeOf23 rfl rfl (by omega) (by omega) (by first | exact rfl | exact (Int.toNat_of_nonneg (by omega)).symm) rfl ?_
      refine WL.storeR (o := 5 + i * 1) (cs' := PdX.cells ⟨(hdM b).op, (hdM b).now, el b 1, wd b 8 * 4294967296 + wd b 12, wd b 16, wsk b (i + 1), ⟨none, 0, []⟩⟩) Try.sizeOf23 (by show some (Value.pointer (some (Addr.add ⟨gp, 5, none⟩ (i * 1)))) = _; rw [add_lit]) rfl rfl M (by first | ((repeat (first | with_reducible exact Has.here | with_reducible refine Has.there ?_)); done) | (repeat (first | exact Has.here | refine Has.there ?_))) (ws_set hi7 (by unfold wsk; rw [if_pos (by omega)]) (fun j hj => by unfold wsk; by_cases hji : j < i; rw [if_pos (by omega), if_pos hji]; rw [if_neg (by omega), if_neg hji])) (by first | ((repeat (first | with_reducible exact Upd.here | with_reducible apply Upd.there)); done) | (repeat (first | exact Upd.here | apply Upd.there))) ?_
      intro w M
      refine WL.nil ?_
      refine WX.blockNormal ?_
      refine WX.next ?_
      refine W.sub [(0, _), (2, _), (5, _), (40, _)] (.cons rfl (.cons rfl (.cons rfl (.cons rfl .nil)))) ?_
      refine W.region ?_
      refine WL.add rfl rfl (by first | exact wI64 (by omega) | rfl) rfl ?_
      refine WL.move rfl rfl ?_
      refine WL.nil ?_
      refine WX.round (i + 1) (by (repeat' (first | exact envSub.nil | refine envSub.cons ?_ ?_)) <;> first | rfl | (refine congrArg some ?_; refine congrArg (Value.int _) ?_; first | omega | (dsimp only; omega)) | (simp; done) | (refine congrArg some ?_; dsimp only; congr 1; omega) | (simp; omega)) ⟨M.sel (by first | ((repeat (first | with_reducible exact Sel.refl | with_reducible exact Sel.nil | with_reducible exact Del.here | with_reducible apply Del.there | with_reducible apply Sel.cons | with_reducible apply Sel.drop)); done) | (repeat (first | exact Sel.refl | exact Sel.nil | exact Del.here | apply Del.there | apply Sel.cons | apply Sel.drop))), by omega⟩ (by first | omega | (dsimp only; omega))
    · refine W.exit ?_
      refine WX.thenExit ?_
      refine WX.thenExit ?_
      refine WX.blockHere ?_
      refine WX.next ?_
      refine W.seq ?_
      obtain rfl : i = 7 := by omega
      have M3 : Mem w0 w [Asr.row gp 27 (PdX.cells ⟨(hdM b).op, (hdM b).now, (hdM b).flags, (hdM b).lun, (hdM b).tag, (hdM b).ws, ⟨none, 0, []⟩⟩), Asr.row g0_0 27 zeroP.cells] := M
      replace M := M3
      refine W.region ?_
      refine WL.loadW Try.isAgg27 Try.sizeOf27 rfl M (by first | ((repeat (first | with_reducible exact Has.here | with_reducible refine Has.there ?_)); done) | (repeat (first | exact Has.here | refine Has.there ?_))) rfl rfl ?_
      refine WL.call Try.call15 rfl (Check_ok ⟨(hdM b).op, (hdM b).now, (hdM b).flags, (hdM b).lun, (hdM b).tag, (hdM b).ws, ⟨none, 0, []⟩⟩ _) rfl ?_
      rintro _ w ⟨rfl, m⟩
      replace M := M.call0 m; clear m
      dsimp only [List.length_nil]
      have hcc := chkM_cases (hdM b).op (hdM b).now
      obtain ⟨ce, hce⟩ : ∃ ce, chkM (hdM b).op (hdM b).now 0 = ce := ⟨_, rfl⟩
      rw [hce] at hcc ⊢
      refine WL.assign rfl rfl ?_
      refine WL.nil ?_
      refine WX.next ?_
      refine W.sub [(0, _), (2, _), (5, _), (7, _)] (.cons rfl (.cons rfl (.cons rfl (.cons rfl .nil)))) ?_
      refine W.seq ?_
      refine W.region ?_
      refine WL.move rfl rfl ?_
      refine WL.call Try.call43 rfl (word_ok (k := 4) rfl (by omega) (by omega) (h.mem M)) rfl ?_
      rintro _ w ⟨rfl, m⟩
      replace M := M.call0 m; clear m
      refine WL.conv Try.underlying23 Try.underlying3 rfl (by first | exact wI64 (by omega) | rfl) rfl ?_
      refine WL.assign rfl rfl ?_
      refine WL.nil ?_
      refine WX.next ?_
      refine W.sub [(0, _), (2, _), (5, _), (7, _), (8, _)] (.cons rfl (.cons rfl (.cons rfl (.cons rfl (.cons rfl .nil))))) ?_
      refine W.seq ?_
      refine W.region ?_
      refine WL.move rfl rfl ?_
      refine WL.add rfl rfl (by first | exact wI64 (by omega) | rfl) rfl ?_
      refine WL.move rfl rfl ?_
      refine WL.call Try.call36 rfl (pad_ok (wd b 4) (by omega) _) rfl ?_
      rintro _ _ ⟨rfl, rfl⟩
      refine WL.add rfl rfl (by first | exact wI64 (by omega) | rfl) rfl ?_
      refine WL.assign rfl rfl ?_
      refine WL.nil ?_
      refine WX.next ?_
      refine W.sub [(0, _), (2, _), (5, _), (7, _), (8, _), (9, _)] (.cons rfl (.cons rfl (.cons rfl (.cons rfl (.cons rfl (.cons rfl .nil)))))) ?_
      refine W.seq ?_
      refine W.block ?_
      refine W.joint (fun (_ : Unit) => [(0, .slice A b.length cap), (2, .pointer (some ⟨g0_0, 0, none⟩)), (5, .pointer (some ⟨gp, 0, none⟩)), (7, .int .i64 ce), (8, .int .i64 (wd b 4 : Int)), (9, .int .i64 (endM b : Int)), (62, .bool (decide (ce ≠ 0 ∧ ce ≠ 11)))]) (fun j w => Mem w0 w ((fun _ => [Asr.row gp 27 (PdX.cells ⟨(hdM b).op, (hdM b).now, (hdM b).flags, (hdM b).lun, (hdM b).tag, (hdM b).ws, ⟨none, 0, []⟩⟩), Asr.row g0_0 27 zeroP.cells]) j) ∧ (fun _ => True) j) ?_ ?_
      · refine W.region ?_
        refine WL.move rfl rfl ?_
        refine WL.neI rfl rfl rfl ?_
        refine WL.moveIf rfl rfl (fun c2 => ?_) (fun c2 => ?_)
        · refine WL.on rfl rfl ?_
          refine WL.move rfl rfl ?_
          refine WL.on rfl rfl ?_
          refine WL.neI rfl rfl rfl ?_
          refine WL.pickT rfl rfl rfl ?_
          refine WL.assign rfl rfl ?_
          refine WL.nil ?_
          refine WX.join (()) (envSub.cons rfl (envSub.cons rfl (envSub.cons rfl (envSub.cons rfl (envSub.cons rfl (envSub.cons rfl ((envSub.cons (by first | rfl | exact congrArg some (congrArg Value.bool (decide_eq_true (by omega)).symm) | exact congrArg some (congrArg Value.bool (decide_eq_false (by omega)).symm) | exact congrArg some (congrArg Value.bool (decide_eq_decide.2 (by omega)))) envSub.nil)))))))) ⟨M.sel (by first | ((repeat (first | with_reducible exact Sel.refl | with_reducible exact Sel.nil | with_reducible exact Del.here | with_reducible apply Del.there | with_reducible apply Sel.cons | with_reducible apply Sel.drop)); done) | (repeat (first | exact Sel.refl | exact Sel.nil | exact Del.here | apply Del.there | apply Sel.cons | apply Sel.drop))), trivial⟩
        · refine WL.off rfl rfl rfl rfl ?_
          refine WL.off rfl rfl rfl rfl ?_
          refine WL.pickF rfl rfl rfl ?_
          refine WL.assign rfl rfl ?_
          refine WL.nil ?_
          refine WX.join (()) (envSub.cons rfl (envSub.cons rfl (envSub.cons rfl (envSub.cons rfl (envSub.cons rfl (envSub.cons rfl ((envSub.cons (by first | rfl | exact congrArg some (congrArg Value.bool (decide_eq_true (by omega)).symm) | exact congrArg some (congrArg Value.bool (decide_eq_false (by omega)).symm) | exact congrArg some (congrArg Value.bool (decide_eq_decide.2 (by omega)))) envSub.nil)))))))) ⟨M.sel (by first | ((repeat (first | with_reducible exact Sel.refl | with_reducible exact Sel.nil | with_reducible exact Del.here | with_reducible apply Del.there | with_reducible apply Sel.cons | with_reducible apply Sel.drop)); done) | (repeat (first | exact Sel.refl | exact Sel.nil | exact Del.here | apply Del.there | apply Sel.cons | apply Sel.drop))), trivial⟩
      clear M; rintro (_) w ⟨M, -⟩; dsimp only at M ⊢
      refine W.sub [(0, _), (2, _), (5, _), (7, _), (8, _), (9, _), (62, _)] (.cons rfl (.cons rfl (.cons rfl (.cons rfl (.cons rfl (.cons rfl (.cons rfl .nil))))))) ?_
      refine W.cond rfl (fun c3 => ?_) (fun c3 => ?_)
      · (try simp only [Bool.not_eq_true'] at c3); (try simp only [Bool.not_eq_false'] at c3); (try simp only [decide_eq_true_eq] at c3); (try simp only [decide_eq_false_iff_not] at c3)
        refine W.seq ?_
        refine W.region ?_
        refine WL.buildP (places := #[(0, 1), (1, 1), (2, 1), (3, 1), (4, 1), (5, 7), (12, 1)]) Try.underlying27 Try.zeroValue27 (fun _ => by simp [Try.sizeOf3, Try.sizeOf4, Try.sizeOf5, Try.sizeOf22, Try.sizeOf23, Try.sizeOf24, Try.sizeOf25]) rfl (by repeat (first | exact Puts.nil | exact SetAt.zero | apply SetAt.succ | apply Puts.cons rfl rfl)) rfl ?_
        refine WL.move rfl rfl ?_
        refine WL.storeWA Try.sizeOf27 rfl rfl (by repeat (first | exact oneNil | refine oneCons rfl ?_)) rfl rfl M (by first | ((repeat (first | with_reducible exact Upd.here | with_reducible apply Upd.there)); done) | (repeat (first | exact Upd.here | apply Upd.there))) ?_
        intro w M
        refine WL.assign rfl rfl ?_
        refine WL.assign rfl rfl ?_
        refine WL.nil ?_
        refine WX.next ?_
        refine W.sub [(2, _), (3, _), (4, _)] (.cons rfl (.cons rfl (.cons rfl .nil))) ?_
        refine W.ret ?_
        refine WX.blockRet ?_
        refine WX.thenRet ?_
        refine WX.retC3 (cs := [_, _, _, _, _, _, _, _, _, _, _, _, _]) rfl rfl rfl rfl Try.isAgg27 (by exact Try.sizeOf27) (M.cellsH (by first | ((repeat (first | with_reducible exact Has.here | with_reducible refine Has.there ?_)); done) | (repeat (first | exact Has.here | refine Has.there ?_)))) ?_
        exact bad ce _ _ M (by omega) (by unfold getE; rw [if_neg (by omega), hce, if_pos (by omega)]; omega)
      · (try simp only [Bool.not_eq_true'] at c3); (try simp only [Bool.not_eq_false'] at c3); (try simp only [decide_eq_true_eq] at c3); (try simp only [decide_eq_false_iff_not] at c3)
        refine W.joint (fun (_ : Unit) => [(0, .slice A b.length cap), (2, .pointer (some ⟨g0_0, 0, none⟩)), (5, .pointer (some ⟨gp, 0, none⟩)), (8, .int .i64 (wd b 4 : Int)), (9, .int .i64 (endM b : Int)), (71, .bool (decide (ce ≠ 0 ∨ el b 2 ≠ 0 ∨ el b 3 ≠ 0 ∨ el b 4 ≠ 0)))]) (fun j w => Mem w0 w ((fun _ => [Asr.row gp 27 (PdX.cells ⟨(hdM b).op, (hdM b).now, (hdM b).flags, (hdM b).lun, (hdM b).tag, (hdM b).ws, ⟨none, 0, []⟩⟩), Asr.row g0_0 27 zeroP.cells]) j) ∧ (fun _ => True) j) ?_ ?_
        · refine W.region ?_
          refine WL.move rfl rfl ?_
          refine WL.neI rfl rfl rfl ?_
          refine WL.moveIf rfl rfl (fun c4 => ?_) (fun c4 => ?_)
          · refine WL.off rfl rfl rfl rfl ?_
            refine WL.off rfl rfl rfl rfl ?_
            refine WL.off rfl rfl rfl rfl ?_
            refine WL.off rfl rfl rfl rfl ?_
            refine WL.pickT rfl rfl rfl ?_
            refine WL.move rfl rfl ?_
            refine WL.off rfl rfl rfl rfl ?_
            refine WL.off rfl rfl rfl rfl ?_
            refine WL.off rfl rfl rfl rfl ?_
            refine WL.off rfl rfl rfl rfl ?_
            refine WL.pickT rfl rfl rfl ?_
            refine WL.move rfl rfl ?_
            refine WL.off rfl rfl rfl rfl ?_
            refine WL.off rfl rfl rfl rfl ?_
            refine WL.off rfl rfl rfl rfl ?_
            refine WL.off rfl rfl rfl rfl ?_
            refine WL.pickT rfl rfl rfl ?_
            refine WL.assign rfl rfl ?_
            refine WL.nil ?_
            refine WX.join (()) (envSub.cons rfl (envSub.cons rfl (envSub.cons rfl (envSub.cons rfl (envSub.cons rfl (envSub.cons (by first | exact congrArg some (congrArg Value.bool (decide_eq_true (by first | exact .inl (by omega) | exact .inr (.inl (fun e => by rw [e] at c5; exact absurd c5 (by decide))) | exact .inr (.inr (.inl (fun e => by rw [e] at c6; exact absurd c6 (by decide)))))).symm) | exact congrArg some (congrArg Value.bool (decide_eq_decide.2 ⟨fun q => .inr (.inr (.inr (fun e => by rw [e] at q; exact absurd q (by decide)))), fun q => by rcases q with q | q | q | q; exact absurd q (by omega); exact absurd (u8_zero (by omega)) q; exact absurd (u8_zero (by omega)) q; exact fun e => q (u8_zero (by omega))⟩))) envSub.nil)))))) ⟨M.sel (by first | ((repeat (first | with_reducible exact Sel.refl | with_reducible exact Sel.nil | with_reducible exact Del.here | with_reducible apply Del.there | with_reducible apply Sel.cons | with_reducible apply Sel.drop)); done) | (repeat (first | exact Sel.refl | exact Sel.nil | exact Del.here | apply Del.there | apply Sel.cons | apply Sel.drop))), trivial⟩
          · refine WL.on rfl rfl ?_
            refine WL.move rfl rfl ?_
            refine WL.on rfl rfl ?_
            refine WL.idxA (jn := 2) Try.underlying25 Try.sizeOf5 rfl rfl (RdB.isSome (by first | first | with_reducible assumption | with_reducible exact RdB.mem (by with_reducible assumption) M | exact M.rdB (by first | ((repeat (first | with_reducible exact Has.here | with_reducible refine Has.there ?_)); done) | (repeat (first | exact Has.here | refine Has.there ?_))) | exact RdH.at (by assumption) (M.sel (by first | ((repeat (first | with_reducible exact Sel.refl | with_reducible exact Sel.nil | with_reducible exact Del.here | with_reducible apply Del.there | with_reducible apply Sel.cons | with_reducible apply Sel.drop)); done) | (repeat (first | exact Sel.refl | exact Sel.nil | exact Del.here | apply Del.there | apply Sel.cons | apply Sel.drop)))) | exact M.rdLit' (by first | ((repeat (first | with_reducible exact Has.here | with_reducible refine Has.there ?_)); done) | (repeat (first | exact Has.here | refine Has.there ?_))) | exact M.rdLent (by first | ((repeat (first | with_reducible exact Has.here | with_reducible refine Has.there ?_)); done) | (repeat (first | exact Has.here | refine Has.there ?_))) | exact RdB.nil _ _ | exact RdB.sub (by first | with_reducible assumption | with_reducible exact RdB.mem (by with_reducible assumption) M | exact M.rdB (by first | ((repeat (first | with_reducible exact Has.here | with_reducible refine Has.there ?_)); done) | (repeat (first | exact Has.here | refine Has.there ?_))) | exact RdH.at (by assumption) (M.sel (by first | ((repeat (first | with_reducible exact Sel.refl | with_reducible exact Sel.nil | with_reducible exact Del.here | with_reducible apply Del.there | with_reducible apply Sel.cons | with_reducible apply Sel.drop)); done) | (repeat (first | exact Sel.refl | exact Sel.nil | exact Del.here | apply Del.there | apply Sel.cons | apply Sel.drop)))) | exact M.rdLit' (by first | ((repeat (first | with_reducible exact Has.here | with_reducible refine Has.there ?_)); done) | (repeat (first | exact Has.here | refine Has.there ?_))) | exact M.rdLent (by first | ((repeat (first | with_reducible exact Has.here | with_reducible refine Has.there ?_)); done) | (repeat (first | exact Has.here | refine Has.there ?_))) | exact RdB.nil _ _) (by omega) (by omega) | exact RdB.pre' (by first | with_reducible assumption | with_reducible exact RdB.mem (by with_reducible assumption) M | exact M.rdB (by first | ((repeat (first | with_reducible exact Has.here | with_reducible refine Has.there ?_)); done) | (repeat (first | exact Has.here | refine Has.there ?_))) | exact RdH.at (by assumption) (M.sel (by first | ((repeat (first | with_reducible exact Sel.refl | with_reducible exact Sel.nil | with_reducible exact Del.here | with_reducible apply Del.there | with_reducible apply Sel.cons | with_reducible apply Sel.drop)); done) | (repeat (first | exact Sel.refl | exact Sel.nil | exact Del.here | apply Del.there | apply Sel.cons | apply Sel.drop)))) | exact M.rdLit' (by first | ((repeat (first | with_reducible exact Has.here | with_reducible refine Has.there ?_)); done) | (repeat (first | exact Has.here | refine Has.there ?_))) | exact M.rdLent (by first | ((repeat (first | with_reducible exact Has.here | with_reducible refine Has.there ?_)); done) | (repeat (first | exact Has.here | refine Has.there ?_))) | exact RdB.nil _ _) (by omega) | exact RdB.suf (by first | with_reducible assumption | with_reducible exact RdB.mem (by with_reducible assumption) M | exact M.rdB (by first | ((repeat (first | with_reducible exact Has.here | with_reducible refine Has.there ?_)); done) | (repeat (first | exact Has.here | refine Has.there ?_))) | exact RdH.at (by assumption) (M.sel (by first | ((repeat (first | with_reducible exact Sel.refl | with_reducible exact Sel.nil | with_reducible exact Del.here | with_reducible apply Del.there | with_reducible apply Sel.cons | with_reducible apply Sel.drop)); done) | (repeat (first | exact Sel.refl | exact Sel.nil | exact Del.here | apply Del.there | apply Sel.cons | apply Sel.drop)))) | exact M.rdLit' (by first | ((repeat (first | with_reducible exact Has.here | with_reducible refine Has.there ?_)); done) | (repeat (first | exact Has.here | refine Has.there ?_))) | exact M.rdLent (by first | ((repeat (first | with_reducible exact Has.here | with_reducible refine Has.there ?_)); done) | (repeat (first | exact Has.here | refine Has.there ?_))) | exact RdB.nil _ _) (by omega)) (by omega)) (by omega) (by omega) (by first | exact rfl | exact (Int.toNat_of_nonneg (by omega)).symm) rfl ?_
            refine WL.on rfl rfl ?_
            refine WL.loadB Try.isAgg5 rfl (by first | first | with_reducible assumption | with_reducible exact RdB.mem (by with_reducible assumption) M | exact M.rdB (by first | ((repeat (first | with_reducible exact Has.here | with_reducible refine Has.there ?_)); done) | (repeat (first | exact Has.here | refine Has.there ?_))) | exact RdH.at (by assumption) (M.sel (by first | ((repeat (first | with_reducible exact Sel.refl | with_reducible exact Sel.nil | with_reducible exact Del.here | with_reducible apply Del.there | with_reducible apply Sel.cons | with_reducible apply Sel.drop)); done) | (repeat (first | exact Sel.refl | exact Sel.nil | exact Del.here | apply Del.there | apply Sel.cons | apply Sel.drop)))) | exact M.rdLit' (by first | ((repeat (first | with_reducible exact Has.here | with_reducible refine Has.there ?_)); done) | (repeat (first | exact Has.here | refine Has.there ?_))) | exact M.rdLent (by first | ((repeat (first | with_reducible exact Has.here | with_reducible refine Has.there ?_)); done) | (repeat (first | exact Has.here | refine Has.there ?_))) | exact RdB.nil _ _ | exact RdB.sub (by first | with_reducible assumption | with_reducible exact RdB.mem (by with_reducible assumption) M | exact M.rdB (by first | ((repeat (first | with_reducible exact Has.here | with_reducible refine Has.there ?_)); done) | (repeat (first | exact Has.here | refine Has.there ?_))) | exact RdH.at (by assumption) (M.sel (by first | ((repeat (first | with_reducible exact Sel.refl | with_reducible exact Sel.nil | with_reducible exact Del.here | with_reducible apply Del.there | with_reducible apply Sel.cons | with_reducible apply Sel.drop)); done) | (repeat (first | exact Sel.refl | exact Sel.nil | exact Del.here | apply Del.there | apply Sel.cons | apply Sel.drop)))) | exact M.rdLit' (by first | ((repeat (first | with_reducible exact Has.here | with_reducible refine Has.there ?_)); done) | (repeat (first | exact Has.here | refine Has.there ?_))) | exact M.rdLent (by first | ((repeat (first | with_reducible exact Has.here | with_reducible refine Has.there ?_)); done) | (repeat (first | exact Has.here | refine Has.there ?_))) | exact RdB.nil _ _) (by omega) (by omega) | exact RdB.pre' (by first | with_reducible assumption | with_reducible exact RdB.mem (by with_reducible assumption) M | exact M.rdB (by first | ((repeat (first | with_reducible exact Has.here | with_reducible refine Has.there ?_)); done) | (repeat (first | exact Has.here | refine Has.there ?_))) | exact RdH.at (by assumption) (M.sel (by first | ((repeat (first | with_reducible exact Sel.refl | with_reducible exact Sel.nil | with_reducible exact Del.here | with_reducible apply Del.there | with_reducible apply Sel.cons | with_reducible apply Sel.drop)); done) | (repeat (first | exact Sel.refl | exact Sel.nil | exact Del.here | apply Del.there | apply Sel.cons | apply Sel.drop)))) | exact M.rdLit' (by first | ((repeat (first | with_reducible exact Has.here | with_reducible refine Has.there ?_)); done) | (repeat (first | exact Has.here | refine Has.there ?_))) | exact M.rdLent (by first | ((repeat (first | with_reducible exact Has.here | with_reducible refine Has.there ?_)); done) | (repeat (first | exact Has.here | refine Has.there ?_))) | exact RdB.nil _ _) (by omega) | exact RdB.suf (by first | with_reducible assumption | with_reducible exact RdB.mem (by with_reducible assumption) M | exact M.rdB (by first | ((repeat (first | with_reducible exact Has.here | with_reducible refine Has.there ?_)); done) | (repeat (first | exact Has.here | refine Has.there ?_))) | exact RdH.at (by assumption) (M.sel (by first | ((repeat (first | with_reducible exact Sel.refl | with_reducible exact Sel.nil | with_reducible exact Del.here | with_reducible apply Del.there | with_reducible apply Sel.cons | with_reducible apply Sel.drop)); done) | (repeat (first | exact Sel.refl | exact Sel.nil | exact Del.here | apply Del.there | apply Sel.cons | apply Sel.drop)))) | exact M.rdLit' (by first | ((repeat (first | with_reducible exact Has.here | with_reducible refine Has.there ?_)); done) | (repeat (first | exact Has.here | refine Has.there ?_))) | exact M.rdLent (by first | ((repeat (first | with_reducible exact Has.here | with_reducible refine Has.there ?_)); done) | (repeat (first | exact Has.here | refine Has.there ?_))) | exact RdB.nil _ _) (by omega)) (by omega) rfl ?_
            refine WL.on rfl rfl ?_
            refine WL.neI rfl rfl rfl ?_
            refine WL.pickF rfl rfl rfl ?_
            refine WL.moveIf rfl rfl (fun c5 => ?_) (fun c5 => ?_)
            · refine WL.off rfl rfl rfl rfl ?_
              refine WL.off rfl rfl rfl rfl ?_
              refine WL.off rfl rfl rfl rfl ?_
              refine WL.off rfl rfl rfl rfl ?_
              refine WL.pickT rfl rfl rfl ?_
              refine WL.move rfl rfl ?_
              refine WL.off rfl rfl rfl rfl ?_
              refine WL.off rfl rfl rfl rfl ?_
              refine WL.off rfl rfl rfl rfl ?_
              refine WL.off rfl rfl rfl rfl ?_
              refine WL.pickT rfl rfl rfl ?_
              refine WL.assign rfl rfl ?_
              refine WL.nil ?_
              refine WX.join (()) (envSub.cons rfl (envSub.cons rfl (envSub.cons rfl (envSub.cons rfl (envSub.cons rfl (envSub.cons (by first | exact congrArg some (congrArg Value.bool (decide_eq_true (by first | exact .inl (by omega) | exact .inr (.inl (fun e => by rw [e] at c5; exact absurd c5 (by decide))) | exact .inr (.inr (.inl (fun e => by rw [e] at c6; exact absurd c6 (by decide)))))).symm) | exact congrArg some (congrArg Value.bool (decide_eq_decide.2 ⟨fun q => .inr (.inr (.inr (fun e => by rw [e] at q; exact absurd q (by decide)))), fun q => by rcases q with q | q | q | q; exact absurd q (by omega); exact absurd (u8_zero (by omega)) q; exact absurd (u8_zero (by omega)) q; exact fun e => q (u8_zero (by omega))⟩))) envSub.nil)))))) ⟨M.sel (by first | ((repeat (first | with_reducible exact Sel.refl | with_reducible exact Sel.nil | with_reducible exact Del.here | with_reducible apply Del.there | with_reducible apply Sel.cons | with_reducible apply Sel.drop)); done) | (repeat (first | exact Sel.refl | exact Sel.nil | exact Del.here | apply Del.there | apply Sel.cons | apply Sel.drop))), trivial⟩
            · refine WL.on rfl rfl ?_
              refine WL.move rfl rfl ?_
              refine WL.on rfl rfl ?_
              refine WL.idxA (jn := 3) Try.underlying25 Try.sizeOf5 rfl rfl (RdB.isSome (by first | first | with_reducible assumption | with_reducible exact RdB.mem (by with_reducible assumption) M | exact M.rdB (by first | ((repeat (first | with_reducible exact Has.here | with_reducible refine Has.there ?_)); done) | (repeat (first | exact Has.here | refine Has.there ?_))) | exact RdH.at (by assumption) (M.sel (by first | ((repeat (first | with_reducible exact Sel.refl | with_reducible exact Sel.nil | with_reducible exact Del.here | with_reducible apply Del.there | with_reducible apply Sel.cons | with_reducible apply Sel.drop)); done) | (repeat (first | exact Sel.refl | exact Sel.nil | exact Del.here | apply Del.there | apply Sel.cons | apply Sel.drop)))) | exact M.rdLit' (by first | ((repeat (first | with_reducible exact Has.here | with_reducible refine Has.there ?_)); done) | (repeat (first | exact Has.here | refine Has.there ?_))) | exact M.rdLent (by first | ((repeat (first | with_reducible exact Has.here | with_reducible refine Has.there ?_)); done) | (repeat (first | exact Has.here | refine Has.there ?_))) | exact RdB.nil _ _ | exact RdB.sub (by first | with_reducible assumption | with_reducible exact RdB.mem (by with_reducible assumption) M | exact M.rdB (by first | ((repeat (first | with_reducible exact Has.here | with_reducible refine Has.there ?_)); done) | (repeat (first | exact Has.here | refine Has.there ?_))) | exact RdH.at (by assumption) (M.sel (by first | ((repeat (first | with_reducible exact Sel.refl | with_reducible exact Sel.nil | with_reducible exact Del.here | with_reducible apply Del.there | with_reducible apply Sel.cons | with_reducible apply Sel.drop)); done) | (repeat (first | exact Sel.refl | exact Sel.nil | exact Del.here | apply Del.there | apply Sel.cons | apply Sel.drop)))) | exact M.rdLit' (by first | ((repeat (first | with_reducible exact Has.here | with_reducible refine Has.there ?_)); done) | (repeat (first | exact Has.here | refine Has.there ?_))) | exact M.rdLent (by first | ((repeat (first | with_reducible exact Has.here | with_reducible refine Has.there ?_)); done) | (repeat (first | exact Has.here | refine Has.there ?_))) | exact RdB.nil _ _) (by omega) (by omega) | exact RdB.pre' (by first | with_reducible assumption | with_reducible exact RdB.mem (by with_reducible assumption) M | exact M.rdB (by first | ((repeat (first | with_reducible exact Has.here | with_reducible refine Has.there ?_)); done) | (repeat (first | exact Has.here | refine Has.there ?_))) | exact RdH.at (by assumption) (M.sel (by first | ((repeat (first | with_reducible exact Sel.refl | with_reducible exact Sel.nil | with_reducible exact Del.here | with_reducible apply Del.there | with_reducible apply Sel.cons | with_reducible apply Sel.drop)); done) | (repeat (first | exact Sel.refl | exact Sel.nil | exact Del.here | apply Del.there | apply Sel.cons | apply Sel.drop)))) | exact M.rdLit' (by first | ((repeat (first | with_reducible exact Has.here | with_reducible refine Has.there ?_)); done) | (repeat (first | exact Has.here | refine Has.there ?_))) | exact M.rdLent (by first | ((repeat (first | with_reducible exact Has.here | with_reducible refine Has.there ?_)); done) | (repeat (first | exact Has.here | refine Has.there ?_))) | exact RdB.nil _ _) (by omega) | exact RdB.suf (by first | with_reducible assumption | with_reducible exact RdB.mem (by with_reducible assumption) M | exact M.rdB (by first | ((repeat (first | with_reducible exact Has.here | with_reducible refine Has.there ?_)); done) | (repeat (first | exact Has.here | refine Has.there ?_))) | exact RdH.at (by assumption) (M.sel (by first | ((repeat (first | with_reducible exact Sel.refl | with_reducible exact Sel.nil | with_reducible exact Del.here | with_reducible apply Del.there | with_reducible apply Sel.cons | with_reducible apply Sel.drop)); done) | (repeat (first | exact Sel.refl | exact Sel.nil | exact Del.here | apply Del.there | apply Sel.cons | apply Sel.drop)))) | exact M.rdLit' (by first | ((repeat (first | with_reducible exact Has.here | with_reducible refine Has.there ?_)); done) | (repeat (first | exact Has.here | refine Has.there ?_))) | exact M.rdLent (by first | ((repeat (first | with_reducible exact Has.here | with_reducible refine Has.there ?_)); done) | (repeat (first | exact Has.here | refine Has.there ?_))) | exact RdB.nil _ _) (by omega)) (by omega)) (by omega) (by omega) (by first | exact rfl | exact (Int.toNat_of_nonneg (by omega)).symm) rfl ?_
              refine WL.on rfl rfl ?_
              refine WL.loadB Try.isAgg5 rfl (by first | first | with_reducible assumption | with_reducible exact RdB.mem (by with_reducible assumption) M | exact M.rdB (by first | ((repeat (first | with_reducible exact Has.here | with_reducible refine Has.there ?_)); done) | (repeat (first | exact Has.here | refine Has.there ?_))) | exact RdH.at (by assumption) (M.sel (by first | ((repeat (first | with_reducible exact Sel.refl | with_reducible exact Sel.nil | with_reducible exact Del.here | with_reducible apply Del.there | with_reducible apply Sel.cons | with_reducible apply Sel.drop)); done) | (repeat (first | exact Sel.refl | exact Sel.nil | exact Del.here | apply Del.there | apply Sel.cons | apply Sel.drop)))) | exact M.rdLit' (by first | ((repeat (first | with_reducible exact Has.here | with_reducible refine Has.there ?_)); done) | (repeat (first | exact Has.here | refine Has.there ?_))) | exact M.rdLent (by first | ((repeat (first | with_reducible exact Has.here | with_reducible refine Has.there ?_)); done) | (repeat (first | exact Has.here | refine Has.there ?_))) | exact RdB.nil _ _ | exact RdB.sub (by first | with_reducible assumption | with_reducible exact RdB.mem (by with_reducible assumption) M | exact M.rdB (by first | ((repeat (first | with_reducible exact Has.here | with_reducible refine Has.there ?_)); done) | (repeat (first | exact Has.here | refine Has.there ?_))) | exact RdH.at (by assumption) (M.sel (by first | ((repeat (first | with_reducible exact Sel.refl | with_reducible exact Sel.nil | with_reducible exact Del.here | with_reducible apply Del.there | with_reducible apply Sel.cons | with_reducible apply Sel.drop)); done) | (repeat (first | exact Sel.refl | exact Sel.nil | exact Del.here | apply Del.there | apply Sel.cons | apply Sel.drop)))) | exact M.rdLit' (by first | ((repeat (first | with_reducible exact Has.here | with_reducible refine Has.there ?_)); done) | (repeat (first | exact Has.here | refine Has.there ?_))) | exact M.rdLent (by first | ((repeat (first | with_reducible exact Has.here | with_reducible refine Has.there ?_)); done) | (repeat (first | exact Has.here | refine Has.there ?_))) | exact RdB.nil _ _) (by omega) (by omega) | exact RdB.pre' (by first | with_reducible assumption | with_reducible exact RdB.mem (by with_reducible assumption) M | exact M.rdB (by first | ((repeat (first | with_reducible exact Has.here | with_reducible refine Has.there ?_)); done) | (repeat (first | exact Has.here | refine Has.there ?_))) | exact RdH.at (by assumption) (M.sel (by first | ((repeat (first | with_reducible exact Sel.refl | with_reducible exact Sel.nil | with_reducible exact Del.here | with_reducible apply Del.there | with_reducible apply Sel.cons | with_reducible apply Sel.drop)); done) | (repeat (first | exact Sel.refl | exact Sel.nil | exact Del.here | apply Del.there | apply Sel.cons | apply Sel.drop)))) | exact M.rdLit' (by first | ((repeat (first | with_reducible exact Has.here | with_reducible refine Has.there ?_)); done) | (repeat (first | exact Has.here | refine Has.there ?_))) | exact M.rdLent (by first | ((repeat (first | with_reducible exact Has.here | with_reducible refine Has.there ?_)); done) | (repeat (first | exact Has.here | refine Has.there ?_))) | exact RdB.nil _ _) (by omega) | exact RdB.suf (by first | with_reducible assumption | with_reducible exact RdB.mem (by with_reducible assumption) M | exact M.rdB (by first | ((repeat (first | with_reducible exact Has.here | with_reducible refine Has.there ?_)); done) | (repeat (first | exact Has.here | refine Has.there ?_))) | exact RdH.at (by assumption) (M.sel (by first | ((repeat (first | with_reducible exact Sel.refl | with_reducible exact Sel.nil | with_reducible exact Del.here | with_reducible apply Del.there | with_reducible apply Sel.cons | with_reducible apply Sel.drop)); done) | (repeat (first | exact Sel.refl | exact Sel.nil | exact Del.here | apply Del.there | apply Sel.cons | apply Sel.drop)))) | exact M.rdLit' (by first | ((repeat (first | with_reducible exact Has.here | with_reducible refine Has.there ?_)); done) | (repeat (first | exact Has.here | refine Has.there ?_))) | exact M.rdLent (by first | ((repeat (first | with_reducible exact Has.here | with_reducible refine Has.there ?_)); done) | (repeat (first | exact Has.here | refine Has.there ?_))) | exact RdB.nil _ _) (by omega)) (by omega) rfl ?_
              refine WL.on rfl rfl ?_
              refine WL.neI rfl rfl rfl ?_
              refine WL.pickF rfl rfl rfl ?_
              refine WL.moveIf rfl rfl (fun c6 => ?_) (fun c6 => ?_)
              · refine WL.off rfl rfl rfl rfl ?_
                refine WL.off rfl rfl rfl rfl ?_
                refine WL.off rfl rfl rfl rfl ?_
                refine WL.off rfl rfl rfl rfl ?_
                refine WL.pickT rfl rfl rfl ?_
                refine WL.assign rfl rfl ?_
                refine WL.nil ?_
                refine WX.join (()) (envSub.cons rfl (envSub.cons rfl (envSub.cons rfl (envSub.cons rfl (envSub.cons rfl (envSub.cons (by first | exact congrArg some (congrArg Value.bool (decide_eq_true (by first | exact .inl (by omega) | exact .inr (.inl (fun e => by rw [e] at c5; exact absurd c5 (by decide))) | exact .inr (.inr (.inl (fun e => by rw [e] at c6; exact absurd c6 (by decide)))))).symm) | exact congrArg some (congrArg Value.bool (decide_eq_decide.2 ⟨fun q => .inr (.inr (.inr (fun e => by rw [e] at q; exact absurd q (by decide)))), fun q => by rcases q with q | q | q | q; exact absurd q (by omega); exact absurd (u8_zero (by omega)) q; exact absurd (u8_zero (by omega)) q; exact fun e => q (u8_zero (by omega))⟩))) envSub.nil)))))) ⟨M.sel (by first | ((repeat (first | with_reducible exact Sel.refl | with_reducible exact Sel.nil | with_reducible exact Del.here | with_reducible apply Del.there | with_reducible apply Sel.cons | with_reducible apply Sel.drop)); done) | (repeat (first | exact Sel.refl | exact Sel.nil | exact Del.here | apply Del.there | apply Sel.cons | apply Sel.drop))), trivial⟩
              · refine WL.on rfl rfl ?_
                refine WL.move rfl rfl ?_
                refine WL.on rfl rfl ?_
                refine WL.idxA (jn := 4) Try.underlying25 Try.sizeOf5 rfl rfl (RdB.isSome (by first | first | with_reducible assumption | with_reducible exact RdB.mem (by with_reducible assumption) M | exact M.rdB (by first | ((repeat (first | with_reducible exact Has.here | with_reducible refine Has.there ?_)); done) | (repeat (first | exact Has.here | refine Has.there ?_))) | exact RdH.at (by assumption) (M.sel (by first | ((repeat (first | with_reducible exact Sel.refl | with_reducible exact Sel.nil | with_reducible exact Del.here | with_reducible apply Del.there | with_reducible apply Sel.cons | with_reducible apply Sel.drop)); done) | (repeat (first | exact Sel.refl | exact Sel.nil | exact Del.here | apply Del.there | apply Sel.cons | apply Sel.drop)))) | exact M.rdLit' (by first | ((repeat (first | with_reducible exact Has.here | with_reducible refine Has.there ?_)); done) | (repeat (first | exact Has.here | refine Has.there ?_))) | exact M.rdLent (by first | ((repeat (first | with_reducible exact Has.here | with_reducible refine Has.there ?_)); done) | (repeat (first | exact Has.here | refine Has.there ?_))) | exact RdB.nil _ _ | exact RdB.sub (by first | with_reducible assumption | with_reducible exact RdB.mem (by with_reducible assumption) M | exact M.rdB (by first | ((repeat (first | with_reducible exact Has.here | with_reducible refine Has.there ?_)); done) | (repeat (first | exact Has.here | refine Has.there ?_))) | exact RdH.at (by assumption) (M.sel (by first | ((repeat (first | with_reducible exact Sel.refl | with_reducible exact Sel.nil | with_reducible exact Del.here | with_reducible apply Del.there | with_reducible apply Sel.cons | with_reducible apply Sel.drop)); done) | (repeat (first | exact Sel.refl | exact Sel.nil | exact Del.here | apply Del.there | apply Sel.cons | apply Sel.drop)))) | exact M.rdLit' (by first | ((repeat (first | with_reducible exact Has.here | with_reducible refine Has.there ?_)); done) | (repeat (first | exact Has.here | refine Has.there ?_))) | exact M.rdLent (by first | ((repeat (first | with_reducible exact Has.here | with_reducible refine Has.there ?_)); done) | (repeat (first | exact Has.here | refine Has.there ?_))) | exact RdB.nil _ _) (by omega) (by omega) | exact RdB.pre' (by first | with_reducible assumption | with_reducible exact RdB.mem (by with_reducible assumption) M | exact M.rdB (by first | ((repeat (first | with_reducible exact Has.here | with_reducible refine Has.there ?_)); done) | (repeat (first | exact Has.here | refine Has.there ?_))) | exact RdH.at (by assumption) (M.sel (by first | ((repeat (first | with_reducible exact Sel.refl | with_reducible exact Sel.nil | with_reducible exact Del.here | with_reducible apply Del.there | with_reducible apply Sel.cons | with_reducible apply Sel.drop)); done) | (repeat (first | exact Sel.refl | exact Sel.nil | exact Del.here | apply Del.there | apply Sel.cons | apply Sel.drop)))) | exact M.rdLit' (by first | ((repeat (first | with_reducible exact Has.here | with_reducible refine Has.there ?_)); done) | (repeat (first | exact Has.here | refine Has.there ?_))) | exact M.rdLent (by first | ((repeat (first | with_reducible exact Has.here | with_reducible refine Has.there ?_)); done) | (repeat (first | exact Has.here | refine Has.there ?_))) | exact RdB.nil _ _) (by omega) | exact RdB.suf (by first | with_reducible assumption | with_reducible exact RdB.mem (by with_reducible assumption) M | exact M.rdB (by first | ((repeat (first | with_reducible exact Has.here | with_reducible refine Has.there ?_)); done) | (repeat (first | exact Has.here | refine Has.there ?_))) | exact RdH.at (by assumption) (M.sel (by first | ((repeat (first | with_reducible exact Sel.refl | with_reducible exact Sel.nil | with_reducible exact Del.here | with_reducible apply Del.there | with_reducible apply Sel.cons | with_reducible apply Sel.drop)); done) | (repeat (first | exact Sel.refl | exact Sel.nil | exact Del.here | apply Del.there | apply Sel.cons | apply Sel.drop)))) | exact M.rdLit' (by first | ((repeat (first | with_reducible exact Has.here | with_reducible refine Has.there ?_)); done) | (repeat (first | exact Has.here | refine Has.there ?_))) | exact M.rdLent (by first | ((repeat (first | with_reducible exact Has.here | with_reducible refine Has.there ?_)); done) | (repeat (first | exact Has.here | refine Has.there ?_))) | exact RdB.nil _ _) (by omega)) (by omega)) (by omega) (by omega) (by first | exact rfl | exact (Int.toNat_of_nonneg (by omega)).symm) rfl ?_
                refine WL.on rfl rfl ?_
                refine WL.loadB Try.isAgg5 rfl (by first | first | with_reducible assumption | with_reducible exact RdB.mem (by with_reducible assumption) M | exact M.rdB (by first | ((repeat (first | with_reducible exact Has.here | with_reducible refine Has.there ?_)); done) | (repeat (first | exact Has.here | refine Has.there ?_))) | exact RdH.at (by assumption) (M.sel (by first | ((repeat (first | with_reducible exact Sel.refl | with_reducible exact Sel.nil | with_reducible exact Del.here | with_reducible apply Del.there | with_reducible apply Sel.cons | with_reducible apply Sel.drop)); done) | (repeat (first | exact Sel.refl | exact Sel.nil | exact Del.here | apply Del.there | apply Sel.cons | apply Sel.drop)))) | exact M.rdLit' (by first | ((repeat (first | with_reducible exact Has.here | with_reducible refine Has.there ?_)); done) | (repeat (first | exact Has.here | refine Has.there ?_))) | exact M.rdLent (by first | ((repeat (first | with_reducible exact Has.here | with_reducible refine Has.there ?_)); done) | (repeat (first | exact Has.here | refine Has.there ?_))) | exact RdB.nil _ _ | exact RdB.sub (by first | with_reducible assumption | with_reducible exact RdB.mem (by with_reducible assumption) M | exact M.rdB (by first | ((repeat (first | with_reducible exact Has.here | with_reducible refine Has.there ?_)); done) | (repeat (first | exact Has.here | refine Has.there ?_))) | exact RdH.at (by assumption) (M.sel (by first | ((repeat (first | with_reducible exact Sel.refl | with_reducible exact Sel.nil | with_reducible exact Del.here | with_reducible apply Del.there | with_reducible apply Sel.cons | with_reducible apply Sel.drop)); done) | (repeat (first | exact Sel.refl | exact Sel.nil | exact Del.here | apply Del.there | apply Sel.cons | apply Sel.drop)))) | exact M.rdLit' (by first | ((repeat (first | with_reducible exact Has.here | with_reducible refine Has.there ?_)); done) | (repeat (first | exact Has.here | refine Has.there ?_))) | exact M.rdLent (by first | ((repeat (first | with_reducible exact Has.here | with_reducible refine Has.there ?_)); done) | (repeat (first | exact Has.here | refine Has.there ?_))) | exact RdB.nil _ _) (by omega) (by omega) | exact RdB.pre' (by first | with_reducible assumption | with_reducible exact RdB.mem (by with_reducible assumption) M | exact M.rdB (by first | ((repeat (first | with_reducible exact Has.here | with_reducible refine Has.there ?_)); done) | (repeat (first | exact Has.here | refine Has.there ?_))) | exact RdH.at (by assumption) (M.sel (by first | ((repeat (first | with_reducible exact Sel.refl | with_reducible exact Sel.nil | with_reducible exact Del.here | with_reducible apply Del.there | with_reducible apply Sel.cons | with_reducible apply Sel.drop)); done) | (repeat (first | exact Sel.refl | exact Sel.nil | exact Del.here | apply Del.there | apply Sel.cons | apply Sel.drop)))) | exact M.rdLit' (by first | ((repeat (first | with_reducible exact Has.here | with_reducible refine Has.there ?_)); done) | (repeat (first | exact Has.here | refine Has.there ?_))) | exact M.rdLent (by first | ((repeat (first | with_reducible exact Has.here | with_reducible refine Has.there ?_)); done) | (repeat (first | exact Has.here | refine Has.there ?_))) | exact RdB.nil _ _) (by omega) | exact RdB.suf (by first | with_reducible assumption | with_reducible exact RdB.mem (by with_reducible assumption) M | exact M.rdB (by first | ((repeat (first | with_reducible exact Has.here | with_reducible refine Has.there ?_)); done) | (repeat (first | exact Has.here | refine Has.there ?_))) | exact RdH.at (by assumption) (M.sel (by first | ((repeat (first | with_reducible exact Sel.refl | with_reducible exact Sel.nil | with_reducible exact Del.here | with_reducible apply Del.there | with_reducible apply Sel.cons | with_reducible apply Sel.drop)); done) | (repeat (first | exact Sel.refl | exact Sel.nil | exact Del.here | apply Del.there | apply Sel.cons | apply Sel.drop)))) | exact M.rdLit' (by first | ((repeat (first | with_reducible exact Has.here | with_reducible refine Has.there ?_)); done) | (repeat (first | exact Has.here | refine Has.there ?_))) | exact M.rdLent (by first | ((repeat (first | with_reducible exact Has.here | with_reducible refine Has.there ?_)); done) | (repeat (first | exact Has.here | refine Has.there ?_))) | exact RdB.nil _ _) (by omega)) (by omega) rfl ?_
                refine WL.on rfl rfl ?_
                refine WL.neI rfl rfl rfl ?_
                refine WL.pickF rfl rfl rfl ?_
                refine WL.assign rfl rfl ?_
                refine WL.nil ?_
                refine WX.join (()) (envSub.cons rfl (envSub.cons rfl (envSub.cons rfl (envSub.cons rfl (envSub.cons rfl (envSub.cons (by first | exact congrArg some (congrArg Value.bool (decide_eq_true (by first | exact .inl (by omega) | exact .inr (.inl (fun e => by rw [e] at c5; exact absurd c5 (by decide))) | exact .inr (.inr (.inl (fun e => by rw [e] at c6; exact absurd c6 (by decide)))))).symm) | exact congrArg some (congrArg Value.bool (decide_eq_decide.2 ⟨fun q => .inr (.inr (.inr (fun e => by rw [e] at q; exact absurd q (by decide)))), fun q => by rcases q with q | q | q | q; exact absurd q (by omega); exact absurd (u8_zero (by omega)) q; exact absurd (u8_zero (by omega)) q; exact fun e => q (u8_zero (by omega))⟩))) envSub.nil)))))) ⟨M.sel (by first | ((repeat (first | with_reducible exact Sel.refl | with_reducible exact Sel.nil | with_reducible exact Del.here | with_reducible apply Del.there | with_reducible apply Sel.cons | with_reducible apply Sel.drop)); done) | (repeat (first | exact Sel.refl | exact Sel.nil | exact Del.here | apply Del.there | apply Sel.cons | apply Sel.drop))), trivial⟩
        clear M; rintro (_) w ⟨M, -⟩; dsimp only at M ⊢
        refine W.sub [(0, _), (2, _), (5, _), (8, _), (9, _), (71, _)] (.cons rfl (.cons rfl (.cons rfl (.cons rfl (.cons rfl (.cons rfl .nil)))))) ?_
        refine W.cond rfl (fun c7 => ?_) (fun c7 => ?_)
        · (try simp only [Bool.not_eq_true'] at c7); (try simp only [Bool.not_eq_false'] at c7); (try simp only [decide_eq_true_eq] at c7); (try simp only [decide_eq_false_iff_not] at c7)
          refine W.seq ?_
          refine W.region ?_
          refine WL.buildP (places := #[(0, 1), (1, 1), (2, 1), (3, 1), (4, 1), (5, 7), (12, 1)]) Try.underlying27 Try.zeroValue27 (fun _ => by simp [Try.sizeOf3, Try.sizeOf4, Try.sizeOf5, Try.sizeOf22, Try.sizeOf23, Try.sizeOf24, Try.sizeOf25]) rfl (by repeat (first | exact Puts.nil | exact SetAt.zero | apply SetAt.succ | apply Puts.cons rfl rfl)) rfl ?_
          refine WL.storeWA Try.sizeOf27 rfl rfl (by repeat (first | exact oneNil | refine oneCons rfl ?_)) rfl rfl M (by first | ((repeat (first | with_reducible exact Upd.here | with_reducible apply Upd.there)); done) | (repeat (first | exact Upd.here | apply Upd.there))) ?_
          intro w M
          refine WL.assign rfl rfl ?_
          refine WL.assign rfl rfl ?_
          refine WL.nil ?_
          refine WX.next ?_
          refine W.sub [(2, _), (3, _), (4, _)] (.cons rfl (.cons rfl (.cons rfl .nil))) ?_
          refine W.ret ?_
          refine WX.blockRet ?_
          refine WX.thenRet ?_
          refine WX.retC3 (cs := [_, _, _, _, _, _, _, _, _, _, _, _, _]) rfl rfl rfl rfl Try.isAgg27 (by exact Try.sizeOf27) (M.cellsH (by first | ((repeat (first | with_reducible exact Has.here | with_reducible refine Has.there ?_)); done) | (repeat (first | exact Has.here | refine Has.there ?_)))) ?_
          exact bad 11 _ _ M (by decide) (by unfold getE; rw [if_neg (by omega), hce, if_neg (by omega), if_pos c7])
        · (try simp only [Bool.not_eq_true'] at c7); (try simp only [Bool.not_eq_false'] at c7); (try simp only [decide_eq_true_eq] at c7); (try simp only [decide_eq_false_iff_not] at c7)
          have hnz := c7
          have hce0 : ce = 0 := Classical.not_not.1 fun e => hnz (.inl e)
          refine W.seq ?_
          refine W.region ?_
          refine WL.move rfl rfl ?_
          refine WL.gtr rfl rfl rfl ?_
          refine WL.assign rfl rfl ?_
          refine WL.nil ?_
          refine WX.next ?_
          refine W.sub [(0, _), (2, _), (5, _), (8, _), (9, _), (93, _)] (.cons rfl (.cons rfl (.cons rfl (.cons rfl (.cons rfl (.cons rfl .nil)))))) ?_
          refine W.ite rfl (fun c8 => ?_) (fun c8 => ?_)
          · refine W.seq ?_
            refine W.region ?_
            refine WL.buildP (places := #[(0, 1), (1, 1), (2, 1), (3, 1), (4, 1), (5, 7), (12, 1)]) Try.underlying27 Try.zeroValue27 (fun _ => by simp [Try.sizeOf3, Try.sizeOf4, Try.sizeOf5, Try.sizeOf22, Try.sizeOf23, Try.sizeOf24, Try.sizeOf25]) rfl (by repeat (first | exact Puts.nil | exact SetAt.zero | apply SetAt.succ | apply Puts.cons rfl rfl)) rfl ?_
            refine WL.storeWA Try.sizeOf27 rfl rfl (by repeat (first | exact oneNil | refine oneCons rfl ?_)) rfl rfl M (by first | ((repeat (first | with_reducible exact Upd.here | with_reducible apply Upd.there)); done) | (repeat (first | exact Upd.here | apply Upd.there))) ?_
            intro w M
            refine WL.assign rfl rfl ?_
            refine WL.assign rfl rfl ?_
            refine WL.nil ?_
            refine WX.next ?_
            refine W.sub [(2, _), (3, _), (4, _)] (.cons rfl (.cons rfl (.cons rfl .nil))) ?_
            refine W.ret ?_
            refine WX.blockRet ?_
            refine WX.thenRet ?_
            refine WX.retC3 (cs := [_, _, _, _, _, _, _, _, _, _, _, _, _]) rfl rfl rfl rfl Try.isAgg27 (by exact Try.sizeOf27) (M.cellsH (by first | ((repeat (first | with_reducible exact Has.here | with_reducible refine Has.there ?_)); done) | (repeat (first | exact Has.here | refine Has.there ?_)))) ?_
            exact bad 3 _ _ M (by decide) (by unfold getE; rw [if_neg (by omega), hce, if_neg (by omega), if_neg hnz, if_pos (by omega)])
          · have hn4 : wd b 4 ≤ 4096 := by omega
            have hed : endM b = 48 + wd b 4 + padN (wd b 4) := rfl
            refine W.seq ?_
            refine W.region ?_
            refine WL.move rfl rfl ?_
            refine WL.len Try.underlying25 rfl rfl ?_
            refine WL.move rfl rfl ?_
            refine WL.lss rfl rfl rfl ?_
            refine WL.assign rfl rfl ?_
            refine WL.nil ?_
            refine WX.next ?_
            refine W.sub [(0, _), (2, _), (5, _), (8, _), (9, _), (97, _)] (.cons rfl (.cons rfl (.cons rfl (.cons rfl (.cons rfl (.cons rfl .nil)))))) ?_
            refine W.ite rfl (fun c9 => ?_) (fun c9 => ?_)
            · refine W.seq ?_
              refine W.region ?_
              refine WL.buildP (places := #[(0, 1), (1, 1), (2, 1), (3, 1), (4, 1), (5, 7), (12, 1)]) Try.underlying27 Try.zeroValue27 (fun _ => by simp [Try.sizeOf3, Try.sizeOf4, Try.sizeOf5, Try.sizeOf22, Try.sizeOf23, Try.sizeOf24, Try.sizeOf25]) rfl (by repeat (first | exact Puts.nil | exact SetAt.zero | apply SetAt.succ | apply Puts.cons rfl rfl)) rfl ?_
              refine WL.storeWA Try.sizeOf27 rfl rfl (by repeat (first | exact oneNil | refine oneCons rfl ?_)) rfl rfl M (by first | ((repeat (first | with_reducible exact Upd.here | with_reducible apply Upd.there)); done) | (repeat (first | exact Upd.here | apply Upd.there))) ?_
              intro w M
              refine WL.assign rfl rfl ?_
              refine WL.assign rfl rfl ?_
              refine WL.nil ?_
              refine WX.next ?_
              refine W.sub [(2, _), (3, _), (4, _)] (.cons rfl (.cons rfl (.cons rfl .nil))) ?_
              refine W.ret ?_
              refine WX.blockRet ?_
              refine WX.thenRet ?_
              refine WX.retC3 (cs := [_, _, _, _, _, _, _, _, _, _, _, _, _]) rfl rfl rfl rfl Try.isAgg27 (by exact Try.sizeOf27) (M.cellsH (by first | ((repeat (first | with_reducible exact Has.here | with_reducible refine Has.there ?_)); done) | (repeat (first | exact Has.here | refine Has.there ?_)))) ?_
              exact bad 10 _ _ M (by decide) (by unfold getE; rw [if_neg (by omega), hce, if_neg (by omega), if_neg hnz, if_neg (by omega), if_pos (by omega)])
            · have hend : 48 + wd b 4 + padN (wd b 4) ≤ b.length := by omega
              have hg : getE b = if ((b.drop (48 + wd b 4)).take (padN (wd b 4))).all (· == 0) then 0 else 11 := by
                unfold getE
                rw [if_neg (by omega), hce, if_neg (by omega), if_neg hnz, if_neg (by omega), if_neg (by omega)]
              obtain ⟨zs, hzs⟩ : ∃ zs, sub b (48 + wd b 4) (48 + wd b 4 + padN (wd b 4)) = zs := ⟨_, rfl⟩
              have hzl : zs.length = padN (wd b 4) := by rw [← hzs, sub_length (by omega) (by omega)]; omega
              have hze : (b.drop (48 + wd b 4)).take (padN (wd b 4)) = zs := by rw [← hzs]; unfold sub; congr 1; omega
              rw [hze] at hg
              have hzr : RdB w0 (cutA A (48 + wd b 4) 1 cap) (cap - (48 + wd b 4)) zs := by rw [← hzs]; exact h.sub (by omega) (by omega)
              refine W.skip ?_
              refine WX.blockNormal ?_
              refine WX.next ?_
              refine W.seq ?_
              refine W.seq ?_
              refine W.region ?_
              refine WL.move rfl rfl ?_
              refine WL.move rfl rfl ?_
              refine WL.add rfl rfl (by first | exact wI64 (by omega) | rfl) rfl ?_
              refine WL.move rfl rfl ?_
              refine WL.cutLH (m' := (zs).length) Try.underlying25 Try.sizeOf5 rfl rfl rfl (by omega) (by omega) (by omega) (show (48 : Int) + (wd b 4 : Int) = ((48 + wd b 4 : Nat) : Int) by omega) (show (endM b : Int) = ((endM b : Nat) : Int) from rfl) (by omega) rfl ?_
              refine WL.len Try.underlying25 rfl rfl ?_
              refine WL.move rfl rfl ?_
              refine WL.nil ?_
              refine WX.next ?_
              refine W.sub [(0, _), (2, _), (5, _), (8, _), (9, _), (107, _), (108, _), (109, _)] (.cons rfl (.cons rfl (.cons rfl (.cons rfl (.cons rfl (.cons rfl (.cons rfl (.cons rfl .nil)))))))) ?_
              refine W.block ?_
              refine W.loop (ι := Nat) (fun k => [(0, .slice A b.length cap), (2, .pointer (some ⟨g0_0, 0, none⟩)), (5, .pointer (some ⟨gp, 0, none⟩)), (8, .int .i64 (wd b 4 : Int)), (9, .int .i64 (endM b : Int)), (107, .slice (cutA A (48 + wd b 4) 1 cap) zs.length (cap - (48 + wd b 4))), (108, .int .i64 (zs.length : Int)), (109, .int .i64 (k : Int))]) (fun zz w => Mem w0 w ((fun _ => [Asr.row gp 27 (PdX.cells ⟨(hdM b).op, (hdM b).now, (hdM b).flags, (hdM b).lun, (hdM b).tag, (hdM b).ws, ⟨none, 0, []⟩⟩), Asr.row g0_0 27 zeroP.cells]) zz) ∧ (fun k => k ≤ zs.length ∧ ∀ j, j < k → el zs j = 0) zz) (fun k => zs.length - k) (0) (by (repeat' (first | exact envSub.nil | refine envSub.cons ?_ ?_)) <;> first | rfl | (refine congrArg some ?_; refine congrArg (Value.int _) ?_; first | omega | (dsimp only; omega)) | (simp; done) | (refine congrArg some ?_; dsimp only; congr 1; omega) | (simp; omega)) ⟨M.sel (by first | ((repeat (first | with_reducible exact Sel.refl | with_reducible exact Sel.nil | with_reducible exact Del.here | with_reducible apply Del.there | with_reducible apply Sel.cons | with_reducible apply Sel.drop)); done) | (repeat (first | exact Sel.refl | exact Sel.nil | exact Del.here | apply Del.there | apply Sel.cons | apply Sel.drop))), ⟨Nat.zero_le _, fun j hj => absurd hj (Nat.not_lt_zero _)⟩⟩ ?_
              clear M; rintro (k) w ⟨M, ⟨hk, hkz⟩⟩; dsimp only at M hk hkz ⊢
              refine W.sub [(0, _), (2, _), (5, _), (8, _), (9, _), (107, _), (108, _), (109, _)] (.cons rfl (.cons rfl (.cons rfl (.cons rfl (.cons rfl (.cons rfl (.cons rfl (.cons rfl .nil)))))))) ?_
              refine W.seq ?_
              refine W.region ?_
              refine WL.lss rfl rfl rfl ?_
              refine WL.nil ?_
              refine WX.next ?_
              refine W.sub [(0, _), (2, _), (5, _), (8, _), (9, _), (107, _), (108, _), (109, _), (110, _)] (.cons rfl (.cons rfl (.cons rfl (.cons rfl (.cons rfl (.cons rfl (.cons rfl (.cons rfl (.cons rfl .nil))))))))) ?_
              refine W.seq ?_
              refine W.ite rfl (fun c10 => ?_) (fun c10 => ?_)
              · refine W.skip ?_
                refine WX.next ?_
                refine W.seq ?_
                refine W.block ?_
                refine W.seq ?_
                refine W.region ?_
                refine WL.idxA Try.underlying25 Try.sizeOf5 rfl rfl (RdB.isSome (by first | first | with_reducible assumption | with_reducible exact RdB.mem (by with_reducible assumption) M | exact M.rdB (by first | ((repeat (first | with_reducible exact Has.here | with_reducible refine Has.there ?_)); done) | (repeat (first | exact Has.here | refine Has.there ?_))) | exact RdH.at (by assumption) (M.sel (by first | ((repeat (first | with_reducible exact Sel.refl | with_reducible exact Sel.nil | with_reducible exact Del.here | with_reducible apply Del.there | with_reducible apply Sel.cons | with_reducible apply Sel.drop)); done) | (repeat (first | exact Sel.refl | exact Sel.nil | exact Del.here | apply Del.there | apply Sel.cons | apply Sel.drop)))) | exact M.rdLit' (by first | ((repeat (first | with_reducible exact Has.here | with_reducible refine Has.there ?_)); done) | (repeat (first | exact Has.here | refine Has.there ?_))) | exact M.rdLent (by first | ((repeat (first | with_reducible exact Has.here | with_reducible refine Has.there ?_)); done) | (repeat (first | exact Has.here | refine Has.there ?_))) | exact RdB.nil _ _ | exact RdB.sub (by first | with_reducible assumption | with_reducible exact RdB.mem (by with_reducible assumption) M | exact M.rdB (by first | ((repeat (first | with_reducible exact Has.here | with_reducible refine Has.there ?_)); done) | (repeat (first | exact Has.here | refine Has.there ?_))) | exact RdH.at (by assumption) (M.sel (by first | ((repeat (first | with_reducible exact Sel.refl | with_reducible exact Sel.nil | with_reducible exact Del.here | with_reducible apply Del.there | with_reducible apply Sel.cons | with_reducible apply Sel.drop)); done) | (repeat (first | exact Sel.refl | exact Sel.nil | exact Del.here | apply Del.there | apply Sel.cons | apply Sel.drop)))) | exact M.rdLit' (by first | ((repeat (first | with_reducible exact Has.here | with_reducible refine Has.there ?_)); done) | (repeat (first | exact Has.here | refine Has.there ?_))) | exact M.rdLent (by first | ((repeat (first | with_reducible exact Has.here | with_reducible refine Has.there ?_)); done) | (repeat (first | exact Has.here | refine Has.there ?_))) | exact RdB.nil _ _) (by omega) (by omega) | exact RdB.pre' (by first | with_reducible assumption | with_reducible exact RdB.mem (by with_reducible assumption) M | exact M.rdB (by first | ((repeat (first | with_reducible exact Has.here | with_reducible refine Has.there ?_)); done) | (repeat (first | exact Has.here | refine Has.there ?_))) | exact RdH.at (by assumption) (M.sel (by first | ((repeat (first | with_reducible exact Sel.refl | with_reducible exact Sel.nil | with_reducible exact Del.here | with_reducible apply Del.there | with_reducible apply Sel.cons | with_reducible apply Sel.drop)); done) | (repeat (first | exact Sel.refl | exact Sel.nil | exact Del.here | apply Del.there | apply Sel.cons | apply Sel.drop)))) | exact M.rdLit' (by first | ((repeat (first | with_reducible exact Has.here | with_reducible refine Has.there ?_)); done) | (repeat (first | exact Has.here | refine Has.there ?_))) | exact M.rdLent (by first | ((repeat (first | with_reducible exact Has.here | with_reducible refine Has.there ?_)); done) | (repeat (first | exact Has.here | refine Has.there ?_))) | exact RdB.nil _ _) (by omega) | exact RdB.suf (by first | with_reducible assumption | with_reducible exact RdB.mem (by with_reducible assumption) M | exact M.rdB (by first | ((repeat (first | with_reducible exact Has.here | with_reducible refine Has.there ?_)); done) | (repeat (first | exact Has.here | refine Has.there ?_))) | exact RdH.at (by assumption) (M.sel (by first | ((repeat (first | with_reducible exact Sel.refl | with_reducible exact Sel.nil | with_reducible exact Del.here | with_reducible apply Del.there | with_reducible apply Sel.cons | with_reducible apply Sel.drop)); done) | (repeat (first | exact Sel.refl | exact Sel.nil | exact Del.here | apply Del.there | apply Sel.cons | apply Sel.drop)))) | exact M.rdLit' (by first | ((repeat (first | with_reducible exact Has.here | with_reducible refine Has.there ?_)); done) | (repeat (first | exact Has.here | refine Has.there ?_))) | exact M.rdLent (by first | ((repeat (first | with_reducible exact Has.here | with_reducible refine Has.there ?_)); done) | (repeat (first | exact Has.here | refine Has.there ?_))) | exact RdB.nil _ _) (by omega)) (by omega)) (by omega) (by omega) (by first | exact rfl | exact (Int.toNat_of_nonneg (by omega)).symm) rfl ?_
                refine WL.loadB Try.isAgg5 rfl (by first | first | with_reducible assumption | with_reducible exact RdB.mem (by with_reducible assumption) M | exact M.rdB (by first | ((repeat (first | with_reducible exact Has.here | with_reducible refine Has.there ?_)); done) | (repeat (first | exact Has.here | refine Has.there ?_))) | exact RdH.at (by assumption) (M.sel (by first | ((repeat (first | with_reducible exact Sel.refl | with_reducible exact Sel.nil | with_reducible exact Del.here | with_reducible apply Del.there | with_reducible apply Sel.cons | with_reducible apply Sel.drop)); done) | (repeat (first | exact Sel.refl | exact Sel.nil | exact Del.here | apply Del.there | apply Sel.cons | apply Sel.drop)))) | exact M.rdLit' (by first | ((repeat (first | with_reducible exact Has.here | with_reducible refine Has.there ?_)); done) | (repeat (first | exact Has.here | refine Has.there ?_))) | exact M.rdLent (by first | ((repeat (first | with_reducible exact Has.here | with_reducible refine Has.there ?_)); done) | (repeat (first | exact Has.here | refine Has.there ?_))) | exact RdB.nil _ _ | exact RdB.sub (by first | with_reducible assumption | with_reducible exact RdB.mem (by with_reducible assumption) M | exact M.rdB (by first | ((repeat (first | with_reducible exact Has.here | with_reducible refine Has.there ?_)); done) | (repeat (first | exact Has.here | refine Has.there ?_))) | exact RdH.at (by assumption) (M.sel (by first | ((repeat (first | with_reducible exact Sel.refl | with_reducible exact Sel.nil | with_reducible exact Del.here | with_reducible apply Del.there | with_reducible apply Sel.cons | with_reducible apply Sel.drop)); done) | (repeat (first | exact Sel.refl | exact Sel.nil | exact Del.here | apply Del.there | apply Sel.cons | apply Sel.drop)))) | exact M.rdLit' (by first | ((repeat (first | with_reducible exact Has.here | with_reducible refine Has.there ?_)); done) | (repeat (first | exact Has.here | refine Has.there ?_))) | exact M.rdLent (by first | ((repeat (first | with_reducible exact Has.here | with_reducible refine Has.there ?_)); done) | (repeat (first | exact Has.here | refine Has.there ?_))) | exact RdB.nil _ _) (by omega) (by omega) | exact RdB.pre' (by first | with_reducible assumption | with_reducible exact RdB.mem (by with_reducible assumption) M | exact M.rdB (by first | ((repeat (first | with_reducible exact Has.here | with_reducible refine Has.there ?_)); done) | (repeat (first | exact Has.here | refine Has.there ?_))) | exact RdH.at (by assumption) (M.sel (by first | ((repeat (first | with_reducible exact Sel.refl | with_reducible exact Sel.nil | with_reducible exact Del.here | with_reducible apply Del.there | with_reducible apply Sel.cons | with_reducible apply Sel.drop)); done) | (repeat (first | exact Sel.refl | exact Sel.nil | exact Del.here | apply Del.there | apply Sel.cons | apply Sel.drop)))) | exact M.rdLit' (by first | ((repeat (first | with_reducible exact Has.here | with_reducible refine Has.there ?_)); done) | (repeat (first | exact Has.here | refine Has.there ?_))) | exact M.rdLent (by first | ((repeat (first | with_reducible exact Has.here | with_reducible refine Has.there ?_)); done) | (repeat (first | exact Has.here | refine Has.there ?_))) | exact RdB.nil _ _) (by omega) | exact RdB.suf (by first | with_reducible assumption | with_reducible exact RdB.mem (by with_reducible assumption) M | exact M.rdB (by first | ((repeat (first | with_reducible exact Has.here | with_reducible refine Has.there ?_)); done) | (repeat (first | exact Has.here | refine Has.there ?_))) | exact RdH.at (by assumption) (M.sel (by first | ((repeat (first | with_reducible exact Sel.refl | with_reducible exact Sel.nil | with_reducible exact Del.here | with_reducible apply Del.there | with_reducible apply Sel.cons | with_reducible apply Sel.drop)); done) | (repeat (first | exact Sel.refl | exact Sel.nil | exact Del.here | apply Del.there | apply Sel.cons | apply Sel.drop)))) | exact M.rdLit' (by first | ((repeat (first | with_reducible exact Has.here | with_reducible refine Has.there ?_)); done) | (repeat (first | exact Has.here | refine Has.there ?_))) | exact M.rdLent (by first | ((repeat (first | with_reducible exact Has.here | with_reducible refine Has.there ?_)); done) | (repeat (first | exact Has.here | refine Has.there ?_))) | exact RdB.nil _ _) (by omega)) (by omega) rfl ?_
                refine WL.assign rfl rfl ?_
                refine WL.nil ?_
                refine WX.next ?_
                refine W.sub [(0, _), (2, _), (5, _), (8, _), (9, _), (11, _), (107, _), (108, _), (109, _)] (.cons rfl (.cons rfl (.cons rfl (.cons rfl (.cons rfl (.cons rfl (.cons rfl (.cons rfl (.cons rfl .nil))))))))) ?_
                refine W.seq ?_
                refine W.region ?_
                refine WL.move rfl rfl ?_
                refine WL.neI rfl rfl rfl ?_
                refine WL.nil ?_
                refine WX.next ?_
                refine W.sub [(0, _), (2, _), (5, _), (8, _), (9, _), (107, _), (108, _), (109, _), (114, _)] (.cons rfl (.cons rfl (.cons rfl (.cons rfl (.cons rfl (.cons rfl (.cons rfl (.cons rfl (.cons rfl .nil))))))))) ?_
                refine W.ite rfl (fun c11 => ?_) (fun c11 => ?_)
                · refine W.seq ?_
                  refine W.region ?_
                  refine WL.buildP (places := #[(0, 1), (1, 1), (2, 1), (3, 1), (4, 1), (5, 7), (12, 1)]) Try.underlying27 Try.zeroValue27 (fun _ => by simp [Try.sizeOf3, Try.sizeOf4, Try.sizeOf5, Try.sizeOf22, Try.sizeOf23, Try.sizeOf24, Try.sizeOf25]) rfl (by repeat (first | exact Puts.nil | exact SetAt.zero | apply SetAt.succ | apply Puts.cons rfl rfl)) rfl ?_
                  refine WL.storeWA Try.sizeOf27 rfl rfl (by repeat (first | exact oneNil | refine oneCons rfl ?_)) rfl rfl M (by first | ((repeat (first | with_reducible exact Upd.here | with_reducible apply Upd.there)); done) | (repeat (first | exact Upd.here | apply Upd.there))) ?_
                  intro w M
                  refine WL.assign rfl rfl ?_
                  refine WL.assign rfl rfl ?_
                  refine WL.nil ?_
                  refine WX.next ?_
                  refine W.sub [(2, _), (3, _), (4, _)] (.cons rfl (.cons rfl (.cons rfl .nil))) ?_
                  refine W.ret ?_
                  refine WX.blockRet ?_
                  refine WX.thenRet ?_
                  refine WX.thenRet ?_
                  refine WX.blockRet ?_
                  refine WX.thenRet ?_
                  refine WX.retC3 (cs := [_, _, _, _, _, _, _, _, _, _, _, _, _]) rfl rfl rfl rfl Try.isAgg27 (by exact Try.sizeOf27) (M.cellsH (by first | ((repeat (first | with_reducible exact Has.here | with_reducible refine Has.there ?_)); done) | (repeat (first | exact Has.here | refine Has.there ?_)))) ?_
                  have hkl : k < zs.length := by omega
                  have hna : ¬ (zs.all (· == 0) = true) := fun ha => by
                    have h1 := (List.all_eq_true.1 ha) _ (el_mem hkl)
                    have h2 : el zs k = 0 := eq_of_beq h1
                    rw [h2] at c11
                    exact absurd c11 (by decide)
                  exact bad 11 _ _ M (by decide) (by rw [hg, if_neg hna])
                · refine W.skip ?_
                  refine WX.blockNormal ?_
                  refine WX.next ?_
                  refine W.region ?_
                  refine WL.add rfl rfl (by first | exact wI64 (by omega) | rfl) rfl ?_
                  refine WL.move rfl rfl ?_
                  refine WL.nil ?_
                  skip
                  have hkz2 : ∀ j, j < k + 1 → el zs j = 0 := fun j hj => by
                    rcases Nat.lt_or_ge j k with h | h
                    · exact hkz j h
                    · obtain rfl : j = k := by omega
                      exact u8_zero (by omega)
                  refine WX.round (k + 1) (by (repeat' (first | exact envSub.nil | refine envSub.cons ?_ ?_)) <;> first | rfl | (refine congrArg some ?_; refine congrArg (Value.int _) ?_; first | omega | (dsimp only; omega)) | (simp; done) | (refine congrArg some ?_; dsimp only; congr 1; omega) | (simp; omega)) ⟨M.sel (by first | ((repeat (first | with_reducible exact Sel.refl | with_reducible exact Sel.nil | with_reducible exact Del.here | with_reducible apply Del.there | with_reducible apply Sel.cons | with_reducible apply Sel.drop)); done) | (repeat (first | exact Sel.refl | exact Sel.nil | exact Del.here | apply Del.there | apply Sel.cons | apply Sel.drop))), ⟨by omega, hkz2⟩⟩ (by first | omega | (dsimp only; omega))
              · refine W.exit ?_
                refine WX.thenExit ?_
                refine WX.thenExit ?_
                refine WX.blockHere ?_
                refine WX.next ?_
                refine W.seq ?_
                obtain rfl : k = zs.length := by omega
                have hg0 : getE b = 0 := by
                  rw [hg, if_pos]
                  rw [List.all_eq_true]
                  intro y hy
                  obtain ⟨j, hj, rfl⟩ := List.getElem_of_mem hy
                  have := hkz j hj
                  rw [show el zs j = zs[j] by simp [el, hj]] at this
                  rw [this]
                  rfl
                have hdl : (hdM b).l = sub b 48 (48 + wd b 4) := by unfold hdM sub; dsimp only; congr 1; omega
                refine W.region ?_
                refine WL.buildB (es := []) Try.elem5 M rfl rfl (by exact BytesOf.nil) (by rfl) rfl rfl ?_
                intro g26_0 w M
                refine WL.move rfl rfl ?_
                refine WL.move rfl rfl ?_
                refine WL.add rfl rfl (by first | exact wI64 (by omega) | rfl) rfl ?_
                refine WL.cutLH (m' := (sub b 48 (48 + wd b 4)).length) Try.underlying25 Try.sizeOf5 rfl rfl rfl (by omega) (by omega) (by omega) (show (48 : Int) = ((48 : Nat) : Int) from rfl) (show (48 : Int) + (wd b 4 : Int) = ((48 + wd b 4 : Nat) : Int) by omega) (by first | (rw [sub_length (by omega) (by omega)]) | (simp only [List.length_drop] <;> omega) | (simp only [List.length_take] <;> omega) | (simp only [List.length_take, List.length_drop] <;> omega) | (simp; done) | (simp; omega)) rfl ?_
                refine WL.appendBN Try.elem5 rfl rfl M (by first | ((repeat (first | with_reducible exact Del.here | with_reducible apply Del.there)); done) | (repeat (first | exact Del.here | apply Del.there))) ((h.mem M).sub (by omega) (by omega)) rfl rfl (by rw [sub_length (by omega) (by omega)]; omega) rfl ?_
                intro A26_5 cap26_5 w M
                refine WL.fieldR (off := 12) Try.underlying27 rfl rfl Try.sizeOf25 rfl rfl rfl ?_
                refine WL.storeR Try.sizeOf25 rfl rfl rfl M (by first | ((repeat (first | with_reducible exact Has.here | with_reducible refine Has.there ?_)); done) | (repeat (first | exact Has.here | refine Has.there ?_))) (by repeat (first | exact SetAt.zero | apply SetAt.succ)) (by first | ((repeat (first | with_reducible exact Upd.here | with_reducible apply Upd.there)); done) | (repeat (first | exact Upd.here | apply Upd.there))) ?_
                intro w M
                refine WL.nil ?_
                refine WX.next ?_
                refine W.sub [(2, _), (5, _), (9, _)] (.cons rfl (.cons rfl (.cons rfl .nil))) ?_
                refine W.seq ?_
                refine W.region ?_
                refine WL.loadW Try.isAgg27 Try.sizeOf27 rfl M (by first | ((repeat (first | with_reducible exact Has.here | with_reducible refine Has.there ?_)); done) | (repeat (first | exact Has.here | refine Has.there ?_))) rfl rfl ?_
                refine WL.move rfl rfl ?_
                refine WL.storeWA Try.sizeOf27 rfl rfl (by repeat (first | exact oneNil | refine oneCons rfl ?_)) rfl rfl M (by first | ((repeat (first | with_reducible exact Upd.here | with_reducible apply Upd.there)); done) | (repeat (first | exact Upd.here | apply Upd.there))) ?_
                intro w M
                refine WL.assign rfl rfl ?_
                refine WL.assign rfl rfl ?_
                refine WL.nil ?_
                refine WX.next ?_
                refine W.sub [(2, _), (3, _), (4, _)] (.cons rfl (.cons rfl (.cons rfl .nil))) ?_
                refine W.ret ?_
                refine WX.retC3 (cs := [_, _, _, _, _, _, _, _, _, _, _, _, _]) rfl rfl rfl rfl Try.isAgg27 (by exact Try.sizeOf27) (M.cellsH (by first | ((repeat (first | with_reducible exact Has.here | with_reducible refine Has.there ?_)); done) | (repeat (first | exact Has.here | refine Has.there ?_)))) ?_
                refine ⟨⟨(hdM b).op, (hdM b).now, (hdM b).flags, (hdM b).lun, (hdM b).tag, (hdM b).ws, ⟨A26_5, cap26_5, sub b 48 (48 + wd b 4)⟩⟩, by rw [hg0, if_pos rfl]; rfl, M.sel (by first | ((repeat (first | with_reducible exact Sel.refl | with_reducible exact Sel.nil | with_reducible exact Del.here | with_reducible apply Del.there | with_reducible apply Sel.cons | with_reducible apply Sel.drop)); done) | (repeat (first | exact Sel.refl | exact Sel.nil | exact Del.here | apply Del.there | apply Sel.cons | apply Sel.drop))), fun _ => ?_, fun h => absurd hg0 h⟩
                unfold PdX.m
                dsimp only
                rw [← hdl]
end Go.Proofs.Ytinbcidgdbmcjaa
