/-
  Walks: numbers of the document (seawallref19); may a message be (seawallref20).
-/
import Derived.Test.YtinbcidgdbmcjaaPduIn
namespace Go.Proofs.Ytinbcidgdbmcjaa
open Go Go.RowKit Bin

def nbAt (n size j : Nat) : UInt8 := UInt8.ofNat (n / 256 ^ (size - 1 - j) % 256)
/-- A number in so many bytes. -/
def nb (n size : Nat) : List UInt8 := (List.range size).map (nbAt n size)
theorem nb_length (n size : Nat) : (nb n size).length = size := by simp [nb]
theorem nb3 {n : Nat} (h : n < 16777216) : (0 : UInt8) :: nb n 3 = fixed n := by
  show [(0 : UInt8), UInt8.ofNat (n / 65536 % 256), UInt8.ofNat (n / 256 % 256), UInt8.ofNat (n / 1 % 256)] = fixed n
  unfold fixed
  rw [show n / 16777216 % 256 = 0 by omega, Nat.div_one]
  rfl
theorem nb4 (n : Nat) : nb n 4 = fixed n := by
  show [UInt8.ofNat (n / 16777216 % 256), UInt8.ofNat (n / 65536 % 256), UInt8.ofNat (n / 256 % 256), UInt8.ofNat (n / 1 % 256)] = fixed n
  rw [Nat.div_one]
  rfl
theorem nb8 (n : Nat) : nb n 8 = fixed (n / 4294967296) ++ fixed (n % 4294967296) := by
  show [UInt8.ofNat (n / 72057594037927936 % 256), UInt8.ofNat (n / 281474976710656 % 256), UInt8.ofNat (n / 1099511627776 % 256), UInt8.ofNat (n / 4294967296 % 256), UInt8.ofNat (n / 16777216 % 256), UInt8.ofNat (n / 65536 % 256), UInt8.ofNat (n / 256 % 256), UInt8.ofNat (n / 1 % 256)] = _
  show _ = [UInt8.ofNat (n / 4294967296 / 16777216 % 256), UInt8.ofNat (n / 4294967296 / 65536 % 256), UInt8.ofNat (n / 4294967296 / 256 % 256), UInt8.ofNat (n / 4294967296 % 256), UInt8.ofNat (n % 4294967296 / 16777216 % 256), UInt8.ofNat (n % 4294967296 / 65536 % 256), UInt8.ofNat (n % 4294967296 / 256 % 256), UInt8.ofNat (n % 4294967296 % 256)]
  rw [Nat.div_one, show n / 4294967296 / 16777216 = n / 72057594037927936 by omega, show n / 4294967296 / 65536 = n / 281474976710656 by omega, show n / 4294967296 / 256 = n / 1099511627776 by omega,
    show n % 4294967296 / 16777216 % 256 = n / 16777216 % 256 by omega, show n % 4294967296 / 65536 % 256 = n / 65536 % 256 by omega, show n % 4294967296 / 256 % 256 = n / 256 % 256 by omega, show n % 4294967296 % 256 = n % 256 by omega]
theorem rng1 (m : Nat) : BytesOf [((m : Nat) : Int) % 256] [UInt8.ofNat (m % 256)] := .lit (by rw [UInt8.toNat_ofNat']; omega) .nil
theorem shr8 (n k : Nat) : (n : Int) / 2 ^ (8 * k) = ((n / 256 ^ k : Nat) : Int) := by
  rw [show (256 : Nat) = 2 ^ 8 from rfl, ← Nat.pow_mul]
  push_cast
  rfl
theorem refPut19_ok (n size : Nat) {z : Int} (hz : z = (size : Int)) (hn : n < 18446744073709551616) (hs : size ≤ 8) (w0 : World) : Fn Try.prog 37 [.int .u64 (n : Int), .int .i64 z] w0 fun v w' => ∃ x : OX, v = x.v ∧ x.l = nb n size ∧ Mem w0 w' [x.O] := by
  subst hz
  have M := Mem.refl w0
  obtain ⟨w, hw⟩ : ∃ w, w = w0 := ⟨w0, rfl⟩
  refine Fn.enter Try.func37 rfl Try.ntmps37 rfl ?_
  refine W.sub [(0, _), (1, _)] (.cons rfl (.cons rfl .nil)) ?_
  refine W.seq ?_
  refine W.region ?_
  refine WL.assign rfl rfl ?_
  refine WL.nil ?_
  refine WX.next ?_
  refine W.sub [(0, _), (1, _)] (.cons rfl (.cons rfl .nil)) ?_
  refine W.seq ?_
  refine W.region ?_
  refine WL.assign rfl rfl ?_
  refine WL.nil ?_
  refine WX.next ?_
  refine W.sub [(0, _), (1, _), (5, _)] (.cons rfl (.cons rfl (.cons rfl .nil))) ?_
  refine W.seq ?_
  refine W.seq ?_
  have M2 : Mem w0 _ (Asr.own 5 1 none 0 0 (bs []) :: _) := M.nilOwn 5 1
  replace M := M2
  refine W.region ?_
  refine WL.move rfl rfl ?_
  refine WL.sub' rfl rfl (by first | exact wI64 (by omega) | rfl) rfl ?_
  refine WL.assign rfl rfl ?_
  refine WL.nil ?_
  refine WX.next ?_
  refine W.sub [(0, _), (5, _), (6, _)] (.cons rfl (.cons rfl (.cons rfl .nil))) ?_
  refine W.block ?_
  refine W.loop (ι := Nat × OX) (fun z => [(0, .int .u64 (n : Int)), (5, .slice z.2.A z.2.l.length z.2.cap), (6, .int .i64 ((size : Int) - 1 - (z.1 : Int)))]) (fun zz w => Mem w0 w ((fun z => [Asr.own 5 1 z.2.A z.2.l.length z.2.cap (bs z.2.l)]) zz) ∧ (fun z => z.1 ≤ size ∧ z.2.l = (List.range z.1).map (nbAt n size)) zz) (fun z => size - z.1) ((0, ⟨none, 0, []⟩)) (by (repeat' (first | exact envSub.nil | refine envSub.cons ?_ ?_)) <;> first | rfl | (refine congrArg some ?_; refine congrArg (Value.int _) ?_; first | omega | (dsimp only; omega)) | (simp; done) | (refine congrArg some ?_; dsimp only; congr 1; omega) | (simp; omega)) ⟨M.sel (by first | ((repeat (first | with_reducible exact Sel.refl | with_reducible exact Sel.nil | with_reducible exact Del.here | with_reducible apply Del.there | with_reducible apply Sel.cons | with_reducible apply Sel.drop)); done) | (repeat (first | exact Sel.refl | exact Sel.nil | exact Del.here | apply Del.there | apply Sel.cons | apply Sel.drop))), ⟨Nat.zero_le _, rfl⟩⟩ ?_
  clear M; rintro (⟨k, ⟨B, cB, m⟩⟩) w ⟨M, ⟨hk, hm⟩⟩; dsimp only at M hk hm ⊢
  refine W.sub [(0, _), (5, _), (6, _)] (.cons rfl (.cons rfl (.cons rfl .nil))) ?_
  refine W.seq ?_
  refine W.seq ?_
  refine W.region ?_
  refine WL.move rfl rfl ?_
  refine WL.geq rfl rfl rfl ?_
  refine WL.nil ?_
  refine WX.next ?_
  refine W.sub [(0, _), (5, _), (6, _), (10, _)] (.cons rfl (.cons rfl (.cons rfl (.cons rfl .nil)))) ?_
  refine W.ite rfl (fun c0 => ?_) (fun c0 => ?_)
  · have hks : k < size := by omega
    have hml : m.length = k := by rw [hm]; simp
    refine W.skip ?_
    refine WX.next ?_
    refine W.seq ?_
    refine W.block ?_
    refine W.region ?_
    refine WL.move rfl rfl ?_
    refine WL.move rfl rfl ?_
    refine WL.move rfl rfl ?_
    refine WL.mul rfl rfl (by first | exact wI64 (by omega) | rfl) rfl ?_
    refine WL.conv Try.underlying3 Try.underlying78 rfl (by first | exact wU64 (by omega) | exact mU64 _ | rfl) rfl ?_
    refine WL.shr rfl rfl (by omega) (by show _ ≤ (64 : Int); omega) (show (n : Int) / 2 ^ (8 * ((size : Int) - 1 - (k : Int))).toNat = ((n / 256 ^ (size - 1 - k) : Nat) : Int) by rw [show (8 * ((size : Int) - 1 - (k : Int))).toNat = 8 * (size - 1 - k) by omega]; exact shr8 n _) rfl ?_
    refine WL.conv Try.underlying22 Try.underlying5 rfl (mU8 _) rfl ?_
    refine WL.buildB (es := [_]) Try.elem5 M rfl rfl (rng1 (n / 256 ^ (size - 1 - k))) (by rfl) rfl rfl ?_
    intro g5_7 w M
    refine WL.appendBH Try.elem5 rfl rfl M (by first | ((repeat (first | with_reducible exact Del.here | with_reducible apply Del.there)); done) | (repeat (first | exact Del.here | apply Del.there))) (by first | first | with_reducible assumption | with_reducible exact RdB.mem (by with_reducible assumption) M | exact M.rdB (by first | ((repeat (first | with_reducible exact Has.here | with_reducible refine Has.there ?_)); done) | (repeat (first | exact Has.here | refine Has.there ?_))) | exact RdH.at (by assumption) (M.sel (by first | ((repeat (first | with_reducible exact Sel.refl | with_reducible exact Sel.nil | with_reducible exact Del.here | with_reducible apply Del.there | with_reducible apply Sel.cons | with_reducible apply Sel.drop)); done) | (repeat (first | exact Sel.refl | exact Sel.nil | exact Del.here | apply Del.there | apply Sel.cons | apply Sel.drop)))) | exact M.rdLit' (by first | ((repeat (first | with_reducible exact Has.here | with_reducible refine Has.there ?_)); done) | (repeat (first | exact Has.here | refine Has.there ?_))) | exact M.rdLent (by first | ((repeat (first | with_reducible exact Has.here | with_reducible refine Has.there ?_)); done) | (repeat (first | exact Has.here | refine Has.there ?_))) | exact RdB.nil _ _ | exact RdB.sub (by first | with_reducible assumption | with_reducible exact RdB.mem (by with_reducible assumption) M | exact M.rdB (by first | ((repeat (first | with_reducible exact Has.here | with_reducible refine Has.there ?_)); done) | (repeat (first | exact Has.here | refine Has.there ?_))) | exact RdH.at (by assumption) (M.sel (by first | ((repeat (first | with_reducible exact Sel.refl | with_reducible exact Sel.nil | with_reducible exact Del.here | with_reducible apply Del.there | with_reducible apply Sel.cons | with_reducible apply Sel.drop)); done) | (repeat (first | exact Sel.refl | exact Sel.nil | exact Del.here | apply Del.there | apply Sel.cons | apply Sel.drop)))) | exact M.rdLit' (by first | ((repeat (first | with_reducible exact Has.here | with_reducible refine Has.there ?_)); done) | (repeat (first | exact Has.here | refine Has.there ?_))) | exact M.rdLent (by first | ((repeat (first | with_reducible exact Has.here | with_reducible refine Has.there ?_)); done) | (repeat (first | exact Has.here | refine Has.there ?_))) | exact RdB.nil _ _) (by omega) (by omega) | exact RdB.pre' (by first | with_reducible assumption | with_reducible exact RdB.mem (by with_reducible assumption) M | exact M.rdB (by first | ((repeat (first | with_reducible exact Has.here | with_reducible refine Has.there ?_)); done) | (repeat (first | exact Has.here | refine Has.there ?_))) | exact RdH.at (by assumption) (M.sel (by first | ((repeat (first | with_reducible exact Sel.refl | with_reducible exact Sel.nil | with_reducible exact Del.here | with_reducible apply Del.there | with_reducible apply Sel.cons | with_reducible apply Sel.drop)); done) | (repeat (first | exact Sel.refl | exact Sel.nil | exact Del.here | apply Del.there | apply Sel.cons | apply Sel.drop)))) | exact M.rdLit' (by first | ((repeat (first | with_reducible exact Has.here | with_reducible refine Has.there ?_)); done) | (repeat (first | exact Has.here | refine Has.there ?_))) | exact M.rdLent (by first | ((repeat (first | with_reducible exact Has.here | with_reducible refine Has.there ?_)); done) | (repeat (first | exact Has.here | refine Has.there ?_))) | exact RdB.nil _ _) (by omega) | exact RdB.suf (by first | with_reducible assumption | with_reducible exact RdB.mem (by with_reducible assumption) M | exact M.rdB (by first | ((repeat (first | with_reducible exact Has.here | with_reducible refine Has.there ?_)); done) | (repeat (first | exact Has.here | refine Has.there ?_))) | exact RdH.at (by assumption) (M.sel (by first | ((repeat (first | with_reducible exact Sel.refl | with_reducible exact Sel.nil | with_reducible exact Del.here | with_reducible apply Del.there | with_reducible apply Sel.cons | with_reducible apply Sel.drop)); done) | (repeat (first | exact Sel.refl | exact Sel.nil | exact Del.here | apply Del.there | apply Sel.cons | apply Sel.drop)))) | exact M.rdLit' (by first | ((repeat (first | with_reducible exact Has.here | with_reducible refine Has.there ?_)); done) | (repeat (first | exact Has.here | refine Has.there ?_))) | exact M.rdLent (by first | ((repeat (first | with_reducible exact Has.here | with_reducible refine Has.there ?_)); done) | (repeat (first | exact Has.here | refine Has.there ?_))) | exact RdB.nil _ _) (by omega)) rfl rfl (by simp; omega) rfl ?_
    intro A5_8 cap5_8 w M
    refine WL.assign rfl rfl ?_
    refine WL.nil ?_
    refine WX.blockNormal ?_
    refine WX.next ?_
    refine W.sub [(0, _), (5, _), (6, _)] (.cons rfl (.cons rfl (.cons rfl .nil))) ?_
    refine W.region ?_
    refine WL.move rfl rfl ?_
    refine WL.sub' rfl rfl (by first | exact wI64 (by omega) | rfl) rfl ?_
    refine WL.assign rfl rfl ?_
    refine WL.nil ?_
    skip
    have q : m ++ [UInt8.ofNat (n / 256 ^ (size - 1 - k) % 256)] = (List.range (k + 1)).map (nbAt n size) := by
      rw [List.range_succ, List.map_append, ← hm]
      rfl
    refine WX.round ((k + 1, ⟨A5_8, cap5_8, m ++ [UInt8.ofNat (n / 256 ^ (size - 1 - k) % 256)]⟩)) (by (repeat' (first | exact envSub.nil | refine envSub.cons ?_ ?_)) <;> first | rfl | (refine congrArg some ?_; refine congrArg (Value.int _) ?_; first | omega | (dsimp only; omega)) | (simp; done) | (refine congrArg some ?_; dsimp only; congr 1; omega) | (simp; omega)) ⟨M.sel (by first | ((repeat (first | with_reducible exact Sel.refl | with_reducible exact Sel.nil | with_reducible exact Del.here | with_reducible apply Del.there | with_reducible apply Sel.cons | with_reducible apply Sel.drop)); done) | (repeat (first | exact Sel.refl | exact Sel.nil | exact Del.here | apply Del.there | apply Sel.cons | apply Sel.drop))), ⟨by dsimp only; omega, q⟩⟩ (by first | omega | (dsimp only; omega))
  · refine W.exit ?_
    refine WX.thenExit ?_
    refine WX.thenExit ?_
    refine WX.blockHere ?_
    refine WX.next ?_
    refine W.seq ?_
    refine W.region ?_
    refine WL.move rfl rfl ?_
    refine WL.assign rfl rfl ?_
    refine WL.nil ?_
    refine WX.next ?_
    refine W.sub [(4, _)] (.cons rfl .nil) ?_
    refine W.ret ?_
    refine WX.ret1 rfl rfl ?_
    obtain rfl : k = size := by omega
    exact ⟨⟨B, cB, m⟩, rfl, hm, M.sel (by first | ((repeat (first | with_reducible exact Sel.refl | with_reducible exact Sel.nil | with_reducible exact Del.here | with_reducible apply Del.there | with_reducible apply Sel.cons | with_reducible apply Sel.drop)); done) | (repeat (first | exact Sel.refl | exact Sel.nil | exact Del.here | apply Del.there | apply Sel.cons | apply Sel.drop)))⟩
/-- The number of bytes. -/
def num (l : List UInt8) : Nat := l.foldl (fun n c => n * 256 + c.toNat) 0
theorem num_snoc (l : List UInt8) (c : UInt8) : num (l ++ [c]) = num l * 256 + c.toNat := by unfold num; rw [List.foldl_append]; rfl
theorem take_snocB {l : List UInt8} {i : Nat} (h : i < l.length) : l.take (i + 1) = l.take i ++ [el l i] := by
  have e : el l i = l[i] := by simp [el, h]
  rw [e, List.take_succ_eq_append_getElem h]
theorem num_take_lt (l : List UInt8) : ∀ (i : Nat), i ≤ l.length → num (l.take i) < 256 ^ i
  | 0, _ => by simp [num]
  | i + 1, h => by
    have ih := num_take_lt l i (by omega)
    have hc := UInt8.toNat_lt (el l i)
    rw [take_snocB (by omega), num_snoc, Nat.pow_succ]
    omega
theorem num_lt (l : List UInt8) : num l < 256 ^ l.length := by
  have := num_take_lt l l.length (Nat.le_refl _)
  rwa [List.take_length] at this
theorem pow256 {i : Nat} (h : i < 8) : 256 ^ i * 256 ≤ 18446744073709551616 := by
  match i, h with
  | 0, _ => decide
  | 1, _ => decide
  | 2, _ => decide
  | 3, _ => decide
  | 4, _ => decide
  | 5, _ => decide
  | 6, _ => decide
  | 7, _ => decide
theorem refGet19_ok {A : Option Addr} {cap : Nat} {l : List UInt8} (hl : l.length ≤ 8) {w0 : World} (h : RdB w0 A cap l) : Fn Try.prog 24 [.slice A l.length cap] w0 fun v w' => v = .int .u64 (num l : Int) ∧ Mem w0 w' [] := by
  have M := Mem.refl w0
  obtain ⟨w, hw⟩ : ∃ w, w = w0 := ⟨w0, rfl⟩
  refine Fn.enter Try.func24 rfl Try.ntmps24 rfl ?_
  refine W.sub [(0, _)] (.cons rfl .nil) ?_
  refine W.seq ?_
  refine W.region ?_
  refine WL.assign rfl rfl ?_
  refine WL.nil ?_
  refine WX.next ?_
  refine W.sub [(0, _)] (.cons rfl .nil) ?_
  refine W.seq ?_
  refine W.region ?_
  refine WL.assign rfl rfl ?_
  refine WL.nil ?_
  refine WX.next ?_
  refine W.sub [(0, _), (3, _)] (.cons rfl (.cons rfl .nil)) ?_
  refine W.seq ?_
  refine W.seq ?_
  refine W.region ?_
  refine WL.assign rfl rfl ?_
  refine WL.nil ?_
  refine WX.next ?_
  refine W.sub [(0, _), (3, _), (4, _)] (.cons rfl (.cons rfl (.cons rfl .nil))) ?_
  refine W.block ?_
  refine W.loop (ι := Nat) (fun i => [(0, .slice A l.length cap), (3, .int .u64 (num (l.take i) : Int)), (4, .int .i64 (i : Int))]) (fun zz w => Mem w0 w ((fun _ => []) zz) ∧ (fun i => i ≤ l.length) zz) (fun i => l.length - i) (0) (by (repeat' (first | exact envSub.nil | refine envSub.cons ?_ ?_)) <;> first | rfl | (refine congrArg some ?_; refine congrArg (Value.int _) ?_; first | omega | (dsimp only; omega)) | (simp; done) | (refine congrArg some ?_; dsimp only; congr 1; omega) | (simp; omega)) ⟨M.sel (by first | ((repeat (first | with_reducible exact Sel.refl | with_reducible exact Sel.nil | with_reducible exact Del.here | with_reducible apply Del.there | with_reducible apply Sel.cons | with_reducible apply Sel.drop)); done) | (repeat (first | exact Sel.refl | exact Sel.nil | exact Del.here | apply Del.there | apply Sel.cons | apply Sel.drop))), Nat.zero_le _⟩ ?_
  clear M; rintro (i) w ⟨M, hi⟩; dsimp only at M hi ⊢
  refine W.sub [(0, _), (3, _), (4, _)] (.cons rfl (.cons rfl (.cons rfl .nil))) ?_
  refine W.seq ?_
  refine W.seq ?_
  refine W.region ?_
  refine WL.move rfl rfl ?_
  refine WL.move rfl rfl ?_
  refine WL.len Try.underlying25 rfl rfl ?_
  refine WL.lss rfl rfl rfl ?_
  refine WL.nil ?_
  refine WX.next ?_
  refine W.sub [(0, _), (3, _), (4, _), (8, _)] (.cons rfl (.cons rfl (.cons rfl (.cons rfl .nil)))) ?_
  refine W.ite rfl (fun c0 => ?_) (fun c0 => ?_)
  · have hil : i < l.length := by omega
    have q1 := num_take_lt l i (by omega)
    have q2 := pow256 (i := i) (by omega)
    have q3 := UInt8.toNat_lt (el l i)
    have q4 : num (l.take (i + 1)) = num (l.take i) * 256 + (el l i).toNat := by rw [take_snocB hil, num_snoc]
    refine W.skip ?_
    refine WX.next ?_
    refine W.seq ?_
    refine W.block ?_
    refine W.region ?_
    refine WL.move rfl rfl ?_
    refine WL.mul rfl rfl (by first | exact wU64 (by omega) | exact mU64 _ | rfl) rfl ?_
    refine WL.move rfl rfl ?_
    refine WL.move rfl rfl ?_
    refine WL.idxA Try.underlying25 Try.sizeOf5 rfl rfl (RdB.isSome (by first | first | with_reducible assumption | with_reducible exact RdB.mem (by with_reducible assumption) M | exact M.rdB (by first | ((repeat (first | with_reducible exact Has.here | with_reducible refine Has.there ?_)); done) | (repeat (first | exact Has.here | refine Has.there ?_))) | exact RdH.at (by assumption) (M.sel (by first | ((repeat (first | with_reducible exact Sel.refl | with_reducible exact Sel.nil | with_reducible exact Del.here | with_reducible apply Del.there | with_reducible apply Sel.cons | with_reducible apply Sel.drop)); done) | (repeat (first | exact Sel.refl | exact Sel.nil | exact Del.here | apply Del.there | apply Sel.cons | apply Sel.drop)))) | exact M.rdLit' (by first | ((repeat (first | with_reducible exact Has.here | with_reducible refine Has.there ?_)); done) | (repeat (first | exact Has.here | refine Has.there ?_))) | exact M.rdLent (by first | ((repeat (first | with_reducible exact Has.here | with_reducible refine Has.there ?_)); done) | (repeat (first | exact Has.here | refine Has.there ?_))) | exact RdB.nil _ _ | exact RdB.sub (by first | with_reducible assumption | with_reducible exact RdB.mem (by with_reducible assumption) M | exact M.rdB (by first | ((repeat (first | with_reducible exact Has.here | with_reducible refine Has.there ?_)); done) | (repeat (first | exact Has.here | refine Has.there ?_))) | exact RdH.at (by assumption) (M.sel (by first | ((repeat (first | with_reducible exact Sel.refl | with_reducible exact Sel.nil | with_reducible exact Del.here | with_reducible apply Del.there | with_reducible apply Sel.cons | with_reducible apply Sel.drop)); done) | (repeat (first | exact Sel.refl | exact Sel.nil | exact Del.here | apply Del.there | apply Sel.cons | apply Sel.drop)))) | exact M.rdLit' (by first | ((repeat (first | with_reducible exact Has.here | with_reducible refine Has.there ?_)); done) | (repeat (first | exact Has.here | refine Has.there ?_))) | exact M.rdLent (by first | ((repeat (first | with_reducible exact Has.here | with_reducible refine Has.there ?_)); done) | (repeat (first | exact Has.here | refine Has.there ?_))) | exact RdB.nil _ _) (by omega) (by omega) | exact RdB.pre' (by first | with_reducible assumption | with_reducible exact RdB.mem (by with_reducible assumption) M | exact M.rdB (by first | ((repeat (first | with_reducible exact Has.here | with_reducible refine Has.there ?_)); done) | (repeat (first | exact Has.here | refine Has.there ?_))) | exact RdH.at (by assumption) (M.sel (by first | ((repeat (first | with_reducible exact Sel.refl | with_reducible exact Sel.nil | with_reducible exact Del.here | with_reducible apply Del.there | with_reducible apply Sel.cons | with_reducible apply Sel.drop)); done) | (repeat (first | exact Sel.refl | exact Sel.nil | exact Del.here | apply Del.there | apply Sel.cons | apply Sel.drop)))) | exact M.rdLit' (by first | ((repeat (first | with_reducible exact Has.here | with_reducible refine Has.there ?_)); done) | (repeat (first | exact Has.here | refine Has.there ?_))) | exact M.rdLent (by first | ((repeat (first | with_reducible exact Has.here | with_reducible refine Has.there ?_)); done) | (repeat (first | exact Has.here | refine Has.there ?_))) | exact RdB.nil _ _) (by omega) | exact RdB.suf (by first | with_reducible assumption | with_reducible exact RdB.mem (by with_reducible assumption) M | exact M.rdB (by first | ((repeat (first | with_reducible exact Has.here | with_reducible refine Has.there ?_)); done) | (repeat (first | exact Has.here | refine Has.there ?_))) | exact RdH.at (by assumption) (M.sel (by first | ((repeat (first | with_reducible exact Sel.refl | with_reducible exact Sel.nil | with_reducible exact Del.here | with_reducible apply Del.there | with_reducible apply Sel.cons | with_reducible apply Sel.drop)); done) | (repeat (first | exact Sel.refl | exact Sel.nil | exact Del.here | apply Del.there | apply Sel.cons | apply Sel.drop)))) | exact M.rdLit' (by first | ((repeat (first | with_reducible exact Has.here | with_reducible refine Has.there ?_)); done) | (repeat (first | exact Has.here | refine Has.there ?_))) | exact M.rdLent (by first | ((repeat (first | with_reducible exact Has.here | with_reducible refine Has.there ?_)); done) | (repeat (first | exact Has.here | refine Has.there ?_))) | exact RdB.nil _ _) (by omega)) (by omega)) (by omega) (by omega) (by first | exact rfl | exact (Int.toNat_of_nonneg (by omega)).symm) rfl ?_
    refine WL.loadB Try.isAgg5 rfl (by first | first | with_reducible assumption | with_reducible exact RdB.mem (by with_reducible assumption) M | exact M.rdB (by first | ((repeat (first | with_reducible exact Has.here | with_reducible refine Has.there ?_)); done) | (repeat (first | exact Has.here | refine Has.there ?_))) | exact RdH.at (by assumption) (M.sel (by first | ((repeat (first | with_reducible exact Sel.refl | with_reducible exact Sel.nil | with_reducible exact Del.here | with_reducible apply Del.there | with_reducible apply Sel.cons | with_reducible apply Sel.drop)); done) | (repeat (first | exact Sel.refl | exact Sel.nil | exact Del.here | apply Del.there | apply Sel.cons | apply Sel.drop)))) | exact M.rdLit' (by first | ((repeat (first | with_reducible exact Has.here | with_reducible refine Has.there ?_)); done) | (repeat (first | exact Has.here | refine Has.there ?_))) | exact M.rdLent (by first | ((repeat (first | with_reducible exact Has.here | with_reducible refine Has.there ?_)); done) | (repeat (first | exact Has.here | refine Has.there ?_))) | exact RdB.nil _ _ | exact RdB.sub (by first | with_reducible assumption | with_reducible exact RdB.mem (by with_reducible assumption) M | exact M.rdB (by first | ((repeat (first | with_reducible exact Has.here | with_reducible refine Has.there ?_)); done) | (repeat (first | exact Has.here | refine Has.there ?_))) | exact RdH.at (by assumption) (M.sel (by first | ((repeat (first | with_reducible exact Sel.refl | with_reducible exact Sel.nil | with_reducible exact Del.here | with_reducible apply Del.there | with_reducible apply Sel.cons | with_reducible apply Sel.drop)); done) | (repeat (first | exact Sel.refl | exact Sel.nil | exact Del.here | apply Del.there | apply Sel.cons | apply Sel.drop)))) | exact M.rdLit' (by first | ((repeat (first | with_reducible exact Has.here | with_reducible refine Has.there ?_)); done) | (repeat (first | exact Has.here | refine Has.there ?_))) | exact M.rdLent (by first | ((repeat (first | with_reducible exact Has.here | with_reducible refine Has.there ?_)); done) | (repeat (first | exact Has.here | refine Has.there ?_))) | exact RdB.nil _ _) (by omega) (by omega) | exact RdB.pre' (by first | with_reducible assumption | with_reducible exact RdB.mem (by with_reducible assumption) M | exact M.rdB (by first | ((repeat (first | with_reducible exact Has.here | with_reducible refine Has.there ?_)); done) | (repeat (first | exact Has.here | refine Has.there ?_))) | exact RdH.at (by assumption) (M.sel (by first | ((repeat (first | with_reducible exact Sel.refl | with_reducible exact Sel.nil | with_reducible exact Del.here | with_reducible apply Del.there | with_reducible apply Sel.cons | with_reducible apply Sel.drop)); done) | (repeat (first | exact Sel.refl | exact Sel.nil | exact Del.here | apply Del.there | apply Sel.cons | apply Sel.drop)))) | exact M.rdLit' (by first | ((repeat (first | with_reducible exact Has.here | with_reducible refine Has.there ?_)); done) | (repeat (first | exact Has.here | refine Has.there ?_))) | exact M.rdLent (by first | ((repeat (first | with_reducible exact Has.here | with_reducible refine Has.there ?_)); done) | (repeat (first | exact Has.here | refine Has.there ?_))) | exact RdB.nil _ _) (by omega) | exact RdB.suf (by first | with_reducible assumption | with_reducible exact RdB.mem (by with_reducible assumption) M | exact M.rdB (by first | ((repeat (first | with_reducible exact Has.here | with_reducible refine Has.there ?_)); done) | (repeat (first | exact Has.here | refine Has.there ?_))) | exact RdH.at (by assumption) (M.sel (by first | ((repeat (first | with_reducible exact Sel.refl | with_reducible exact Sel.nil | with_reducible exact Del.here | with_reducible apply Del.there | with_reducible apply Sel.cons | with_reducible apply Sel.drop)); done) | (repeat (first | exact Sel.refl | exact Sel.nil | exact Del.here | apply Del.there | apply Sel.cons | apply Sel.drop)))) | exact M.rdLit' (by first | ((repeat (first | with_reducible exact Has.here | with_reducible refine Has.there ?_)); done) | (repeat (first | exact Has.here | refine Has.there ?_))) | exact M.rdLent (by first | ((repeat (first | with_reducible exact Has.here | with_reducible refine Has.there ?_)); done) | (repeat (first | exact Has.here | refine Has.there ?_))) | exact RdB.nil _ _) (by omega)) (by omega) rfl ?_
    refine WL.conv Try.underlying5 Try.underlying22 rfl (by first | exact wU64 (by omega) | exact mU64 _ | rfl) rfl ?_
    refine WL.add rfl rfl (show IntKind.u64.wrap ((num (l.take i) : Int) * 256 + ((el l i).toNat : Int)) = (num (l.take (i + 1)) : Int) by rw [wU64 (by omega), q4]; omega) rfl ?_
    refine WL.assign rfl rfl ?_
    refine WL.nil ?_
    refine WX.blockNormal ?_
    refine WX.next ?_
    refine W.sub [(0, _), (3, _), (4, _)] (.cons rfl (.cons rfl (.cons rfl .nil))) ?_
    refine W.region ?_
    refine WL.move rfl rfl ?_
    refine WL.add rfl rfl (by first | exact wI64 (by omega) | rfl) rfl ?_
    refine WL.assign rfl rfl ?_
    refine WL.nil ?_
    refine WX.round (i + 1) (by (repeat' (first | exact envSub.nil | refine envSub.cons ?_ ?_)) <;> first | rfl | (refine congrArg some ?_; refine congrArg (Value.int _) ?_; first | omega | (dsimp only; omega)) | (simp; done) | (refine congrArg some ?_; dsimp only; congr 1; omega) | (simp; omega)) ⟨M.sel (by first | ((repeat (first | with_reducible exact Sel.refl | with_reducible exact Sel.nil | with_reducible exact Del.here | with_reducible apply Del.there | with_reducible apply Sel.cons | with_reducible apply Sel.drop)); done) | (repeat (first | exact Sel.refl | exact Sel.nil | exact Del.here | apply Del.there | apply Sel.cons | apply Sel.drop))), by omega⟩ (by first | omega | (dsimp only; omega))
  · refine W.exit ?_
    refine WX.thenExit ?_
    refine WX.thenExit ?_
    refine WX.blockHere ?_
    refine WX.next ?_
    refine W.seq ?_
    refine W.region ?_
    refine WL.move rfl rfl ?_
    refine WL.assign rfl rfl ?_
    refine WL.nil ?_
    refine WX.next ?_
    refine W.sub [(2, _)] (.cons rfl .nil) ?_
    refine W.ret ?_
    refine WX.ret1 rfl rfl ?_
    obtain rfl : i = l.length := by omega
    exact ⟨by rw [List.take_length], M.sel (by first | ((repeat (first | with_reducible exact Sel.refl | with_reducible exact Sel.nil | with_reducible exact Del.here | with_reducible apply Del.there | with_reducible apply Sel.cons | with_reducible apply Sel.drop)); done) | (repeat (first | exact Sel.refl | exact Sel.nil | exact Del.here | apply Del.there | apply Sel.cons | apply Sel.drop)))⟩
theorem num4 (a b c d : UInt8) : num [a, b, c, d] = be4 a b c d := by unfold num be4; simp only [List.foldl_cons, List.foldl_nil]; omega
theorem num3 (a b c : UInt8) : num [a, b, c] = be4 0 a b c := by unfold num be4; simp only [List.foldl_cons, List.foldl_nil]; simp; omega
theorem num8 (a b c d e f g h : UInt8) : num [a, b, c, d, e, f, g, h] = be4 a b c d * 4294967296 + be4 e f g h := by unfold num be4; simp only [List.foldl_cons, List.foldl_nil]; omega
theorem el_drop (b : List UInt8) (k j : Nat) : el (b.drop k) j = el b (k + j) := by simp [el]
theorem sub_list (b : List UInt8) (k n : Nat) (h : k + n ≤ b.length) : sub b k (k + n) = (List.range n).map fun j => el b (k + j) := by
  unfold sub
  apply List.ext_getElem
  · simp; omega
  · intro i h1 h2
    have hi : k + i < b.length := by simp at h1; omega
    simp [el, hi]
theorem sub4 {b : List UInt8} {k : Nat} (h : k + 4 ≤ b.length) : num (sub b k (k + 4)) = wd b k := by
  rw [sub_list b k 4 h]
  exact num4 _ _ _ _
theorem sub3 {b : List UInt8} {k : Nat} (h : k + 3 ≤ b.length) : num (sub b k (k + 3)) = be4 0 (el b k) (el b (k + 1)) (el b (k + 2)) := by
  rw [sub_list b k 3 h]
  exact num3 _ _ _
theorem sub8 {b : List UInt8} {k : Nat} (h : k + 8 ≤ b.length) : num (sub b k (k + 8)) = wd b k * 4294967296 + wd b (k + 4) := by
  rw [sub_list b k 8 h]
  exact num8 _ _ _ _ _ _ _ _
theorem refIs_ok (z : Int) (w0 : World) : Fn Try.prog 42 [.int .i64 z] w0 fun v w' => v = .bool (decide (z ∈ opsL)) ∧ w' = w0 := by
  have M := Mem.refl w0
  obtain ⟨w, hw⟩ : ∃ w, w = w0 := ⟨w0, rfl⟩
  refine Fn.enter Try.func42 rfl Try.ntmps42 rfl ?_
  refine W.sub [(0, _)] (.cons rfl .nil) ?_
  refine W.seq ?_
  refine W.region ?_
  refine WL.assign rfl rfl ?_
  refine WL.nil ?_
  refine WX.next ?_
  refine W.sub [(0, _)] (.cons rfl .nil) ?_
  refine W.seq ?_
  refine W.seq ?_
  refine W.region ?_
  refine WL.move rfl rfl ?_
  refine WL.nil ?_
  refine WX.next ?_
  refine W.sub [(3, _)] (.cons rfl .nil) ?_
  refine W.block ?_
  refine W.seq ?_
  refine W.seq ?_
  refine W.region ?_
  refine WL.eqI rfl rfl rfl ?_
  refine WL.assign rfl rfl ?_
  refine WL.nil ?_
  refine WX.next ?_
  refine W.sub [(3, _), (4, _)] (.cons rfl (.cons rfl .nil)) ?_
  refine W.ite rfl (fun c0 => ?_) (fun c0 => ?_)
  · refine W.skip ?_
    refine WX.next ?_
    refine W.ite rfl (fun c10 => ?_) (fun c10 => ?_)
    · refine W.seq ?_
      refine W.region ?_
      refine WL.assign rfl rfl ?_
      refine WL.nil ?_
      refine WX.next ?_
      refine W.sub [(2, _)] (.cons rfl .nil) ?_
      refine W.ret ?_
      refine WX.blockRet ?_
      refine WX.thenRet ?_
      refine WX.ret1 rfl rfl ?_
      exact ⟨by rw [decide_eq_true]; unfold opsL; simp only [List.mem_cons, List.not_mem_nil, or_false]; omega, rfl⟩
    · refine W.skip ?_
      refine WX.blockNormal ?_
      refine WX.next ?_
      refine W.seq ?_
      refine W.region ?_
      refine WL.assign rfl rfl ?_
      refine WL.nil ?_
      refine WX.next ?_
      refine W.sub [(2, _)] (.cons rfl .nil) ?_
      refine W.ret ?_
      refine WX.ret1 rfl rfl ?_
      exact ⟨by rw [decide_eq_false]; unfold opsL; simp only [List.mem_cons, List.not_mem_nil, or_false]; omega, rfl⟩
  · refine W.seq ?_
    refine W.region ?_
    refine WL.eqI rfl rfl rfl ?_
    refine WL.assign rfl rfl ?_
    refine WL.nil ?_
    refine WX.next ?_
    refine W.sub [(3, _), (4, _)] (.cons rfl (.cons rfl .nil)) ?_
    refine W.ite rfl (fun c1 => ?_) (fun c1 => ?_)
    · refine W.skip ?_
      refine WX.next ?_
      refine W.ite rfl (fun c10 => ?_) (fun c10 => ?_)
      · refine W.seq ?_
        refine W.region ?_
        refine WL.assign rfl rfl ?_
        refine WL.nil ?_
        refine WX.next ?_
        refine W.sub [(2, _)] (.cons rfl .nil) ?_
        refine W.ret ?_
        refine WX.blockRet ?_
        refine WX.thenRet ?_
        refine WX.ret1 rfl rfl ?_
        exact ⟨by rw [decide_eq_true]; unfold opsL; simp only [List.mem_cons, List.not_mem_nil, or_false]; omega, rfl⟩
      · refine W.skip ?_
        refine WX.blockNormal ?_
        refine WX.next ?_
        refine W.seq ?_
        refine W.region ?_
        refine WL.assign rfl rfl ?_
        refine WL.nil ?_
        refine WX.next ?_
        refine W.sub [(2, _)] (.cons rfl .nil) ?_
        refine W.ret ?_
        refine WX.ret1 rfl rfl ?_
        exact ⟨by rw [decide_eq_false]; unfold opsL; simp only [List.mem_cons, List.not_mem_nil, or_false]; omega, rfl⟩
    · refine W.seq ?_
      refine W.region ?_
      refine WL.eqI rfl rfl rfl ?_
      refine WL.assign rfl rfl ?_
      refine WL.nil ?_
      refine WX.next ?_
      refine W.sub [(3, _), (4, _)] (.cons rfl (.cons rfl .nil)) ?_
      refine W.ite rfl (fun c2 => ?_) (fun c2 => ?_)
      · refine W.skip ?_
        refine WX.next ?_
        refine W.ite rfl (fun c10 => ?_) (fun c10 => ?_)
        · refine W.seq ?_
          refine W.region ?_
          refine WL.assign rfl rfl ?_
          refine WL.nil ?_
          refine WX.next ?_
          refine W.sub [(2, _)] (.cons rfl .nil) ?_
          refine W.ret ?_
          refine WX.blockRet ?_
          refine WX.thenRet ?_
          refine WX.ret1 rfl rfl ?_
          exact ⟨by rw [decide_eq_true]; unfold opsL; simp only [List.mem_cons, List.not_mem_nil, or_false]; omega, rfl⟩
        · refine W.skip ?_
          refine WX.blockNormal ?_
          refine WX.next ?_
          refine W.seq ?_
          refine W.region ?_
          refine WL.assign rfl rfl ?_
          refine WL.nil ?_
          refine WX.next ?_
          refine W.sub [(2, _)] (.cons rfl .nil) ?_
          refine W.ret ?_
          refine WX.ret1 rfl rfl ?_
          exact ⟨by rw [decide_eq_false]; unfold opsL; simp only [List.mem_cons, List.not_mem_nil, or_false]; omega, rfl⟩
      · refine W.seq ?_
        refine W.region ?_
        refine WL.eqI rfl rfl rfl ?_
        refine WL.assign rfl rfl ?_
        refine WL.nil ?_
        refine WX.next ?_
        refine W.sub [(3, _), (4, _)] (.cons rfl (.cons rfl .nil)) ?_
        refine W.ite rfl (fun c3 => ?_) (fun c3 => ?_)
        · refine W.skip ?_
          refine WX.next ?_
          refine W.ite rfl (fun c10 => ?_) (fun c10 => ?_)
          · refine W.seq ?_
            refine W.region ?_
            refine WL.assign rfl rfl ?_
            refine WL.nil ?_
            refine WX.next ?_
            refine W.sub [(2, _)] (.cons rfl .nil) ?_
            refine W.ret ?_
            refine WX.blockRet ?_
            refine WX.thenRet ?_
            refine WX.ret1 rfl rfl ?_
            exact ⟨by rw [decide_eq_true]; unfold opsL; simp only [List.mem_cons, List.not_mem_nil, or_false]; omega, rfl⟩
          · refine W.skip ?_
            refine WX.blockNormal ?_
            refine WX.next ?_
            refine W.seq ?_
            refine W.region ?_
            refine WL.assign rfl rfl ?_
            refine WL.nil ?_
            refine WX.next ?_
            refine W.sub [(2, _)] (.cons rfl .nil) ?_
            refine W.ret ?_
            refine WX.ret1 rfl rfl ?_
            exact ⟨by rw [decide_eq_false]; unfold opsL; simp only [List.mem_cons, List.not_mem_nil, or_false]; omega, rfl⟩
        · refine W.seq ?_
          refine W.region ?_
          refine WL.eqI rfl rfl rfl ?_
          refine WL.assign rfl rfl ?_
          refine WL.nil ?_
          refine WX.next ?_
          refine W.sub [(3, _), (4, _)] (.cons rfl (.cons rfl .nil)) ?_
          refine W.ite rfl (fun c4 => ?_) (fun c4 => ?_)
          · refine W.skip ?_
            refine WX.next ?_
            refine W.ite rfl (fun c10 => ?_) (fun c10 => ?_)
            · refine W.seq ?_
              refine W.region ?_
              refine WL.assign rfl rfl ?_
              refine WL.nil ?_
              refine WX.next ?_
              refine W.sub [(2, _)] (.cons rfl .nil) ?_
              refine W.ret ?_
              refine WX.blockRet ?_
              refine WX.thenRet ?_
              refine WX.ret1 rfl rfl ?_
              exact ⟨by rw [decide_eq_true]; unfold opsL; simp only [List.mem_cons, List.not_mem_nil, or_false]; omega, rfl⟩
            · refine W.skip ?_
              refine WX.blockNormal ?_
              refine WX.next ?_
              refine W.seq ?_
              refine W.region ?_
              refine WL.assign rfl rfl ?_
              refine WL.nil ?_
              refine WX.next ?_
              refine W.sub [(2, _)] (.cons rfl .nil) ?_
              refine W.ret ?_
              refine WX.ret1 rfl rfl ?_
              exact ⟨by rw [decide_eq_false]; unfold opsL; simp only [List.mem_cons, List.not_mem_nil, or_false]; omega, rfl⟩
          · refine W.seq ?_
            refine W.region ?_
            refine WL.eqI rfl rfl rfl ?_
            refine WL.assign rfl rfl ?_
            refine WL.nil ?_
            refine WX.next ?_
            refine W.sub [(3, _), (4, _)] (.cons rfl (.cons rfl .nil)) ?_
            refine W.ite rfl (fun c5 => ?_) (fun c5 => ?_)
            · refine W.skip ?_
              refine WX.next ?_
              refine W.ite rfl (fun c10 => ?_) (fun c10 => ?_)
              · refine W.seq ?_
                refine W.region ?_
                refine WL.assign rfl rfl ?_
                refine WL.nil ?_
                refine WX.next ?_
                refine W.sub [(2, _)] (.cons rfl .nil) ?_
                refine W.ret ?_
                refine WX.blockRet ?_
                refine WX.thenRet ?_
                refine WX.ret1 rfl rfl ?_
                exact ⟨by rw [decide_eq_true]; unfold opsL; simp only [List.mem_cons, List.not_mem_nil, or_false]; omega, rfl⟩
              · refine W.skip ?_
                refine WX.blockNormal ?_
                refine WX.next ?_
                refine W.seq ?_
                refine W.region ?_
                refine WL.assign rfl rfl ?_
                refine WL.nil ?_
                refine WX.next ?_
                refine W.sub [(2, _)] (.cons rfl .nil) ?_
                refine W.ret ?_
                refine WX.ret1 rfl rfl ?_
                exact ⟨by rw [decide_eq_false]; unfold opsL; simp only [List.mem_cons, List.not_mem_nil, or_false]; omega, rfl⟩
            · refine W.seq ?_
              refine W.region ?_
              refine WL.eqI rfl rfl rfl ?_
              refine WL.assign rfl rfl ?_
              refine WL.nil ?_
              refine WX.next ?_
              refine W.sub [(3, _), (4, _)] (.cons rfl (.cons rfl .nil)) ?_
              refine W.ite rfl (fun c6 => ?_) (fun c6 => ?_)
              · refine W.skip ?_
                refine WX.next ?_
                refine W.ite rfl (fun c10 => ?_) (fun c10 => ?_)
                · refine W.seq ?_
                  refine W.region ?_
                  refine WL.assign rfl rfl ?_
                  refine WL.nil ?_
                  refine WX.next ?_
                  refine W.sub [(2, _)] (.cons rfl .nil) ?_
                  refine W.ret ?_
                  refine WX.blockRet ?_
                  refine WX.thenRet ?_
                  refine WX.ret1 rfl rfl ?_
                  exact ⟨by rw [decide_eq_true]; unfold opsL; simp only [List.mem_cons, List.not_mem_nil, or_false]; omega, rfl⟩
                · refine W.skip ?_
                  refine WX.blockNormal ?_
                  refine WX.next ?_
                  refine W.seq ?_
                  refine W.region ?_
                  refine WL.assign rfl rfl ?_
                  refine WL.nil ?_
                  refine WX.next ?_
                  refine W.sub [(2, _)] (.cons rfl .nil) ?_
                  refine W.ret ?_
                  refine WX.ret1 rfl rfl ?_
                  exact ⟨by rw [decide_eq_false]; unfold opsL; simp only [List.mem_cons, List.not_mem_nil, or_false]; omega, rfl⟩
              · refine W.seq ?_
                refine W.region ?_
                refine WL.eqI rfl rfl rfl ?_
                refine WL.assign rfl rfl ?_
                refine WL.nil ?_
                refine WX.next ?_
                refine W.sub [(3, _), (4, _)] (.cons rfl (.cons rfl .nil)) ?_
                refine W.ite rfl (fun c7 => ?_) (fun c7 => ?_)
                · refine W.skip ?_
                  refine WX.next ?_
                  refine W.ite rfl (fun c10 => ?_) (fun c10 => ?_)
                  · refine W.seq ?_
                    refine W.region ?_
                    refine WL.assign rfl rfl ?_
                    refine WL.nil ?_
                    refine WX.next ?_
                    refine W.sub [(2, _)] (.cons rfl .nil) ?_
                    refine W.ret ?_
                    refine WX.blockRet ?_
                    refine WX.thenRet ?_
                    refine WX.ret1 rfl rfl ?_
                    exact ⟨by rw [decide_eq_true]; unfold opsL; simp only [List.mem_cons, List.not_mem_nil, or_false]; omega, rfl⟩
                  · refine W.skip ?_
                    refine WX.blockNormal ?_
                    refine WX.next ?_
                    refine W.seq ?_
                    refine W.region ?_
                    refine WL.assign rfl rfl ?_
                    refine WL.nil ?_
                    refine WX.next ?_
                    refine W.sub [(2, _)] (.cons rfl .nil) ?_
                    refine W.ret ?_
                    refine WX.ret1 rfl rfl ?_
                    exact ⟨by rw [decide_eq_false]; unfold opsL; simp only [List.mem_cons, List.not_mem_nil, or_false]; omega, rfl⟩
                · refine W.seq ?_
                  refine W.region ?_
                  refine WL.eqI rfl rfl rfl ?_
                  refine WL.assign rfl rfl ?_
                  refine WL.nil ?_
                  refine WX.next ?_
                  refine W.sub [(3, _), (4, _)] (.cons rfl (.cons rfl .nil)) ?_
                  refine W.ite rfl (fun c8 => ?_) (fun c8 => ?_)
                  · refine W.skip ?_
                    refine WX.next ?_
                    refine W.ite rfl (fun c10 => ?_) (fun c10 => ?_)
                    · refine W.seq ?_
                      refine W.region ?_
                      refine WL.assign rfl rfl ?_
                      refine WL.nil ?_
                      refine WX.next ?_
                      refine W.sub [(2, _)] (.cons rfl .nil) ?_
                      refine W.ret ?_
                      refine WX.blockRet ?_
                      refine WX.thenRet ?_
                      refine WX.ret1 rfl rfl ?_
                      exact ⟨by rw [decide_eq_true]; unfold opsL; simp only [List.mem_cons, List.not_mem_nil, or_false]; omega, rfl⟩
                    · refine W.skip ?_
                      refine WX.blockNormal ?_
                      refine WX.next ?_
                      refine W.seq ?_
                      refine W.region ?_
                      refine WL.assign rfl rfl ?_
                      refine WL.nil ?_
                      refine WX.next ?_
                      refine W.sub [(2, _)] (.cons rfl .nil) ?_
                      refine W.ret ?_
                      refine WX.ret1 rfl rfl ?_
                      exact ⟨by rw [decide_eq_false]; unfold opsL; simp only [List.mem_cons, List.not_mem_nil, or_false]; omega, rfl⟩
                  · refine W.seq ?_
                    refine W.region ?_
                    refine WL.eqI rfl rfl rfl ?_
                    refine WL.assign rfl rfl ?_
                    refine WL.nil ?_
                    refine WX.next ?_
                    refine W.sub [(3, _), (4, _)] (.cons rfl (.cons rfl .nil)) ?_
                    refine W.ite rfl (fun c9 => ?_) (fun c9 => ?_)
                    · refine W.skip ?_
                      refine WX.next ?_
                      refine W.ite rfl (fun c10 => ?_) (fun c10 => ?_)
                      · refine W.seq ?_
                        refine W.region ?_
                        refine WL.assign rfl rfl ?_
                        refine WL.nil ?_
                        refine WX.next ?_
                        refine W.sub [(2, _)] (.cons rfl .nil) ?_
                        refine W.ret ?_
                        refine WX.blockRet ?_
                        refine WX.thenRet ?_
                        refine WX.ret1 rfl rfl ?_
                        exact ⟨by rw [decide_eq_true]; unfold opsL; simp only [List.mem_cons, List.not_mem_nil, or_false]; omega, rfl⟩
                      · refine W.skip ?_
                        refine WX.blockNormal ?_
                        refine WX.next ?_
                        refine W.seq ?_
                        refine W.region ?_
                        refine WL.assign rfl rfl ?_
                        refine WL.nil ?_
                        refine WX.next ?_
                        refine W.sub [(2, _)] (.cons rfl .nil) ?_
                        refine W.ret ?_
                        refine WX.ret1 rfl rfl ?_
                        exact ⟨by rw [decide_eq_false]; unfold opsL; simp only [List.mem_cons, List.not_mem_nil, or_false]; omega, rfl⟩
                    · refine W.region ?_
                      refine WL.eqI rfl rfl rfl ?_
                      refine WL.assign rfl rfl ?_
                      refine WL.nil ?_
                      refine WX.next ?_
                      refine W.sub [(4, _)] (.cons rfl .nil) ?_
                      refine W.ite rfl (fun c10 => ?_) (fun c10 => ?_)
                      · refine W.seq ?_
                        refine W.region ?_
                        refine WL.assign rfl rfl ?_
                        refine WL.nil ?_
                        refine WX.next ?_
                        refine W.sub [(2, _)] (.cons rfl .nil) ?_
                        refine W.ret ?_
                        refine WX.blockRet ?_
                        refine WX.thenRet ?_
                        refine WX.ret1 rfl rfl ?_
                        exact ⟨by rw [decide_eq_true]; unfold opsL; simp only [List.mem_cons, List.not_mem_nil, or_false]; omega, rfl⟩
                      · refine W.skip ?_
                        refine WX.blockNormal ?_
                        refine WX.next ?_
                        refine W.seq ?_
                        refine W.region ?_
                        refine WL.assign rfl rfl ?_
                        refine WL.nil ?_
                        refine WX.next ?_
                        refine W.sub [(2, _)] (.cons rfl .nil) ?_
                        refine W.ret ?_
                        refine WX.ret1 rfl rfl ?_
                        exact ⟨by rw [decide_eq_false]; unfold opsL; simp only [List.mem_cons, List.not_mem_nil, or_false]; omega, rfl⟩
theorem refCheck_ok (p : PdX) (w0 : World) : Fn Try.prog 16 [p.v] w0 fun v w' => v = .int .i64 (chkM p.op p.now p.x.l.length) ∧ Mem w0 w' [] := by
  have M := Mem.refl w0
  obtain ⟨w, hw⟩ : ∃ w, w = w0 := ⟨w0, rfl⟩
  obtain ⟨op, now, flags, lun, tag, ws, ⟨A, cap, l⟩⟩ := p
  unfold PdX.v
  dsimp only
  refine Fn.enter Try.func16 rfl Try.ntmps16 rfl ?_
  refine W.sub [(0, _)] (.cons rfl .nil) ?_
  refine W.seq ?_
  refine W.region ?_
  refine WL.box rfl M rfl ?_
  intro g0_0 w M
  try simp only [Value.cells] at M
  try simp only [List.toList_toArray] at M
  refine WL.assign rfl rfl ?_
  refine WL.nil ?_
  refine WX.next ?_
  refine W.sub [(1, _)] (.cons rfl .nil) ?_
  refine W.seq ?_
  refine W.region ?_
  refine WL.fieldR (off := 0) Try.underlying27 rfl rfl Try.sizeOf3 rfl rfl rfl ?_
  refine WL.loadR Try.isAgg3 rfl M (by first | ((repeat (first | with_reducible exact Has.here | with_reducible refine Has.there ?_)); done) | (repeat (first | exact Has.here | refine Has.there ?_))) rfl rfl ?_
  refine WL.call Try.call42 rfl (refIs_ok op _) rfl ?_
  rintro _ _ ⟨rfl, rfl⟩
  refine WL.assign rfl rfl ?_
  refine WL.nil ?_
  refine WX.next ?_
  refine W.sub [(1, _), (3, _)] (.cons rfl (.cons rfl .nil)) ?_
  refine W.seq ?_
  refine W.block ?_
  refine W.seq ?_
  refine W.region ?_
  refine WL.move rfl rfl ?_
  refine WL.notP rfl rfl ?_
  refine WL.assign rfl rfl ?_
  refine WL.nil ?_
  refine WX.next ?_
  refine W.sub [(1, _), (7, _)] (.cons rfl (.cons rfl .nil)) ?_
  refine W.ite rfl (fun c0 => ?_) (fun c0 => ?_)
  · refine W.seq ?_
    refine W.region ?_
    refine WL.assign rfl rfl ?_
    refine WL.nil ?_
    refine WX.next ?_
    refine W.sub [(2, _)] (.cons rfl .nil) ?_
    refine W.ret ?_
    refine WX.blockRet ?_
    refine WX.thenRet ?_
    refine WX.ret1 rfl rfl ?_
    exact ⟨by unfold chkM; rw [if_pos (by simpa using c0)], M.sel (by first | ((repeat (first | with_reducible exact Sel.refl | with_reducible exact Sel.nil | with_reducible exact Del.here | with_reducible apply Del.there | with_reducible apply Sel.cons | with_reducible apply Sel.drop)); done) | (repeat (first | exact Sel.refl | exact Sel.nil | exact Del.here | apply Del.there | apply Sel.cons | apply Sel.drop)))⟩
  · have hop : op ∈ opsL := by simpa using c0
    have h49 := hop
    unfold opsL at h49
    simp only [List.mem_cons, List.not_mem_nil, or_false] at h49
    refine W.seq ?_
    refine W.region ?_
    refine WL.fieldR (off := 1) Try.underlying27 rfl rfl Try.sizeOf4 rfl rfl rfl ?_
    refine WL.loadR Try.isAgg4 rfl M (by first | ((repeat (first | with_reducible exact Has.here | with_reducible refine Has.there ?_)); done) | (repeat (first | exact Has.here | refine Has.there ?_))) rfl rfl ?_
    refine WL.moveIfB rfl rfl (fun c1 => ?_) (fun c1 => ?_)
    · refine WL.on rfl rfl ?_
      refine WL.fieldR (off := 0) Try.underlying27 rfl rfl Try.sizeOf3 rfl rfl rfl ?_
      refine WL.on rfl rfl ?_
      refine WL.loadR Try.isAgg3 rfl M (by first | ((repeat (first | with_reducible exact Has.here | with_reducible refine Has.there ?_)); done) | (repeat (first | exact Has.here | refine Has.there ?_))) rfl rfl ?_
      refine WL.on rfl rfl ?_
      refine WL.gtr rfl rfl rfl ?_
      refine WL.pickT rfl rfl rfl ?_
      refine WL.assign rfl rfl ?_
      refine WL.nil ?_
      refine WX.next ?_
      refine W.sub [(1, _), (10, _)] (.cons rfl (.cons rfl .nil)) ?_
      refine W.ite rfl (fun c2 => ?_) (fun c2 => ?_)
      · refine W.seq ?_
        refine W.region ?_
        refine WL.assign rfl rfl ?_
        refine WL.nil ?_
        refine WX.next ?_
        refine W.sub [(2, _)] (.cons rfl .nil) ?_
        refine W.ret ?_
        refine WX.blockRet ?_
        refine WX.thenRet ?_
        refine WX.ret1 rfl rfl ?_
        exact ⟨by unfold chkM; rw [if_neg (fun h => h hop), if_pos ⟨c1, by omega⟩], M.sel (by first | ((repeat (first | with_reducible exact Sel.refl | with_reducible exact Sel.nil | with_reducible exact Del.here | with_reducible apply Del.there | with_reducible apply Sel.cons | with_reducible apply Sel.drop)); done) | (repeat (first | exact Sel.refl | exact Sel.nil | exact Del.here | apply Del.there | apply Sel.cons | apply Sel.drop)))⟩
      · refine W.seq ?_
        refine W.region ?_
        refine WL.fieldR (off := 12) Try.underlying27 rfl rfl Try.sizeOf25 rfl rfl rfl ?_
        refine WL.loadR Try.isAgg25 rfl M (by first | ((repeat (first | with_reducible exact Has.here | with_reducible refine Has.there ?_)); done) | (repeat (first | exact Has.here | refine Has.there ?_))) rfl rfl ?_
        refine WL.len Try.underlying25 rfl rfl ?_
        refine WL.gtr rfl rfl rfl ?_
        refine WL.assign rfl rfl ?_
        refine WL.nil ?_
        refine WX.next ?_
        refine W.sub [(18, _)] (.cons rfl .nil) ?_
        refine W.ite rfl (fun c3 => ?_) (fun c3 => ?_)
        · refine W.seq ?_
          refine W.region ?_
          refine WL.assign rfl rfl ?_
          refine WL.nil ?_
          refine WX.next ?_
          refine W.sub [(2, _)] (.cons rfl .nil) ?_
          refine W.ret ?_
          refine WX.blockRet ?_
          refine WX.thenRet ?_
          refine WX.ret1 rfl rfl ?_
          exact ⟨by unfold chkM; rw [if_neg (fun h => h hop), if_neg (by first | (intro h; omega) | (intro h; rw [c1] at h; cases h.1)), if_pos (by omega)], M.sel (by first | ((repeat (first | with_reducible exact Sel.refl | with_reducible exact Sel.nil | with_reducible exact Del.here | with_reducible apply Del.there | with_reducible apply Sel.cons | with_reducible apply Sel.drop)); done) | (repeat (first | exact Sel.refl | exact Sel.nil | exact Del.here | apply Del.there | apply Sel.cons | apply Sel.drop)))⟩
        · refine W.skip ?_
          refine WX.blockNormal ?_
          refine WX.next ?_
          refine W.seq ?_
          refine W.region ?_
          refine WL.assign rfl rfl ?_
          refine WL.nil ?_
          refine WX.next ?_
          refine W.sub [(2, _)] (.cons rfl .nil) ?_
          refine W.ret ?_
          refine WX.ret1 rfl rfl ?_
          exact ⟨by unfold chkM; rw [if_neg (fun h => h hop), if_neg (by first | (intro h; omega) | (intro h; rw [c1] at h; cases h.1)), if_neg (by omega)], M.sel (by first | ((repeat (first | with_reducible exact Sel.refl | with_reducible exact Sel.nil | with_reducible exact Del.here | with_reducible apply Del.there | with_reducible apply Sel.cons | with_reducible apply Sel.drop)); done) | (repeat (first | exact Sel.refl | exact Sel.nil | exact Del.here | apply Del.there | apply Sel.cons | apply Sel.drop)))⟩
    · refine WL.off rfl rfl rfl rfl ?_
      refine WL.off rfl rfl rfl rfl ?_
      refine WL.off rfl rfl rfl rfl ?_
      refine WL.pickF rfl rfl rfl ?_
      refine WL.assign rfl rfl ?_
      refine WL.nil ?_
      refine WX.next ?_
      refine W.sub [(1, _), (10, _)] (.cons rfl (.cons rfl .nil)) ?_
      refine W.condF rfl ?_
      refine W.seq ?_
      refine W.region ?_
      refine WL.fieldR (off := 12) Try.underlying27 rfl rfl Try.sizeOf25 rfl rfl rfl ?_
      refine WL.loadR Try.isAgg25 rfl M (by first | ((repeat (first | with_reducible exact Has.here | with_reducible refine Has.there ?_)); done) | (repeat (first | exact Has.here | refine Has.there ?_))) rfl rfl ?_
      refine WL.len Try.underlying25 rfl rfl ?_
      refine WL.gtr rfl rfl rfl ?_
      refine WL.assign rfl rfl ?_
      refine WL.nil ?_
      refine WX.next ?_
      refine W.sub [(18, _)] (.cons rfl .nil) ?_
      refine W.ite rfl (fun c3 => ?_) (fun c3 => ?_)
      · refine W.seq ?_
        refine W.region ?_
        refine WL.assign rfl rfl ?_
        refine WL.nil ?_
        refine WX.next ?_
        refine W.sub [(2, _)] (.cons rfl .nil) ?_
        refine W.ret ?_
        refine WX.blockRet ?_
        refine WX.thenRet ?_
        refine WX.ret1 rfl rfl ?_
        exact ⟨by unfold chkM; rw [if_neg (fun h => h hop), if_neg (by first | (intro h; omega) | (intro h; rw [c1] at h; cases h.1)), if_pos (by omega)], M.sel (by first | ((repeat (first | with_reducible exact Sel.refl | with_reducible exact Sel.nil | with_reducible exact Del.here | with_reducible apply Del.there | with_reducible apply Sel.cons | with_reducible apply Sel.drop)); done) | (repeat (first | exact Sel.refl | exact Sel.nil | exact Del.here | apply Del.there | apply Sel.cons | apply Sel.drop)))⟩
      · refine W.skip ?_
        refine WX.blockNormal ?_
        refine WX.next ?_
        refine W.seq ?_
        refine W.region ?_
        refine WL.assign rfl rfl ?_
        refine WL.nil ?_
        refine WX.next ?_
        refine W.sub [(2, _)] (.cons rfl .nil) ?_
        refine W.ret ?_
        refine WX.ret1 rfl rfl ?_
        exact ⟨by unfold chkM; rw [if_neg (fun h => h hop), if_neg (by first | (intro h; omega) | (intro h; rw [c1] at h; cases h.1)), if_neg (by omega)], M.sel (by first | ((repeat (first | with_reducible exact Sel.refl | with_reducible exact Sel.nil | with_reducible exact Del.here | with_reducible apply Del.there | with_reducible apply Sel.cons | with_reducible apply Sel.drop)); done) | (repeat (first | exact Sel.refl | exact Sel.nil | exact Del.here | apply Del.there | apply Sel.cons | apply Sel.drop)))⟩
end Go.Proofs.Ytinbcidgdbmcjaa
