/-
  Walks: frames one behind the other, in both; are two rows of frames the same; their bodies.
-/
import Derived.Test.YtjfbloepomnibaaFrame4
import Derived.Test.YtjfbloepomnibaaFrameLaw
import Derived.Test.YtjfbloepomnibaaKnown02
import Derived.Test.YtjfbloepomnibaaLists3
namespace Go.Proofs.Ytjfbloepomnibaa
open Go Go.RowKit Crc Bin

/-- A frame as it lies: its kind, and its body. -/
structure FX where
  k : UInt8
  x : OX
instance : Inhabited FX := ⟨⟨0, default⟩⟩
def FX.key (f : FX) : UInt8 × List UInt8 := (f.k, f.x.l)
def FX.O (f : FX) : Asr := f.x.O
def frameE : Enc FX := ⟨38, 2, fun f => [.int .u8 (f.k.toNat : Int), f.x.v], fun _ => rfl, (fun a v hv => by
  simp only [List.mem_cons, List.not_mem_nil, or_false] at hv
  rcases hv with rfl | rfl <;> rfl), by decide⟩
theorem Try.elem38 : Elem Try.prog 47 38 2 32 := by
  obtain ⟨i, hi, h1, h2, h3⟩ := info_parts (P := Try.prog) (e := 38) (z := .agg #[.int .u8 0, .slice none 0 0]) (size := 2) (bytes := 32) (by kernel_rfl)
  exact ⟨Try.underlying47, ⟨i, _, hi, h1, h2, h3, rfl⟩, by decide⟩

/-- The frames from a place on. -/
def scanN (l : List UInt8) : Nat → Nat → List (UInt8 × List UInt8) × Nat
  | 0, at_ => ([], at_)
  | f + 1, at_ => if (getG l (at_ : Int)).2.2.2 ≠ 0 then ([], at_) else
      (((getG l at_).1, (getG l at_).2.1) :: (scanN l f (getG l at_).2.2.1.toNat).1, (scanN l f (getG l at_).2.2.1.toNat).2)
def scanG (l : List UInt8) : List (UInt8 × List UInt8) × Nat := scanN l (l.length + 1) 0

/-- A frame ends behind its beginning, and within. -/
theorem getR_ok {r : List UInt8} (h : (getR r).2.2.2 = 0) : (getR r).2.2.1 ≤ r.length ∧ 10 ≤ (getR r).2.2.1 ∧ (getR r).2.1.length ≤ 1024 := by
  unfold getR at h ⊢
  split at h
  · cases h
  split at h
  · cases h
  split at h
  · cases h
  split at h
  · cases h
  split at h
  · cases h
  split at h
  · cases h
  rename_i h1 h2 h3 h4 h5 h6
  rw [if_neg h1, if_neg h2, if_neg h3, if_neg h4, if_neg h5, if_neg h6]
  refine ⟨by dsimp only; omega, by dsimp only; omega, ?_⟩
  simp only [List.length_take, List.length_drop]
  omega
theorem getG_range {l : List UInt8} {at_ : Nat} (ha : at_ ≤ l.length) (h : (getG l (at_ : Int)).2.2.2 = 0) :
    ∃ to : Nat, (getG l (at_ : Int)).2.2.1 = (to : Int) ∧ at_ + 10 ≤ to ∧ to ≤ l.length ∧ (getG l (at_ : Int)).2.1.length ≤ 1024 := by
  unfold getG at h ⊢
  rw [if_neg (by omega)] at h ⊢
  rw [Int.toNat_natCast] at h ⊢
  by_cases h0 : (getR (l.drop at_)).2.2.2 = 0
  · rw [if_neg (by omega)]
    obtain ⟨h1, h2, h3⟩ := getR_ok h0
    rw [List.length_drop] at h1
    exact ⟨at_ + (getR (l.drop at_)).2.2.1, by simp, by omega, by omega, h3⟩
  · rw [if_pos h0] at h
    dsimp only at h
    omega

/-- What a scan answers. -/
def Scans (l : List UInt8) (v : Value) (w w' : World) : Prop :=
  ∃ A cap fs, v = .tuple #[.slice A fs.length cap, .int .i64 ((scanG l).2 : Int)] ∧ fs.map FX.key = (scanG l).1 ∧ (∀ f ∈ fs, f.x.l.length ≤ 1024) ∧ fs.length ≤ l.length ∧
    Mem w w' [Asr.lst frameE A cap fs, Asr.star (fs.map FX.O)]

theorem Scan_ok (l : List UInt8) (A : Option Addr) (cap : Nat) (w0 : World) (h : RdB w0 A cap l) (hl : l.length ≤ 1000000) :
    Fn Try.prog 24 [.slice A l.length cap] w0 fun v w' => Scans l v w0 w' := by
  have M := Mem.refl w0
  refine Fn.enter Try.func24 rfl Try.ntmps24 rfl ?_
  refine W.sub [(0, _)] (.cons rfl .nil) ?_
  refine W.seq ?_
  refine W.region ?_
  refine WL.assign rfl rfl ?_
  refine WL.assign rfl rfl ?_
  refine WL.nil ?_
  refine WX.next ?_
  refine W.sub [(0, _)] (.cons rfl .nil) ?_
  refine W.seq ?_
  refine W.region ?_
  refine WL.assign rfl rfl ?_
  refine WL.nil ?_
  refine WX.next ?_
  refine W.sub [(0, _), (4, _)] (.cons rfl (.cons rfl .nil)) ?_
  refine W.seq ?_
  refine W.region ?_
  refine WL.assign rfl rfl ?_
  refine WL.nil ?_
  refine WX.next ?_
  refine W.sub [(0, _), (4, _), (5, _)] (.cons rfl (.cons rfl (.cons rfl .nil))) ?_
  refine W.block ?_
  refine W.loop (ι := (List FX × Nat × Nat) × (Option Addr × Nat)) (fun s => [(0, .slice A l.length cap), (4, .slice s.2.1 s.1.1.length s.2.2), (5, .int .i64 (s.1.2.1 : Int))]) (fun i w => Mem w0 w ((fun s => [Asr.lst frameE s.2.1 s.2.2 s.1.1, Asr.star (s.1.1.map FX.O)]) i) ∧ (fun s => s.1.2.1 ≤ l.length ∧ l.length < s.1.2.1 + s.1.2.2 ∧ 10 * s.1.1.length ≤ s.1.2.1 ∧ scanG l = (s.1.1.map FX.key ++ (scanN l s.1.2.2 s.1.2.1).1, (scanN l s.1.2.2 s.1.2.1).2) ∧ ∀ f ∈ s.1.1, f.x.l.length ≤ 1024) i) (fun s => s.1.2.2) ((([], 0, l.length + 1), (none, 0))) (by (repeat' (first | exact envSub.nil | refine envSub.cons ?_ ?_)) <;> first | rfl | (refine congrArg some ?_; refine congrArg (Value.int _) ?_; first | omega | (dsimp only; omega)) | (simp; done) | (refine congrArg some ?_; dsimp only; congr 1; omega) | (simp; omega)) ⟨(M.starNil).nilOwn _ _, ⟨by simp, by dsimp only; omega, by simp, by simp [scanG], by simp⟩⟩ ?_
  clear M; rintro (⟨⟨fs, at_, f⟩, B, cB⟩) w ⟨M, ⟨ha, hf, hn, hs, hb⟩⟩; dsimp only at M ha hf hn hs hb ⊢
  refine W.sub [(0, _), (4, _), (5, _)] (.cons rfl (.cons rfl (.cons rfl .nil))) ?_
  refine W.block ?_
  refine W.seq ?_
  refine W.region ?_
  refine WL.move rfl rfl ?_
  refine WL.move rfl rfl ?_
  refine WL.call Try.call20 rfl (Get_ok l A cap at_ w (by first | first | with_reducible assumption | with_reducible exact RdB.mem (by with_reducible assumption) M | exact M.rdB (by first | ((repeat (first | with_reducible exact Has.here | with_reducible refine Has.there ?_)); done) | (repeat (first | exact Has.here | refine Has.there ?_))) | exact RdH.at (by assumption) (M.sel (by first | ((repeat (first | with_reducible exact Sel.refl | with_reducible exact Sel.nil | with_reducible exact Del.here | with_reducible apply Del.there | with_reducible apply Sel.cons | with_reducible apply Sel.drop)); done) | (repeat (first | exact Sel.refl | exact Sel.nil | exact Del.here | apply Del.there | apply Sel.cons | apply Sel.drop)))) | exact M.rdLit' (by first | ((repeat (first | with_reducible exact Has.here | with_reducible refine Has.there ?_)); done) | (repeat (first | exact Has.here | refine Has.there ?_))) | exact M.rdLent (by first | ((repeat (first | with_reducible exact Has.here | with_reducible refine Has.there ?_)); done) | (repeat (first | exact Has.here | refine Has.there ?_))) | exact RdB.nil _ _ | exact RdB.sub (by first | with_reducible assumption | with_reducible exact RdB.mem (by with_reducible assumption) M | exact M.rdB (by first | ((repeat (first | with_reducible exact Has.here | with_reducible refine Has.there ?_)); done) | (repeat (first | exact Has.here | refine Has.there ?_))) | exact RdH.at (by assumption) (M.sel (by first | ((repeat (first | with_reducible exact Sel.refl | with_reducible exact Sel.nil | with_reducible exact Del.here | with_reducible apply Del.there | with_reducible apply Sel.cons | with_reducible apply Sel.drop)); done) | (repeat (first | exact Sel.refl | exact Sel.nil | exact Del.here | apply Del.there | apply Sel.cons | apply Sel.drop)))) | exact M.rdLit' (by first | ((repeat (first | with_reducible exact Has.here | with_reducible refine Has.there ?_)); done) | (repeat (first | exact Has.here | refine Has.there ?_))) | exact M.rdLent (by first | ((repeat (first | with_reducible exact Has.here | with_reducible refine Has.there ?_)); done) | (repeat (first | exact Has.here | refine Has.there ?_))) | exact RdB.nil _ _) (by omega) (by omega) | exact RdB.pre' (by first | with_reducible assumption | with_reducible exact RdB.mem (by with_reducible assumption) M | exact M.rdB (by first | ((repeat (first | with_reducible exact Has.here | with_reducible refine Has.there ?_)); done) | (repeat (first | exact Has.here | refine Has.there ?_))) | exact RdH.at (by assumption) (M.sel (by first | ((repeat (first | with_reducible exact Sel.refl | with_reducible exact Sel.nil | with_reducible exact Del.here | with_reducible apply Del.there | with_reducible apply Sel.cons | with_reducible apply Sel.drop)); done) | (repeat (first | exact Sel.refl | exact Sel.nil | exact Del.here | apply Del.there | apply Sel.cons | apply Sel.drop)))) | exact M.rdLit' (by first | ((repeat (first | with_reducible exact Has.here | with_reducible refine Has.there ?_)); done) | (repeat (first | exact Has.here | refine Has.there ?_))) | exact M.rdLent (by first | ((repeat (first | with_reducible exact Has.here | with_reducible refine Has.there ?_)); done) | (repeat (first | exact Has.here | refine Has.there ?_))) | exact RdB.nil _ _) (by omega) | exact RdB.suf (by first | with_reducible assumption | with_reducible exact RdB.mem (by with_reducible assumption) M | exact M.rdB (by first | ((repeat (first | with_reducible exact Has.here | with_reducible refine Has.there ?_)); done) | (repeat (first | exact Has.here | refine Has.there ?_))) | exact RdH.at (by assumption) (M.sel (by first | ((repeat (first | with_reducible exact Sel.refl | with_reducible exact Sel.nil | with_reducible exact Del.here | with_reducible apply Del.there | with_reducible apply Sel.cons | with_reducible apply Sel.drop)); done) | (repeat (first | exact Sel.refl | exact Sel.nil | exact Del.here | apply Del.there | apply Sel.cons | apply Sel.drop)))) | exact M.rdLit' (by first | ((repeat (first | with_reducible exact Has.here | with_reducible refine Has.there ?_)); done) | (repeat (first | exact Has.here | refine Has.there ?_))) | exact M.rdLent (by first | ((repeat (first | with_reducible exact Has.here | with_reducible refine Has.there ?_)); done) | (repeat (first | exact Has.here | refine Has.there ?_))) | exact RdB.nil _ _) (by omega)) (by omega) (by omega)) rfl ?_
  rintro _ w ⟨A1, cap1, rfl, m⟩
  replace M := M.call1 m; clear m
  obtain ⟨k, b, to, e, hg⟩ : ∃ k b to e, getG l at_ = (k, b, to, e) := ⟨_, _, _, _, rfl⟩
  rw [hg] at M ⊢
  obtain ⟨f, rfl⟩ : ∃ f', f = f' + 1 := ⟨f - 1, by omega⟩
  dsimp only at M ⊢
  refine WL.move rfl rfl ?_
  refine WL.extractL rfl rfl rfl ?_
  refine WL.extractL rfl rfl rfl ?_
  refine WL.extractL rfl rfl rfl ?_
  refine WL.alloc Try.zeroValue38 M rfl ?_
  intro g3_7 w M
  try simp only [Value.cells] at M
  refine WL.storeWA Try.sizeOf38 rfl rfl (by simp [Value.cells, Value.oneCell']) rfl rfl M (by first | ((repeat (first | with_reducible exact Upd.here | with_reducible apply Upd.there)); done) | (repeat (first | exact Upd.here | apply Upd.there))) ?_
  intro w M
  refine WL.assign rfl rfl ?_
  refine WL.assign rfl rfl ?_
  refine WL.nil ?_
  refine WX.next ?_
  refine W.sub [(0, _), (4, _), (5, _), (6, _), (7, _), (8, _)] (.cons rfl (.cons rfl (.cons rfl (.cons rfl (.cons rfl (.cons rfl .nil)))))) ?_
  refine W.seq ?_
  refine W.seq ?_
  refine W.region ?_
  refine WL.move rfl rfl ?_
  refine WL.neI rfl rfl rfl ?_
  refine WL.nil ?_
  refine WX.next ?_
  refine W.sub [(0, _), (4, _), (5, _), (6, _), (7, _), (17, _)] (.cons rfl (.cons rfl (.cons rfl (.cons rfl (.cons rfl (.cons rfl .nil)))))) ?_
  refine W.ite rfl (fun c0 => ?_) (fun c0 => ?_)
  · rw [scanN, if_pos (by rw [hg]; exact c0)] at hs
    refine W.seq ?_
    refine W.region ?_
    refine WL.move rfl rfl ?_
    refine WL.move rfl rfl ?_
    refine WL.assign rfl rfl ?_
    refine WL.assign rfl rfl ?_
    refine WL.nil ?_
    refine WX.next ?_
    refine W.sub [(2, _), (3, _)] (.cons rfl (.cons rfl .nil)) ?_
    refine W.ret ?_
    refine WX.thenRet ?_
    refine WX.blockRet ?_
    refine WX.thenRet ?_
    refine WX.blockRet ?_
    refine WX.ret2 rfl rfl rfl ?_
    exact ⟨B, cB, fs, by rw [hs], by rw [hs]; simp, hb, by omega, M.sel (by first | ((repeat (first | with_reducible exact Sel.refl | with_reducible exact Sel.nil | with_reducible exact Del.here | with_reducible apply Del.there | with_reducible apply Sel.cons | with_reducible apply Sel.drop)); done) | (repeat (first | exact Sel.refl | exact Sel.nil | exact Del.here | apply Del.there | apply Sel.cons | apply Sel.drop)))⟩
  · have he : e = 0 := by omega
    subst he
    obtain ⟨to', ht, ht1, ht2, hb1⟩ := getG_range ha (by rw [hg])
    rw [hg] at ht hb1
    dsimp only at ht hb1
    subst ht
    rw [scanN, if_neg (by rw [hg]; simp)] at hs
    rw [hg] at hs
    dsimp only at hs
    rw [Int.toNat_natCast] at hs
    refine W.skip ?_
    refine WX.next ?_
    refine W.seq ?_
    refine W.region ?_
    refine WL.move rfl rfl ?_
    refine WL.loadW Try.isAgg38 Try.sizeOf38 rfl M (by first | ((repeat (first | with_reducible exact Has.here | with_reducible refine Has.there ?_)); done) | (repeat (first | exact Has.here | refine Has.there ?_))) rfl rfl ?_
    refine WL.buildL (E := frameE) (l := [⟨k, ⟨A1, cap1, b⟩⟩]) Try.elem38 M rfl rfl rfl rfl rfl rfl ?_
    intro g6_2 w M
    refine WL.appendL (E := frameE) Try.elem38 rfl rfl M (by first | ((repeat (first | with_reducible exact Del.here | with_reducible apply Del.there)); done) | (repeat (first | exact Del.here | apply Del.there))) (by first | with_reducible assumption | with_reducible exact RdL.mem (by with_reducible assumption) M | exact M.rdL (by first | ((repeat (first | with_reducible exact Has.here | with_reducible refine Has.there ?_)); done) | (repeat (first | exact Has.here | refine Has.there ?_))) | exact RdLH.at (by assumption) (M.sel (by first | ((repeat (first | with_reducible exact Sel.refl | with_reducible exact Sel.nil | with_reducible exact Del.here | with_reducible apply Del.there | with_reducible apply Sel.cons | with_reducible apply Sel.drop)); done) | (repeat (first | exact Sel.refl | exact Sel.nil | exact Del.here | apply Del.there | apply Sel.cons | apply Sel.drop)))) | exact RdL.nil _ _ _) rfl rfl (by simp only [List.length_cons, List.length_nil]; omega) (by simp only [maxLen, List.length_cons, List.length_nil]; omega) rfl ?_
    intro A6_3 cap6_3 w M
    refine WL.assign rfl rfl ?_
    refine WL.nil ?_
    refine WX.next ?_
    refine W.sub [(0, _), (4, _), (7, _)] (.cons rfl (.cons rfl (.cons rfl .nil))) ?_
    refine W.region ?_
    refine WL.move rfl rfl ?_
    refine WL.assign rfl rfl ?_
    refine WL.nil ?_
    refine WX.blockNormal ?_
    have M2 : Mem w0 w [Asr.lst frameE A6_3 cap6_3 (fs ++ [(⟨k, ⟨A1, cap1, b⟩⟩ : FX)]), Asr.star ((fs ++ [(⟨k, ⟨A1, cap1, b⟩⟩ : FX)]).map FX.O)] := by
      rw [List.map_append]
      exact Mem.f1 (Mem.starSnoc (A := FX.O ⟨k, ⟨A1, cap1, b⟩⟩) (M.sel (K := [Asr.own 5 1 A1 b.length cap1 (bs b), Asr.star (fs.map FX.O), Asr.lst frameE A6_3 cap6_3 (fs ++ [(⟨k, ⟨A1, cap1, b⟩⟩ : FX)])]) (by first | ((repeat (first | with_reducible exact Sel.refl | with_reducible exact Sel.nil | with_reducible exact Del.here | with_reducible apply Del.there | with_reducible apply Sel.cons | with_reducible apply Sel.drop)); done) | (repeat (first | exact Sel.refl | exact Sel.nil | exact Del.here | apply Del.there | apply Sel.cons | apply Sel.drop)))))
    clear M; have M := M2; clear M2
    have q2 : ∀ f ∈ fs ++ [(⟨k, ⟨A1, cap1, b⟩⟩ : FX)], f.x.l.length ≤ 1024 := by
      intro f hf
      rcases List.mem_append.1 hf with hf | hf
      · exact hb f hf
      · rw [List.mem_singleton] at hf; subst hf; exact hb1
    have q1 : scanG l = ((fs ++ [(⟨k, ⟨A1, cap1, b⟩⟩ : FX)]).map FX.key ++ (scanN l f to').1, (scanN l f to').2) := by rw [hs]; simp [FX.key]
    refine WX.round (((fs ++ [⟨k, ⟨A1, cap1, b⟩⟩], to', f), (A6_3, cap6_3))) (by (repeat' (first | exact envSub.nil | refine envSub.cons ?_ ?_)) <;> first | rfl | (refine congrArg some ?_; refine congrArg (Value.int _) ?_; first | omega | (dsimp only; omega)) | (simp; done) | (refine congrArg some ?_; dsimp only; congr 1; omega) | (simp; omega)) ⟨M.sel (by first | ((repeat (first | with_reducible exact Sel.refl | with_reducible exact Sel.nil | with_reducible exact Del.here | with_reducible apply Del.there | with_reducible apply Sel.cons | with_reducible apply Sel.drop)); done) | (repeat (first | exact Sel.refl | exact Sel.nil | exact Del.here | apply Del.there | apply Sel.cons | apply Sel.drop))), ⟨ht2, by dsimp only; omega, by simp; omega, q1, q2⟩⟩ (by first | omega | (dsimp only; omega))
theorem refScan_ok (l : List UInt8) (A : Option Addr) (cap : Nat) (w0 : World) (h : RdB w0 A cap l) (hl : l.length ≤ 1000000) :
    Fn Try.prog 25 [.slice A l.length cap] w0 fun v w' => Scans l v w0 w' := by
  have M := Mem.refl w0
  refine Fn.enter Try.func25 rfl Try.ntmps25 rfl ?_
  refine W.sub [(0, _)] (.cons rfl .nil) ?_
  refine W.seq ?_
  refine W.region ?_
  refine WL.assign rfl rfl ?_
  refine WL.assign rfl rfl ?_
  refine WL.nil ?_
  refine WX.next ?_
  refine W.sub [(0, _)] (.cons rfl .nil) ?_
  refine W.seq ?_
  refine W.region ?_
  refine WL.assign rfl rfl ?_
  refine WL.nil ?_
  refine WX.next ?_
  refine W.sub [(0, _), (4, _)] (.cons rfl (.cons rfl .nil)) ?_
  refine W.seq ?_
  refine W.region ?_
  refine WL.assign rfl rfl ?_
  refine WL.nil ?_
  refine WX.next ?_
  refine W.sub [(0, _), (4, _), (5, _)] (.cons rfl (.cons rfl (.cons rfl .nil))) ?_
  refine W.block ?_
  refine W.loop (ι := (List FX × Nat × Nat) × (Option Addr × Nat)) (fun s => [(0, .slice A l.length cap), (4, .slice s.2.1 s.1.1.length s.2.2), (5, .int .i64 (s.1.2.1 : Int))]) (fun i w => Mem w0 w ((fun s => [Asr.lst frameE s.2.1 s.2.2 s.1.1, Asr.star (s.1.1.map FX.O)]) i) ∧ (fun s => s.1.2.1 ≤ l.length ∧ l.length < s.1.2.1 + s.1.2.2 ∧ 10 * s.1.1.length ≤ s.1.2.1 ∧ scanG l = (s.1.1.map FX.key ++ (scanN l s.1.2.2 s.1.2.1).1, (scanN l s.1.2.2 s.1.2.1).2) ∧ ∀ f ∈ s.1.1, f.x.l.length ≤ 1024) i) (fun s => s.1.2.2) ((([], 0, l.length + 1), (none, 0))) (by (repeat' (first | exact envSub.nil | refine envSub.cons ?_ ?_)) <;> first | rfl | (refine congrArg some ?_; refine congrArg (Value.int _) ?_; first | omega | (dsimp only; omega)) | (simp; done) | (refine congrArg some ?_; dsimp only; congr 1; omega) | (simp; omega)) ⟨(M.starNil).nilOwn _ _, ⟨by simp, by dsimp only; omega, by simp, by simp [scanG], by simp⟩⟩ ?_
  clear M; rintro (⟨⟨fs, at_, f⟩, B, cB⟩) w ⟨M, ⟨ha, hf, hn, hs, hb⟩⟩; dsimp only at M ha hf hn hs hb ⊢
  refine W.sub [(0, _), (4, _), (5, _)] (.cons rfl (.cons rfl (.cons rfl .nil))) ?_
  refine W.block ?_
  refine W.seq ?_
  refine W.region ?_
  refine WL.move rfl rfl ?_
  refine WL.move rfl rfl ?_
  refine WL.call Try.call21 rfl (refGet_ok l A cap at_ w (by first | first | with_reducible assumption | with_reducible exact RdB.mem (by with_reducible assumption) M | exact M.rdB (by first | ((repeat (first | with_reducible exact Has.here | with_reducible refine Has.there ?_)); done) | (repeat (first | exact Has.here | refine Has.there ?_))) | exact RdH.at (by assumption) (M.sel (by first | ((repeat (first | with_reducible exact Sel.refl | with_reducible exact Sel.nil | with_reducible exact Del.here | with_reducible apply Del.there | with_reducible apply Sel.cons | with_reducible apply Sel.drop)); done) | (repeat (first | exact Sel.refl | exact Sel.nil | exact Del.here | apply Del.there | apply Sel.cons | apply Sel.drop)))) | exact M.rdLit' (by first | ((repeat (first | with_reducible exact Has.here | with_reducible refine Has.there ?_)); done) | (repeat (first | exact Has.here | refine Has.there ?_))) | exact M.rdLent (by first | ((repeat (first | with_reducible exact Has.here | with_reducible refine Has.there ?_)); done) | (repeat (first | exact Has.here | refine Has.there ?_))) | exact RdB.nil _ _ | exact RdB.sub (by first | with_reducible assumption | with_reducible exact RdB.mem (by with_reducible assumption) M | exact M.rdB (by first | ((repeat (first | with_reducible exact Has.here | with_reducible refine Has.there ?_)); done) | (repeat (first | exact Has.here | refine Has.there ?_))) | exact RdH.at (by assumption) (M.sel (by first | ((repeat (first | with_reducible exact Sel.refl | with_reducible exact Sel.nil | with_reducible exact Del.here | with_reducible apply Del.there | with_reducible apply Sel.cons | with_reducible apply Sel.drop)); done) | (repeat (first | exact Sel.refl | exact Sel.nil | exact Del.here | apply Del.there | apply Sel.cons | apply Sel.drop)))) | exact M.rdLit' (by first | ((repeat (first | with_reducible exact Has.here | with_reducible refine Has.there ?_)); done) | (repeat (first | exact Has.here | refine Has.there ?_))) | exact M.rdLent (by first | ((repeat (first | with_reducible exact Has.here | with_reducible refine Has.there ?_)); done) | (repeat (first | exact Has.here | refine Has.there ?_))) | exact RdB.nil _ _) (by omega) (by omega) | exact RdB.pre' (by first | with_reducible assumption | with_reducible exact RdB.mem (by with_reducible assumption) M | exact M.rdB (by first | ((repeat (first | with_reducible exact Has.here | with_reducible refine Has.there ?_)); done) | (repeat (first | exact Has.here | refine Has.there ?_))) | exact RdH.at (by assumption) (M.sel (by first | ((repeat (first | with_reducible exact Sel.refl | with_reducible exact Sel.nil | with_reducible exact Del.here | with_reducible apply Del.there | with_reducible apply Sel.cons | with_reducible apply Sel.drop)); done) | (repeat (first | exact Sel.refl | exact Sel.nil | exact Del.here | apply Del.there | apply Sel.cons | apply Sel.drop)))) | exact M.rdLit' (by first | ((repeat (first | with_reducible exact Has.here | with_reducible refine Has.there ?_)); done) | (repeat (first | exact Has.here | refine Has.there ?_))) | exact M.rdLent (by first | ((repeat (first | with_reducible exact Has.here | with_reducible refine Has.there ?_)); done) | (repeat (first | exact Has.here | refine Has.there ?_))) | exact RdB.nil _ _) (by omega) | exact RdB.suf (by first | with_reducible assumption | with_reducible exact RdB.mem (by with_reducible assumption) M | exact M.rdB (by first | ((repeat (first | with_reducible exact Has.here | with_reducible refine Has.there ?_)); done) | (repeat (first | exact Has.here | refine Has.there ?_))) | exact RdH.at (by assumption) (M.sel (by first | ((repeat (first | with_reducible exact Sel.refl | with_reducible exact Sel.nil | with_reducible exact Del.here | with_reducible apply Del.there | with_reducible apply Sel.cons | with_reducible apply Sel.drop)); done) | (repeat (first | exact Sel.refl | exact Sel.nil | exact Del.here | apply Del.there | apply Sel.cons | apply Sel.drop)))) | exact M.rdLit' (by first | ((repeat (first | with_reducible exact Has.here | with_reducible refine Has.there ?_)); done) | (repeat (first | exact Has.here | refine Has.there ?_))) | exact M.rdLent (by first | ((repeat (first | with_reducible exact Has.here | with_reducible refine Has.there ?_)); done) | (repeat (first | exact Has.here | refine Has.there ?_))) | exact RdB.nil _ _) (by omega)) (by omega) (by omega)) rfl ?_
  rintro _ w ⟨A1, cap1, rfl, m⟩
  replace M := M.call1 m; clear m
  obtain ⟨k, b, to, e, hg⟩ : ∃ k b to e, getG l at_ = (k, b, to, e) := ⟨_, _, _, _, rfl⟩
  rw [hg] at M ⊢
  obtain ⟨f, rfl⟩ : ∃ f', f = f' + 1 := ⟨f - 1, by omega⟩
  dsimp only at M ⊢
  refine WL.move rfl rfl ?_
  refine WL.extractL rfl rfl rfl ?_
  refine WL.extractL rfl rfl rfl ?_
  refine WL.extractL rfl rfl rfl ?_
  refine WL.alloc Try.zeroValue38 M rfl ?_
  intro g3_7 w M
  try simp only [Value.cells] at M
  refine WL.storeWA Try.sizeOf38 rfl rfl (by simp [Value.cells, Value.oneCell']) rfl rfl M (by first | ((repeat (first | with_reducible exact Upd.here | with_reducible apply Upd.there)); done) | (repeat (first | exact Upd.here | apply Upd.there))) ?_
  intro w M
  refine WL.assign rfl rfl ?_
  refine WL.assign rfl rfl ?_
  refine WL.nil ?_
  refine WX.next ?_
  refine W.sub [(0, _), (4, _), (5, _), (6, _), (7, _), (8, _)] (.cons rfl (.cons rfl (.cons rfl (.cons rfl (.cons rfl (.cons rfl .nil)))))) ?_
  refine W.seq ?_
  refine W.seq ?_
  refine W.region ?_
  refine WL.move rfl rfl ?_
  refine WL.neI rfl rfl rfl ?_
  refine WL.nil ?_
  refine WX.next ?_
  refine W.sub [(0, _), (4, _), (5, _), (6, _), (7, _), (17, _)] (.cons rfl (.cons rfl (.cons rfl (.cons rfl (.cons rfl (.cons rfl .nil)))))) ?_
  refine W.ite rfl (fun c0 => ?_) (fun c0 => ?_)
  · rw [scanN, if_pos (by rw [hg]; exact c0)] at hs
    refine W.seq ?_
    refine W.region ?_
    refine WL.move rfl rfl ?_
    refine WL.move rfl rfl ?_
    refine WL.assign rfl rfl ?_
    refine WL.assign rfl rfl ?_
    refine WL.nil ?_
    refine WX.next ?_
    refine W.sub [(2, _), (3, _)] (.cons rfl (.cons rfl .nil)) ?_
    refine W.ret ?_
    refine WX.thenRet ?_
    refine WX.blockRet ?_
    refine WX.thenRet ?_
    refine WX.blockRet ?_
    refine WX.ret2 rfl rfl rfl ?_
    exact ⟨B, cB, fs, by rw [hs], by rw [hs]; simp, hb, by omega, M.sel (by first | ((repeat (first | with_reducible exact Sel.refl | with_reducible exact Sel.nil | with_reducible exact Del.here | with_reducible apply Del.there | with_reducible apply Sel.cons | with_reducible apply Sel.drop)); done) | (repeat (first | exact Sel.refl | exact Sel.nil | exact Del.here | apply Del.there | apply Sel.cons | apply Sel.drop)))⟩
  · have he : e = 0 := by omega
    subst he
    obtain ⟨to', ht, ht1, ht2, hb1⟩ := getG_range ha (by rw [hg])
    rw [hg] at ht hb1
    dsimp only at ht hb1
    subst ht
    rw [scanN, if_neg (by rw [hg]; simp)] at hs
    rw [hg] at hs
    dsimp only at hs
    rw [Int.toNat_natCast] at hs
    refine W.skip ?_
    refine WX.next ?_
    refine W.seq ?_
    refine W.region ?_
    refine WL.move rfl rfl ?_
    refine WL.loadW Try.isAgg38 Try.sizeOf38 rfl M (by first | ((repeat (first | with_reducible exact Has.here | with_reducible refine Has.there ?_)); done) | (repeat (first | exact Has.here | refine Has.there ?_))) rfl rfl ?_
    refine WL.buildL (E := frameE) (l := [⟨k, ⟨A1, cap1, b⟩⟩]) Try.elem38 M rfl rfl rfl rfl rfl rfl ?_
    intro g6_2 w M
    refine WL.appendL (E := frameE) Try.elem38 rfl rfl M (by first | ((repeat (first | with_reducible exact Del.here | with_reducible apply Del.there)); done) | (repeat (first | exact Del.here | apply Del.there))) (by first | with_reducible assumption | with_reducible exact RdL.mem (by with_reducible assumption) M | exact M.rdL (by first | ((repeat (first | with_reducible exact Has.here | with_reducible refine Has.there ?_)); done) | (repeat (first | exact Has.here | refine Has.there ?_))) | exact RdLH.at (by assumption) (M.sel (by first | ((repeat (first | with_reducible exact Sel.refl | with_reducible exact Sel.nil | with_reducible exact Del.here | with_reducible apply Del.there | with_reducible apply Sel.cons | with_reducible apply Sel.drop)); done) | (repeat (first | exact Sel.refl | exact Sel.nil | exact Del.here | apply Del.there | apply Sel.cons | apply Sel.drop)))) | exact RdL.nil _ _ _) rfl rfl (by simp only [List.length_cons, List.length_nil]; omega) (by simp only [maxLen, List.length_cons, List.length_nil]; omega) rfl ?_
    intro A6_3 cap6_3 w M
    refine WL.assign rfl rfl ?_
    refine WL.nil ?_
    refine WX.next ?_
    refine W.sub [(0, _), (4, _), (7, _)] (.cons rfl (.cons rfl (.cons rfl .nil))) ?_
    refine W.region ?_
    refine WL.move rfl rfl ?_
    refine WL.assign rfl rfl ?_
    refine WL.nil ?_
    refine WX.blockNormal ?_
    have M2 : Mem w0 w [Asr.lst frameE A6_3 cap6_3 (fs ++ [(⟨k, ⟨A1, cap1, b⟩⟩ : FX)]), Asr.star ((fs ++ [(⟨k, ⟨A1, cap1, b⟩⟩ : FX)]).map FX.O)] := by
      rw [List.map_append]
      exact Mem.f1 (Mem.starSnoc (A := FX.O ⟨k, ⟨A1, cap1, b⟩⟩) (M.sel (K := [Asr.own 5 1 A1 b.length cap1 (bs b), Asr.star (fs.map FX.O), Asr.lst frameE A6_3 cap6_3 (fs ++ [(⟨k, ⟨A1, cap1, b⟩⟩ : FX)])]) (by first | ((repeat (first | with_reducible exact Sel.refl | with_reducible exact Sel.nil | with_reducible exact Del.here | with_reducible apply Del.there | with_reducible apply Sel.cons | with_reducible apply Sel.drop)); done) | (repeat (first | exact Sel.refl | exact Sel.nil | exact Del.here | apply Del.there | apply Sel.cons | apply Sel.drop)))))
    clear M; have M := M2; clear M2
    have q2 : ∀ f ∈ fs ++ [(⟨k, ⟨A1, cap1, b⟩⟩ : FX)], f.x.l.length ≤ 1024 := by
      intro f hf
      rcases List.mem_append.1 hf with hf | hf
      · exact hb f hf
      · rw [List.mem_singleton] at hf; subst hf; exact hb1
    have q1 : scanG l = ((fs ++ [(⟨k, ⟨A1, cap1, b⟩⟩ : FX)]).map FX.key ++ (scanN l f to').1, (scanN l f to').2) := by rw [hs]; simp [FX.key]
    refine WX.round (((fs ++ [⟨k, ⟨A1, cap1, b⟩⟩], to', f), (A6_3, cap6_3))) (by (repeat' (first | exact envSub.nil | refine envSub.cons ?_ ?_)) <;> first | rfl | (refine congrArg some ?_; refine congrArg (Value.int _) ?_; first | omega | (dsimp only; omega)) | (simp; done) | (refine congrArg some ?_; dsimp only; congr 1; omega) | (simp; omega)) ⟨M.sel (by first | ((repeat (first | with_reducible exact Sel.refl | with_reducible exact Sel.nil | with_reducible exact Del.here | with_reducible apply Del.there | with_reducible apply Sel.cons | with_reducible apply Sel.drop)); done) | (repeat (first | exact Sel.refl | exact Sel.nil | exact Del.here | apply Del.there | apply Sel.cons | apply Sel.drop))), ⟨ht2, by dsimp only; omega, by simp; omega, q1, q2⟩⟩ (by first | omega | (dsimp only; omega))


theorem take_key {l : List FX} {k : Nat} (hk : k < l.length) : (l.take (k + 1)).map FX.key = (l.take k).map FX.key ++ [(el l k).key] := by
  rw [List.take_add_one, el_get hk]
  simp
theorem Same2_ok {A1 A2 : Option Addr} {c1 c2 : Nat} {l1 l2 : List FX} {w0 : World} (h1 : RdL w0 frameE A1 c1 l1) (h2 : RdL w0 frameE A2 c2 l2)
    (hb1 : ∀ f ∈ l1, RdB w0 f.x.A f.x.cap f.x.l) (hb2 : ∀ f ∈ l2, RdB w0 f.x.A f.x.cap f.x.l) (hl : l1.length ≤ 1000000) :
    Fn Try.prog 26 [.slice A1 l1.length c1, .slice A2 l2.length c2] w0 fun v w' => v = .bool (decide (l1.map FX.key = l2.map FX.key)) ∧ Mem w0 w' [] := by
  have M := Mem.refl w0
  obtain ⟨w, hw⟩ : ∃ w, w = w0 := ⟨w0, rfl⟩
  refine Fn.enter Try.func26 rfl Try.ntmps26 rfl ?_
  refine W.sub [(0, _), (1, _)] (.cons rfl (.cons rfl .nil)) ?_
  refine W.seq ?_
  refine W.region ?_
  refine WL.assign rfl rfl ?_
  refine WL.nil ?_
  refine WX.next ?_
  refine W.sub [(0, _), (1, _)] (.cons rfl (.cons rfl .nil)) ?_
  refine W.seq ?_
  refine W.seq ?_
  refine W.region ?_
  refine WL.move rfl rfl ?_
  refine WL.len Try.underlying47 rfl rfl ?_
  refine WL.move rfl rfl ?_
  refine WL.len Try.underlying47 rfl rfl ?_
  refine WL.neI rfl rfl rfl ?_
  refine WL.nil ?_
  refine WX.next ?_
  refine W.sub [(0, _), (1, _), (10, _)] (.cons rfl (.cons rfl (.cons rfl .nil))) ?_
  refine W.ite rfl (fun c0 => ?_) (fun c0 => ?_)
  · refine W.seq ?_
    refine W.region ?_
    refine WL.assign rfl rfl ?_
    refine WL.nil ?_
    refine WX.next ?_
    refine W.sub [(4, _)] (.cons rfl .nil) ?_
    refine W.ret ?_
    refine WX.thenRet ?_
    refine WX.ret1 rfl rfl ?_
    exact ⟨by rw [decide_eq_false (fun h => c0 (by have := congrArg List.length h; simp at this; omega))], M⟩
  · refine W.skip ?_
    refine WX.next ?_
    refine W.seq ?_
    refine W.seq ?_
    refine W.region ?_
    refine WL.assign rfl rfl ?_
    refine WL.nil ?_
    refine WX.next ?_
    refine W.sub [(0, _), (1, _), (5, _)] (.cons rfl (.cons rfl (.cons rfl .nil))) ?_
    refine W.block ?_
    refine W.loop (ι := Nat) (fun k => [(0, .slice A1 l1.length c1), (1, .slice A2 l2.length c2), (5, .int .i64 (k : Int))]) (fun i w => Mem w0 w ((fun _ => []) i) ∧ (fun k => k ≤ l1.length ∧ (l1.take k).map FX.key = (l2.take k).map FX.key) i) (fun k => l1.length - k) (0) (by (repeat' (first | exact envSub.nil | refine envSub.cons ?_ ?_)) <;> first | rfl | (refine congrArg some ?_; refine congrArg (Value.int _) ?_; first | omega | (dsimp only; omega)) | (simp; done) | (refine congrArg some ?_; dsimp only; congr 1; omega) | (simp; omega)) ⟨M.sel (by first | ((repeat (first | with_reducible exact Sel.refl | with_reducible exact Sel.nil | with_reducible exact Del.here | with_reducible apply Del.there | with_reducible apply Sel.cons | with_reducible apply Sel.drop)); done) | (repeat (first | exact Sel.refl | exact Sel.nil | exact Del.here | apply Del.there | apply Sel.cons | apply Sel.drop))), (by first | trivial | omega | (dsimp only; omega) | (simp; done) | (simp; omega) | (refine ⟨?_, ?_⟩ <;> first | omega | (dsimp only; omega) | (simp; done)))⟩ ?_
    clear M; rintro (k) w ⟨M, ⟨hk, hs⟩⟩; dsimp only at M hk hs ⊢
    refine W.sub [(0, _), (1, _), (5, _)] (.cons rfl (.cons rfl (.cons rfl .nil))) ?_
    refine W.seq ?_
    refine W.seq ?_
    refine W.region ?_
    refine WL.move rfl rfl ?_
    refine WL.move rfl rfl ?_
    refine WL.len Try.underlying47 rfl rfl ?_
    refine WL.lss rfl rfl rfl ?_
    refine WL.nil ?_
    refine WX.next ?_
    refine W.sub [(0, _), (1, _), (5, _), (14, _)] (.cons rfl (.cons rfl (.cons rfl (.cons rfl .nil)))) ?_
    refine W.ite rfl (fun c1 => ?_) (fun c1 => ?_)
    · have e1 := take_key (l := l1) (k := k) (by omega)
      have e2 := take_key (l := l2) (k := k) (by omega)
      refine W.skip ?_
      refine WX.next ?_
      refine W.seq ?_
      refine W.block ?_
      refine W.seq ?_
      refine W.drawM (_) (by kernel_rfl) (fun j => [4, 9, 12, 13, 14, 15, 16, 17, 18, 19, 20, 21, 22, 23].contains j) M Sel.refl ?_
      clear M; intro M
      apply DG.pure_ [0, 1, 2, 3, 5, 6, 7, 8] 18 rfl (by kernel_rfl) (by kernel_rfl)
      · intro w
        refine WL.move rfl rfl ?_
        refine WL.move rfl rfl ?_
        refine WL.idxA Try.underlying47 Try.sizeOf38 rfl rfl (RdL.isSome (E := frameE) (by first | with_reducible assumption | with_reducible exact RdL.mem (by with_reducible assumption) M | exact M.rdL (by first | ((repeat (first | with_reducible exact Has.here | with_reducible refine Has.there ?_)); done) | (repeat (first | exact Has.here | refine Has.there ?_))) | exact RdLH.at (by assumption) (M.sel (by first | ((repeat (first | with_reducible exact Sel.refl | with_reducible exact Sel.nil | with_reducible exact Del.here | with_reducible apply Del.there | with_reducible apply Sel.cons | with_reducible apply Sel.drop)); done) | (repeat (first | exact Sel.refl | exact Sel.nil | exact Del.here | apply Del.there | apply Sel.cons | apply Sel.drop)))) | exact RdL.nil _ _ _) (by omega)) (by omega) (by omega) (by first | exact rfl | exact (Int.toNat_of_nonneg (by omega)).symm) rfl ?_
        refine WL.fieldA (off := 0) Try.underlying38 rfl rfl Try.sizeOf5 rfl rfl rfl ?_
        refine WL.move rfl rfl ?_
        refine WL.move rfl rfl ?_
        refine WL.idxA Try.underlying47 Try.sizeOf38 rfl rfl (RdL.isSome (E := frameE) (by first | with_reducible assumption | with_reducible exact RdL.mem (by with_reducible assumption) M | exact M.rdL (by first | ((repeat (first | with_reducible exact Has.here | with_reducible refine Has.there ?_)); done) | (repeat (first | exact Has.here | refine Has.there ?_))) | exact RdLH.at (by assumption) (M.sel (by first | ((repeat (first | with_reducible exact Sel.refl | with_reducible exact Sel.nil | with_reducible exact Del.here | with_reducible apply Del.there | with_reducible apply Sel.cons | with_reducible apply Sel.drop)); done) | (repeat (first | exact Sel.refl | exact Sel.nil | exact Del.here | apply Del.there | apply Sel.cons | apply Sel.drop)))) | exact RdL.nil _ _ _) (by omega)) (by omega) (by omega) (by first | exact rfl | exact (Int.toNat_of_nonneg (by omega)).symm) rfl ?_
        refine WL.fieldA (off := 0) Try.underlying38 rfl rfl Try.sizeOf5 rfl rfl rfl ?_
        exact Chain.end_ rfl
      apply DG.take [4, 9, 10] 15 rfl (by kernel_rfl) (by kernel_rfl) (M.sel (by first | ((repeat (first | with_reducible exact Sel.refl | with_reducible exact Sel.nil | with_reducible exact Del.here | with_reducible apply Del.there | with_reducible apply Sel.cons | with_reducible apply Sel.drop)); done) | (repeat (first | exact Sel.refl | exact Sel.nil | exact Del.here | apply Del.there | apply Sel.cons | apply Sel.drop))))
      · intro w M
        refine WL.loadE (E := frameE) Try.isAgg5 rfl (by first | with_reducible assumption | with_reducible exact RdL.mem (by with_reducible assumption) M | exact M.rdL (by first | ((repeat (first | with_reducible exact Has.here | with_reducible refine Has.there ?_)); done) | (repeat (first | exact Has.here | refine Has.there ?_))) | exact RdLH.at (by assumption) (M.sel (by first | ((repeat (first | with_reducible exact Sel.refl | with_reducible exact Sel.nil | with_reducible exact Del.here | with_reducible apply Del.there | with_reducible apply Sel.cons | with_reducible apply Sel.drop)); done) | (repeat (first | exact Sel.refl | exact Sel.nil | exact Del.here | apply Del.there | apply Sel.cons | apply Sel.drop)))) | exact RdL.nil _ _ _) (by omega) rfl rfl ?_
        refine WL.loadE (E := frameE) Try.isAgg5 rfl (by first | with_reducible assumption | with_reducible exact RdL.mem (by with_reducible assumption) M | exact M.rdL (by first | ((repeat (first | with_reducible exact Has.here | with_reducible refine Has.there ?_)); done) | (repeat (first | exact Has.here | refine Has.there ?_))) | exact RdLH.at (by assumption) (M.sel (by first | ((repeat (first | with_reducible exact Sel.refl | with_reducible exact Sel.nil | with_reducible exact Del.here | with_reducible apply Del.there | with_reducible apply Sel.cons | with_reducible apply Sel.drop)); done) | (repeat (first | exact Sel.refl | exact Sel.nil | exact Del.here | apply Del.there | apply Sel.cons | apply Sel.drop)))) | exact RdL.nil _ _ _) (by omega) rfl rfl ?_
        refine WL.neI rfl rfl rfl ?_
        exact Chain.end_ rfl
      refine DG.knowP (t := 27) rfl (fun c2 => ?_) (fun c2 => ?_)
      · apply DG.pure_ [11] 14 rfl (by kernel_rfl) (by kernel_rfl)
        · intro w
          refine WL.move rfl rfl ?_
          exact Chain.end_ rfl
        apply DG.take [12, 13, 14, 15, 16, 17, 18, 19, 20, 21, 22, 23, 24, 25] 0 rfl (by kernel_rfl) (by kernel_rfl) (M.sel (by first | ((repeat (first | with_reducible exact Sel.refl | with_reducible exact Sel.nil | with_reducible exact Del.here | with_reducible apply Del.there | with_reducible apply Sel.cons | with_reducible apply Sel.drop)); done) | (repeat (first | exact Sel.refl | exact Sel.nil | exact Del.here | apply Del.there | apply Sel.cons | apply Sel.drop))))
        · intro w M
          refine WL.off rfl rfl rfl rfl ?_
          refine WL.off rfl rfl rfl rfl ?_
          refine WL.off rfl rfl rfl rfl ?_
          refine WL.off rfl rfl rfl rfl ?_
          refine WL.off rfl rfl rfl rfl ?_
          refine WL.off rfl rfl rfl rfl ?_
          refine WL.off rfl rfl rfl rfl ?_
          refine WL.off rfl rfl rfl rfl ?_
          refine WL.off rfl rfl rfl rfl ?_
          refine WL.off rfl rfl rfl rfl ?_
          refine WL.off rfl rfl rfl rfl ?_
          refine WL.off rfl rfl rfl rfl ?_
          refine WL.off rfl rfl rfl rfl ?_
          refine WL.pickT rfl rfl rfl ?_
          exact Chain.end_ rfl
        refine DG.end_ (by kernel_rfl) ?_
        refine WX.next ?_
        refine W.sub [(0, _), (1, _), (5, _), (42, _)] (.cons rfl (.cons rfl (.cons rfl (.cons rfl .nil)))) ?_
        refine W.condT rfl ?_
        refine W.seq ?_
        refine W.region ?_
        refine WL.assign rfl rfl ?_
        refine WL.nil ?_
        refine WX.next ?_
        refine W.sub [(4, _)] (.cons rfl .nil) ?_
        refine W.ret ?_
        refine WX.blockRet ?_
        refine WX.thenRet ?_
        refine WX.thenRet ?_
        refine WX.blockRet ?_
        refine WX.thenRet ?_
        refine WX.ret1 rfl rfl ?_
        exact ⟨by
          rw [decide_eq_false]
          intro h
          have h3 := congrArg (fun l => (l[k]?).map (·.1)) h
          simp only [List.getElem?_map, el_get (show k < l1.length by omega), el_get (show k < l2.length by omega), Option.map_some, FX.key, Option.some.injEq] at h3
          exact c2 (by rw [h3]), M⟩
      · apply DG.pure_ [11] 14 rfl (by kernel_rfl) (by kernel_rfl)
        · intro w
          refine WL.move rfl rfl ?_
          exact Chain.end_ rfl
        apply DG.take [12, 13, 14, 15, 16, 17, 18, 19, 20, 21, 22, 23, 24, 25] 0 rfl (by kernel_rfl) (by kernel_rfl) (M.sel (by first | ((repeat (first | with_reducible exact Sel.refl | with_reducible exact Sel.nil | with_reducible exact Del.here | with_reducible apply Del.there | with_reducible apply Sel.cons | with_reducible apply Sel.drop)); done) | (repeat (first | exact Sel.refl | exact Sel.nil | exact Del.here | apply Del.there | apply Sel.cons | apply Sel.drop))))
        · intro w M
          refine WL.on rfl rfl ?_
          refine WL.move rfl rfl ?_
          refine WL.on rfl rfl ?_
          refine WL.move rfl rfl ?_
          refine WL.on rfl rfl ?_
          refine WL.idxA Try.underlying47 Try.sizeOf38 rfl rfl (RdL.isSome (E := frameE) (by first | with_reducible assumption | with_reducible exact RdL.mem (by with_reducible assumption) M | exact M.rdL (by first | ((repeat (first | with_reducible exact Has.here | with_reducible refine Has.there ?_)); done) | (repeat (first | exact Has.here | refine Has.there ?_))) | exact RdLH.at (by assumption) (M.sel (by first | ((repeat (first | with_reducible exact Sel.refl | with_reducible exact Sel.nil | with_reducible exact Del.here | with_reducible apply Del.there | with_reducible apply Sel.cons | with_reducible apply Sel.drop)); done) | (repeat (first | exact Sel.refl | exact Sel.nil | exact Del.here | apply Del.there | apply Sel.cons | apply Sel.drop)))) | exact RdL.nil _ _ _) (by omega)) (by omega) (by omega) (by first | exact rfl | exact (Int.toNat_of_nonneg (by omega)).symm) rfl ?_
          refine WL.on rfl rfl ?_
          refine WL.fieldA (off := 1) Try.underlying38 rfl rfl Try.sizeOf22 rfl rfl rfl ?_
          refine WL.on rfl rfl ?_
          refine WL.loadE (E := frameE) Try.isAgg22 rfl (by first | with_reducible assumption | with_reducible exact RdL.mem (by with_reducible assumption) M | exact M.rdL (by first | ((repeat (first | with_reducible exact Has.here | with_reducible refine Has.there ?_)); done) | (repeat (first | exact Has.here | refine Has.there ?_))) | exact RdLH.at (by assumption) (M.sel (by first | ((repeat (first | with_reducible exact Sel.refl | with_reducible exact Sel.nil | with_reducible exact Del.here | with_reducible apply Del.there | with_reducible apply Sel.cons | with_reducible apply Sel.drop)); done) | (repeat (first | exact Sel.refl | exact Sel.nil | exact Del.here | apply Del.there | apply Sel.cons | apply Sel.drop)))) | exact RdL.nil _ _ _) (by omega) rfl rfl ?_
          refine WL.on rfl rfl ?_
          refine WL.toStr Try.underlying22 Try.underlying5 Try.underlying9 rfl ((hb1 _ (el_mem (by omega))).mem M) rfl rfl ?_
          refine WL.on rfl rfl ?_
          refine WL.move rfl rfl ?_
          refine WL.on rfl rfl ?_
          refine WL.move rfl rfl ?_
          refine WL.on rfl rfl ?_
          refine WL.idxA Try.underlying47 Try.sizeOf38 rfl rfl (RdL.isSome (E := frameE) (by first | with_reducible assumption | with_reducible exact RdL.mem (by with_reducible assumption) M | exact M.rdL (by first | ((repeat (first | with_reducible exact Has.here | with_reducible refine Has.there ?_)); done) | (repeat (first | exact Has.here | refine Has.there ?_))) | exact RdLH.at (by assumption) (M.sel (by first | ((repeat (first | with_reducible exact Sel.refl | with_reducible exact Sel.nil | with_reducible exact Del.here | with_reducible apply Del.there | with_reducible apply Sel.cons | with_reducible apply Sel.drop)); done) | (repeat (first | exact Sel.refl | exact Sel.nil | exact Del.here | apply Del.there | apply Sel.cons | apply Sel.drop)))) | exact RdL.nil _ _ _) (by omega)) (by omega) (by omega) (by first | exact rfl | exact (Int.toNat_of_nonneg (by omega)).symm) rfl ?_
          refine WL.on rfl rfl ?_
          refine WL.fieldA (off := 1) Try.underlying38 rfl rfl Try.sizeOf22 rfl rfl rfl ?_
          refine WL.on rfl rfl ?_
          refine WL.loadE (E := frameE) Try.isAgg22 rfl (by first | with_reducible assumption | with_reducible exact RdL.mem (by with_reducible assumption) M | exact M.rdL (by first | ((repeat (first | with_reducible exact Has.here | with_reducible refine Has.there ?_)); done) | (repeat (first | exact Has.here | refine Has.there ?_))) | exact RdLH.at (by assumption) (M.sel (by first | ((repeat (first | with_reducible exact Sel.refl | with_reducible exact Sel.nil | with_reducible exact Del.here | with_reducible apply Del.there | with_reducible apply Sel.cons | with_reducible apply Sel.drop)); done) | (repeat (first | exact Sel.refl | exact Sel.nil | exact Del.here | apply Del.there | apply Sel.cons | apply Sel.drop)))) | exact RdL.nil _ _ _) (by omega) rfl rfl ?_
          refine WL.on rfl rfl ?_
          refine WL.toStr Try.underlying22 Try.underlying5 Try.underlying9 rfl ((hb2 _ (el_mem (by omega))).mem M) rfl rfl ?_
          refine WL.on rfl rfl ?_
          refine WL.neS rfl rfl rfl ?_
          refine WL.pickF rfl rfl rfl ?_
          exact Chain.end_ rfl
        refine DG.end_ (by kernel_rfl) ?_
        refine WX.next ?_
        refine W.sub [(0, _), (1, _), (5, _), (42, _)] (.cons rfl (.cons rfl (.cons rfl (.cons rfl .nil)))) ?_
        refine W.ite rfl (fun c3 => ?_) (fun c3 => ?_)
        · refine W.seq ?_
          refine W.region ?_
          refine WL.assign rfl rfl ?_
          refine WL.nil ?_
          refine WX.next ?_
          refine W.sub [(4, _)] (.cons rfl .nil) ?_
          refine W.ret ?_
          refine WX.blockRet ?_
          refine WX.thenRet ?_
          refine WX.thenRet ?_
          refine WX.blockRet ?_
          refine WX.thenRet ?_
          refine WX.ret1 rfl rfl ?_
          exact ⟨by
            rw [decide_eq_false]
            intro h
            have h3 := congrArg (fun l => (l[k]?).map (·.2)) h
            simp only [List.getElem?_map, el_get (show k < l1.length by omega), el_get (show k < l2.length by omega), Option.map_some, FX.key, Option.some.injEq] at h3
            exact c3 h3, M⟩
        · refine W.skip ?_
          refine WX.blockNormal ?_
          refine WX.next ?_
          refine W.region ?_
          refine WL.move rfl rfl ?_
          refine WL.add rfl rfl (by first | exact wI64 (by omega) | rfl) rfl ?_
          refine WL.assign rfl rfl ?_
          refine WL.nil ?_
          skip
          have q : (l1.take (k + 1)).map FX.key = (l2.take (k + 1)).map FX.key := by
            rw [e1, e2, hs]
            congr 2
            simp only [FX.key, Prod.mk.injEq]
            exact ⟨UInt8.toNat_inj.1 (by omega), by simpa using c3⟩
          refine WX.round (k + 1) (by (repeat' (first | exact envSub.nil | refine envSub.cons ?_ ?_)) <;> first | rfl | (refine congrArg some ?_; refine congrArg (Value.int _) ?_; first | omega | (dsimp only; omega)) | (simp; done) | (refine congrArg some ?_; dsimp only; congr 1; omega) | (simp; omega)) ⟨M.sel (by first | ((repeat (first | with_reducible exact Sel.refl | with_reducible exact Sel.nil | with_reducible exact Del.here | with_reducible apply Del.there | with_reducible apply Sel.cons | with_reducible apply Sel.drop)); done) | (repeat (first | exact Sel.refl | exact Sel.nil | exact Del.here | apply Del.there | apply Sel.cons | apply Sel.drop))), ⟨by omega, q⟩⟩ (by first | omega | (dsimp only; omega))
    · obtain rfl : k = l1.length := by omega
      refine W.exit ?_
      refine WX.thenExit ?_
      refine WX.thenExit ?_
      refine WX.blockHere ?_
      refine WX.next ?_
      refine W.seq ?_
      refine W.region ?_
      refine WL.assign rfl rfl ?_
      refine WL.nil ?_
      refine WX.next ?_
      refine W.sub [(4, _)] (.cons rfl .nil) ?_
      refine W.ret ?_
      refine WX.ret1 rfl rfl ?_
      exact ⟨by rw [decide_eq_true (by rw [List.take_length] at hs; rw [hs, List.take_of_length_le (by omega)])], M⟩

theorem Mem.starRd {fs : List FX} {w0 w : World} {L : List Asr} (M : Mem w0 w L) (h : Has (Asr.star (fs.map FX.O)) L) : ∀ f ∈ fs, RdB w f.x.A f.x.cap f.x.l := by
  intro f hf
  have hs : Sep (fs.map FX.O) w := M.has h
  have := Sep.mem hs (FX.O f) (List.mem_map_of_mem hf)
  exact ownRd this

theorem bodies_ok {A : Option Addr} {c : Nat} {fs : List FX} {w0 : World} (h : RdL w0 frameE A c fs) (hl : fs.length ≤ 1000000) :
    Fn Try.prog 28 [.slice A fs.length c] w0 fun v w' => ∃ B cB, v = .slice B (fs.map FX.x).length cB ∧ Mem w0 w' [Asr.lst oxE B cB (fs.map FX.x)] := by
  have M := Mem.refl w0
  refine Fn.enter Try.func28 rfl Try.ntmps28 rfl ?_
  refine W.sub [(0, _)] (.cons rfl .nil) ?_
  refine W.seq ?_
  refine W.region ?_
  refine WL.assign rfl rfl ?_
  refine WL.nil ?_
  refine WX.next ?_
  refine W.sub [(0, _)] (.cons rfl .nil) ?_
  refine W.seq ?_
  refine W.region ?_
  refine WL.assign rfl rfl ?_
  refine WL.nil ?_
  refine WX.next ?_
  refine W.sub [(0, _), (3, _)] (.cons rfl (.cons rfl .nil)) ?_
  refine W.seq ?_
  refine W.seq ?_
  refine W.region ?_
  refine WL.assign rfl rfl ?_
  refine WL.nil ?_
  refine WX.next ?_
  refine W.sub [(0, _), (3, _), (4, _)] (.cons rfl (.cons rfl (.cons rfl .nil))) ?_
  refine W.block ?_
  refine W.loop (ι := Nat × (Option Addr × Nat)) (fun s => [(0, .slice A fs.length c), (3, .slice s.2.1 ((fs.take s.1).map FX.x).length s.2.2), (4, .int .i64 (s.1 : Int))]) (fun i w => Mem w0 w ((fun s => [Asr.lst oxE s.2.1 s.2.2 ((fs.take s.1).map FX.x)]) i) ∧ (fun s => s.1 ≤ fs.length) i) (fun s => fs.length - s.1) ((0, (none, 0))) (by (repeat' (first | exact envSub.nil | refine envSub.cons ?_ ?_)) <;> first | rfl | (refine congrArg some ?_; refine congrArg (Value.int _) ?_; first | omega | (dsimp only; omega)) | (simp; done) | (refine congrArg some ?_; dsimp only; congr 1; omega) | (simp; omega)) ⟨M.nilOwn _ _, (by first | trivial | omega | (dsimp only; omega) | (simp; done) | (simp; omega) | (refine ⟨?_, ?_⟩ <;> first | omega | (dsimp only; omega) | (simp; done)))⟩ ?_
  clear M; rintro (⟨k, B, cB⟩) w ⟨M, hk⟩; dsimp only at M hk ⊢
  refine W.sub [(0, _), (3, _), (4, _)] (.cons rfl (.cons rfl (.cons rfl .nil))) ?_
  refine W.seq ?_
  refine W.seq ?_
  refine W.region ?_
  refine WL.move rfl rfl ?_
  refine WL.move rfl rfl ?_
  refine WL.len Try.underlying47 rfl rfl ?_
  refine WL.lss rfl rfl rfl ?_
  refine WL.nil ?_
  refine WX.next ?_
  refine W.sub [(0, _), (3, _), (4, _), (8, _)] (.cons rfl (.cons rfl (.cons rfl (.cons rfl .nil)))) ?_
  refine W.ite rfl (fun c0 => ?_) (fun c0 => ?_)
  · refine W.skip ?_
    refine WX.next ?_
    refine W.seq ?_
    refine W.block ?_
    refine W.region ?_
    refine WL.move rfl rfl ?_
    refine WL.move rfl rfl ?_
    refine WL.move rfl rfl ?_
    refine WL.idxA Try.underlying47 Try.sizeOf38 rfl rfl (RdL.isSome (E := frameE) (by first | with_reducible assumption | with_reducible exact RdL.mem (by with_reducible assumption) M | exact M.rdL (by first | ((repeat (first | with_reducible exact Has.here | with_reducible refine Has.there ?_)); done) | (repeat (first | exact Has.here | refine Has.there ?_))) | exact RdLH.at (by assumption) (M.sel (by first | ((repeat (first | with_reducible exact Sel.refl | with_reducible exact Sel.nil | with_reducible exact Del.here | with_reducible apply Del.there | with_reducible apply Sel.cons | with_reducible apply Sel.drop)); done) | (repeat (first | exact Sel.refl | exact Sel.nil | exact Del.here | apply Del.there | apply Sel.cons | apply Sel.drop)))) | exact RdL.nil _ _ _) (by omega)) (by omega) (by omega) (by first | exact rfl | exact (Int.toNat_of_nonneg (by omega)).symm) rfl ?_
    refine WL.fieldA (off := 1) Try.underlying38 rfl rfl Try.sizeOf22 rfl rfl rfl ?_
    refine WL.loadE (E := frameE) Try.isAgg22 rfl (by first | with_reducible assumption | with_reducible exact RdL.mem (by with_reducible assumption) M | exact M.rdL (by first | ((repeat (first | with_reducible exact Has.here | with_reducible refine Has.there ?_)); done) | (repeat (first | exact Has.here | refine Has.there ?_))) | exact RdLH.at (by assumption) (M.sel (by first | ((repeat (first | with_reducible exact Sel.refl | with_reducible exact Sel.nil | with_reducible exact Del.here | with_reducible apply Del.there | with_reducible apply Sel.cons | with_reducible apply Sel.drop)); done) | (repeat (first | exact Sel.refl | exact Sel.nil | exact Del.here | apply Del.there | apply Sel.cons | apply Sel.drop)))) | exact RdL.nil _ _ _) (by omega) rfl rfl ?_
    refine WL.buildL (E := oxE) (l := [(el fs k).x]) Try.elem22 M rfl rfl rfl rfl rfl rfl ?_
    intro g5_6 w M
    refine WL.appendL (E := oxE) Try.elem22 rfl rfl M (by first | ((repeat (first | with_reducible exact Del.here | with_reducible apply Del.there)); done) | (repeat (first | exact Del.here | apply Del.there))) (by first | with_reducible assumption | with_reducible exact RdL.mem (by with_reducible assumption) M | exact M.rdL (by first | ((repeat (first | with_reducible exact Has.here | with_reducible refine Has.there ?_)); done) | (repeat (first | exact Has.here | refine Has.there ?_))) | exact RdLH.at (by assumption) (M.sel (by first | ((repeat (first | with_reducible exact Sel.refl | with_reducible exact Sel.nil | with_reducible exact Del.here | with_reducible apply Del.there | with_reducible apply Sel.cons | with_reducible apply Sel.drop)); done) | (repeat (first | exact Sel.refl | exact Sel.nil | exact Del.here | apply Del.there | apply Sel.cons | apply Sel.drop)))) | exact RdL.nil _ _ _) rfl rfl (by first | omega | (simp; omega)) (by first | (simp only [maxLen]; omega) | (simp [maxLen]; omega)) rfl ?_
    intro A5_7 cap5_7 w M
    refine WL.assign rfl rfl ?_
    refine WL.nil ?_
    refine WX.blockNormal ?_
    refine WX.next ?_
    refine W.sub [(0, _), (3, _), (4, _)] (.cons rfl (.cons rfl (.cons rfl .nil))) ?_
    refine W.region ?_
    refine WL.move rfl rfl ?_
    refine WL.add rfl rfl (by first | exact wI64 (by omega) | rfl) rfl ?_
    refine WL.assign rfl rfl ?_
    refine WL.nil ?_
    have e : (fs.take k).map FX.x ++ [(el fs k).x] = (fs.take (k + 1)).map FX.x := by
      rw [List.take_add_one, el_get (by omega)]
      simp
    rw [e] at M ⊢
    refine WX.round ((k + 1, (A5_7, cap5_7))) (by (repeat' (first | exact envSub.nil | refine envSub.cons ?_ ?_)) <;> first | rfl | (refine congrArg some ?_; refine congrArg (Value.int _) ?_; first | omega | (dsimp only; omega)) | (simp; done) | (refine congrArg some ?_; dsimp only; congr 1; omega) | (simp; omega)) ⟨M.sel (by first | ((repeat (first | with_reducible exact Sel.refl | with_reducible exact Sel.nil | with_reducible exact Del.here | with_reducible apply Del.there | with_reducible apply Sel.cons | with_reducible apply Sel.drop)); done) | (repeat (first | exact Sel.refl | exact Sel.nil | exact Del.here | apply Del.there | apply Sel.cons | apply Sel.drop))), (by first | trivial | omega | (dsimp only; omega) | (simp; done) | (simp; omega) | (refine ⟨?_, ?_⟩ <;> first | omega | (dsimp only; omega) | (simp; done)))⟩ (by first | omega | (dsimp only; omega))
  · obtain rfl : k = fs.length := by omega
    refine W.exit ?_
    refine WX.thenExit ?_
    refine WX.thenExit ?_
    refine WX.blockHere ?_
    refine WX.next ?_
    refine W.seq ?_
    refine W.region ?_
    refine WL.move rfl rfl ?_
    refine WL.assign rfl rfl ?_
    refine WL.nil ?_
    refine WX.next ?_
    refine W.sub [(2, _)] (.cons rfl .nil) ?_
    refine W.ret ?_
    refine WX.ret1 rfl rfl ?_
    exact ⟨B, cB, by rw [List.take_length], by rw [List.take_length] at M; exact M.sel (by first | ((repeat (first | with_reducible exact Sel.refl | with_reducible exact Sel.nil | with_reducible exact Del.here | with_reducible apply Del.there | with_reducible apply Sel.cons | with_reducible apply Sel.drop)); done) | (repeat (first | exact Sel.refl | exact Sel.nil | exact Del.here | apply Del.there | apply Sel.cons | apply Sel.drop)))⟩
end Go.Proofs.Ytjfbloepomnibaa
