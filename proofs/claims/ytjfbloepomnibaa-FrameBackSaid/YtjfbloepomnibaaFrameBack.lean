/-
  Law and walk: frames one behind the other, cut anywhere (seawalllaw02.FrameBack).
-/
import Derived.Test.YtjfbloepomnibaaScan
import Derived.Test.YtjfbloepomnibaaLift2
namespace Go.Proofs.Ytjfbloepomnibaa
open Go Go.RowKit Go.ChangeShapes Go.WideShapes Go.ChangeAt Crc Bin

/-- Bytes of frames. -/
def catG (fs : List (UInt8 × List UInt8)) : List UInt8 := fs.flatMap fun f => putG f.1 f.2
theorem catG_cons (f : UInt8 × List UInt8) (fs : List (UInt8 × List UInt8)) : catG (f :: fs) = putG f.1 f.2 ++ catG fs := rfl
theorem catG_append (a b : List (UInt8 × List UInt8)) : catG (a ++ b) = catG a ++ catG b := by simp [catG]

theorem getR_cut (k : UInt8) (l : List UInt8) (h : l.length ≤ 1024) {m : Nat} (hm : m < l.length + 10) : (getR ((putG k l).take m)).2.2.2 ≠ 0 := by
  have hp := putG_length (k := k) h
  obtain ⟨X, hX⟩ : ∃ X, X = (putG k l).take m := ⟨_, rfl⟩
  have hlen : X.length = m := by rw [hX, List.length_take, hp]; omega
  obtain ⟨c, hc⟩ : ∃ c, c = crc (headG k l) := ⟨_, rfl⟩
  have hX2 : putG k l = [167, k] ++ (fixed l.length ++ (l ++ fixed c)) := by unfold putG; rw [if_neg (by omega), hc]; simp [headG]
  rw [← hX]
  by_cases h0 : m = 0
  · unfold getR
    rw [if_pos (by omega)]
    simp
  have f5 : X[0]? = some 167 := by rw [hX, List.getElem?_take, if_pos (by omega), hX2]; rfl
  unfold getR
  rw [if_neg (by omega), if_neg (by rw [f5]; simp)]
  by_cases h6 : m < 6
  · rw [if_pos (by omega)]
    simp
  have f1 : rdF X 2 = (l.length, 2 + 4, 0) := by
    have e : X = [167, k] ++ (fixed l.length ++ (l ++ fixed c).take (m - 6)) := by
      rw [hX, hX2, List.take_append, List.take_of_length_le (by simp; omega), List.take_append, List.take_of_length_le (by simp [fixed]; omega)]
      simp [fixed, Nat.sub_sub]
    rw [e]
    exact rdF_fixed (by omega) [167, k] _ rfl
  rw [if_neg (by omega)]
  simp only [f1]
  rw [if_neg (by omega), if_pos (by omega)]
  simp

theorem scanN_cat : ∀ (fs : List (UInt8 × List UInt8)) (pre : List UInt8) (c n f : Nat), (∀ x ∈ fs, x.2.length ≤ 1024) → n ≤ fs.length → c ≤ (catG fs).length → (catG (fs.take n)).length ≤ c →
    (n < fs.length → c < (catG (fs.take (n + 1))).length) → n < f → scanN ((pre ++ catG fs).take (pre.length + c)) f pre.length = (fs.take n, pre.length + (catG (fs.take n)).length)
  | [], pre, c, n, f, _, hn, hc, _, _, hf => by
    obtain ⟨f, rfl⟩ : ∃ g, f = g + 1 := ⟨f - 1, by omega⟩
    have hc0 : c = 0 := by simpa [catG] using hc
    subst hc0
    have e : (pre ++ catG []).take (pre.length + 0) = pre := by simp [catG]
    rw [e, scanN, if_pos]
    · simp [catG]
    · rw [getG_bad (e := 10) (by omega) (by omega) (by rw [Int.toNat_natCast, List.drop_length]; rfl) (by omega)]
      simp
  | x :: fs, pre, c, n, f, hx, hn, hc, h1, h2, hf => by
    obtain ⟨f, rfl⟩ : ∃ g, f = g + 1 := ⟨f - 1, by omega⟩
    have hxl := hx x (List.mem_cons_self ..)
    have hp := putG_length (k := x.1) hxl
    cases n with
    | zero =>
      have hcl := h2 (by simp)
      simp only [Nat.zero_add, List.take_succ_cons, List.take_zero, catG_cons, List.length_append, hp] at hcl
      have hcl' : c < x.2.length + 10 := by simpa [catG] using hcl
      have e : (pre ++ catG (x :: fs)).take (pre.length + c) = pre ++ (putG x.1 x.2).take c := by
        rw [List.take_append, List.take_of_length_le (by omega), show pre.length + c - pre.length = c by omega, catG_cons, List.take_append_of_le_length (by omega)]
      rw [e, scanN, if_pos]
      · simp [catG]
      · have h3 := getR_cut x.1 x.2 hxl hcl'
        unfold getG
        rw [if_neg (by rw [List.length_append]; omega), Int.toNat_natCast, List.drop_left, if_pos h3]
        dsimp only
        omega
    | succ n =>
      have h1' : (x.2.length + 10) + (catG (fs.take n)).length ≤ c := by rw [List.take_succ_cons, catG_cons, List.length_append, hp] at h1; exact h1
      have e : (pre ++ catG (x :: fs)).take (pre.length + c) = pre ++ (putG x.1 x.2 ++ (catG fs).take (c - (x.2.length + 10))) := by
        rw [List.take_append, List.take_of_length_le (by omega), show pre.length + c - pre.length = c by omega, catG_cons, List.take_append, List.take_of_length_le (by omega), hp]
      have hg := getG_put pre x.1 x.2 hxl ((catG fs).take (c - (x.2.length + 10))) (at_ := (pre.length : Int)) rfl
      rw [catG_cons, List.length_append, hp] at hc
      have ih := scanN_cat fs (pre ++ putG x.1 x.2) (c - (x.2.length + 10)) n f (fun y hy => hx y (List.mem_cons_of_mem _ hy)) (by simpa using hn) (by omega) (by omega)
        (fun hlt => by
          have := h2 (by simpa using hlt)
          rw [List.take_succ_cons, catG_cons, List.length_append, hp] at this
          omega) (by omega)
      rw [e, scanN, hg, if_neg (by simp)]
      have e2 : ((pre.length : Int) + ((x.2.length + 10 : Nat) : Int)).toNat = (pre ++ putG x.1 x.2).length := by rw [List.length_append, hp]; omega
      have e3 : pre ++ (putG x.1 x.2 ++ (catG fs).take (c - (x.2.length + 10))) = ((pre ++ putG x.1 x.2) ++ catG fs).take ((pre ++ putG x.1 x.2).length + (c - (x.2.length + 10))) := by
        rw [List.take_length_add_append, List.append_assoc]
      dsimp only
      rw [e2, e3, ih]
      rw [List.take_succ_cons, catG_cons, List.length_append, List.length_append]
      simp only [Prod.mk.injEq, true_and]
      omega

theorem scanG_cat (fs : List (UInt8 × List UInt8)) (c n : Nat) (hx : ∀ x ∈ fs, x.2.length ≤ 1024) (hn : n ≤ fs.length) (hc : c ≤ (catG fs).length) (h1 : (catG (fs.take n)).length ≤ c)
    (h2 : n < fs.length → c < (catG (fs.take (n + 1))).length) : scanG ((catG fs).take c) = (fs.take n, (catG (fs.take n)).length) := by
  have hnl : ∀ (gs : List (UInt8 × List UInt8)), (∀ x ∈ gs, x.2.length ≤ 1024) → gs.length ≤ (catG gs).length := by
    intro gs
    induction gs with
    | nil => intro _; simp
    | cons g gs ih =>
      intro h
      have := ih fun x hx => h x (List.mem_cons_of_mem _ hx)
      rw [catG_cons, List.length_append, putG_length (h g (List.mem_cons_self ..)), List.length_cons]
      omega
  have h3 := hnl (fs.take n) (fun x h => hx x (List.mem_of_mem_take h))
  rw [List.length_take, Nat.min_eq_left hn] at h3
  have := scanN_cat fs [] c n (((catG fs).take c).length + 1) hx hn hc h1 h2 (by rw [List.length_take]; omega)
  simpa [scanG] using this

theorem frames_in {H : Type} {enc : TypeId × Value → H} {W : World} {base : Nat} {v : Value} {d : DataW H} {ps : List MemPlace} (hv : Value.okWide Try.prog W .any base 47 v)
    (h : DataW.Trod enc Try.prog W 0 (fun _ => true) true 47 v d ps) : ∃ A l cap, v = .slice A (List.length l) cap ∧ RdL W frameE A cap l ∧ (∀ f ∈ l, RdB W f.x.A f.x.cap f.x.l) ∧ cap ≤ maxLen := by
  obtain ⟨fuel, x, h1, h⟩ := arg_slice Try.underlying47 hv h
  obtain ⟨A, l, cap, he, hR, hQ, hm⟩ := in_list (E := frameE) (Q := fun f => RdB W f.x.A f.x.cap f.x.l) Try.underlying47 (by kernel_rfl) (fun m cs x h => by
    obtain ⟨hl, m, hp⟩ := in_fields Try.underlying38 h
    have hl2 : cs.length = 2 := hl.trans (by kernel_rfl)
    match cs, hl2 with
    | [c0, c1], _ =>
      obtain ⟨y0, h0⟩ := hp 0 _ rfl
      obtain ⟨y1, h1⟩ := hp 1 _ rfl
      dsimp only at h0 h1
      obtain ⟨k, e0⟩ := in_u8 Try.underlying5 h0
      obtain ⟨A, l, cap, e1, hb, _⟩ := in_bytes Try.underlying22 Try.underlying5 (by kernel_rfl) h1
      rw [show Program.cellsOf Try.prog 5 = 1 by kernel_rfl] at e0
      rw [show Program.cellsOf Try.prog 22 = 1 by kernel_rfl] at e1
      obtain rfl : c0 = .int .u8 (k.toNat : Int) := by simpa using e0
      obtain rfl : c1 = .slice A l.length cap := by simpa using e1
      exact ⟨⟨k, ⟨A, cap, l⟩⟩, rfl, hb⟩) h
  exact ⟨A, l, cap, by simpa using he, hR, hQ, hm⟩

/-- Where the frames end. -/
def endsG (fs : List (UInt8 × List UInt8)) (i : Nat) : List Int := (List.range i).map fun j => ((catG (fs.take (j + 1))).length : Int)
theorem endsG_length (fs : List (UInt8 × List UInt8)) (i : Nat) : (endsG fs i).length = i := by simp [endsG]
theorem endsG_succ (fs : List (UInt8 × List UInt8)) (i : Nat) : endsG fs (i + 1) = endsG fs i ++ [((catG (fs.take (i + 1))).length : Int)] := by simp [endsG, List.range_succ]
theorem endsG_el (fs : List (UInt8 × List UInt8)) {i j : Nat} (h : j < i) : el (endsG fs i) j = ((catG (fs.take (j + 1))).length : Int) := by simp [endsG, el, h]
theorem catG_len : ∀ (fs : List (UInt8 × List UInt8)), (∀ x ∈ fs, x.2.length ≤ 1024) → (catG fs).length ≤ 1034 * fs.length
  | [], _ => by simp [catG]
  | f :: fs, h => by
    have := catG_len fs fun x hx => h x (List.mem_cons_of_mem _ hx)
    have h1 := h f (List.mem_cons_self ..)
    rw [catG_cons, List.length_append, putG_length h1, List.length_cons]
    omega
theorem catG_mono (fs : List (UInt8 × List UInt8)) {i j : Nat} (h : i ≤ j) : (catG (fs.take i)).length ≤ (catG (fs.take j)).length := by
  have e : fs.take i = (fs.take j).take i := by rw [List.take_take, Nat.min_eq_left h]
  rw [e]
  conv => rhs; rw [← List.take_append_drop i (fs.take j), catG_append, List.length_append]
  omega

set_option maxHeartbeats 1000000 in
theorem FrameBack_ok (fs : List FX) (A : Option Addr) (cap : Nat) (cut : Int) (w0 : World) (h : RdL w0 frameE A cap fs) (hf : ∀ f ∈ fs, RdB w0 f.x.A f.x.cap f.x.l) (hcut : -9223372036854775808 ≤ cut ∧ cut ≤ 9223372036854775807) :
    Fn Try.prog 9 [.slice A fs.length cap, .int .i64 cut] w0 fun v w' => v = .bool true ∧ Mem w0 w' [] := by
  have M := Mem.refl w0
  obtain ⟨K, hK⟩ : ∃ K, K = fs.map FX.key := ⟨_, rfl⟩
  have hKl : K.length = fs.length := by rw [hK]; simp
  have hcap := Rd.le h
  refine Fn.enter Try.func9 rfl Try.ntmps9 rfl ?_
  refine W.sub [(0, _), (1, _)] (.cons rfl (.cons rfl .nil)) ?_
  refine W.seq ?_
  refine W.region ?_
  refine WL.assign rfl rfl ?_
  refine WL.nil ?_
  refine WX.next ?_
  refine W.sub [(0, _), (1, _)] (.cons rfl (.cons rfl .nil)) ?_
  refine W.seq ?_
  refine W.seq ?_
  refine W.region ?_
  refine WL.move rfl rfl ?_
  refine WL.len Try.underlying47 rfl rfl ?_
  refine WL.gtr rfl rfl rfl ?_
  refine WL.nil ?_
  refine WX.next ?_
  refine W.sub [(0, _), (1, _), (16, _)] (.cons rfl (.cons rfl (.cons rfl .nil))) ?_
  refine W.ite rfl (fun c0 => ?_) (fun c0 => ?_)
  · refine W.seq ?_
    refine W.region ?_
    refine WL.call Try.call10 rfl (known2_ok _) rfl ?_
    rintro _ w ⟨rfl, m⟩
    replace M := M.call0 m; clear m
    refine WL.assign rfl rfl ?_
    refine WL.nil ?_
    refine WX.next ?_
    refine W.sub [(4, _)] (.cons rfl .nil) ?_
    refine W.ret ?_
    refine WX.thenRet ?_
    refine WX.ret1 rfl rfl ?_
    exact ⟨by simp, M⟩
  · refine W.skip ?_
    refine WX.next ?_
    refine W.seq ?_
    refine W.region ?_
    refine WL.assign rfl rfl ?_
    refine WL.nil ?_
    refine WX.next ?_
    refine W.sub [(0, _), (1, _), (5, _)] (.cons rfl (.cons rfl (.cons rfl .nil))) ?_
    refine W.seq ?_
    refine W.region ?_
    refine WL.assign rfl rfl ?_
    refine WL.nil ?_
    refine WX.next ?_
    refine W.sub [(0, _), (1, _), (5, _), (6, _)] (.cons rfl (.cons rfl (.cons rfl (.cons rfl .nil)))) ?_
    refine W.seq ?_
    refine W.seq ?_
    refine W.region ?_
    refine WL.assign rfl rfl ?_
    refine WL.nil ?_
    refine WX.next ?_
    refine W.sub [(0, _), (1, _), (5, _), (6, _), (7, _)] (.cons rfl (.cons rfl (.cons rfl (.cons rfl (.cons rfl .nil))))) ?_
    refine W.block ?_
    refine W.loop (ι := Nat × (Option Addr × Nat) × (Option Addr × Nat)) (fun s => [(0, .slice A fs.length cap), (1, .int .i64 cut), (5, .slice s.2.1.1 (catG (K.take s.1)).length s.2.1.2), (6, .slice s.2.2.1 (endsG K s.1).length s.2.2.2), (7, .int .i64 (s.1 : Int))]) (fun i w => Mem w0 w ((fun s => [Asr.own 5 1 s.2.1.1 (catG (K.take s.1)).length s.2.1.2 (bs (catG (K.take s.1))), Asr.lst intE s.2.2.1 s.2.2.2 (endsG K s.1)]) i) ∧ (fun s => s.1 ≤ fs.length ∧ ∀ x ∈ K.take s.1, x.2.length ≤ 1024) i) (fun s => fs.length - s.1) ((0, (none, 0), (none, 0))) (by (repeat' (first | exact envSub.nil | refine envSub.cons ?_ ?_)) <;> first | rfl | (refine congrArg some ?_; refine congrArg (Value.int _) ?_; first | omega | (dsimp only; omega)) | (simp; done) | (refine congrArg some ?_; dsimp only; congr 1; omega) | (simp; omega)) ⟨(M.nilOwn _ _).nilOwn _ _, ⟨by simp, by simp⟩⟩ ?_
    clear M; rintro (⟨i, ⟨B, cB⟩, ⟨E, cE⟩⟩) w ⟨M, ⟨hi, hb⟩⟩; dsimp only at M hi hb ⊢
    refine W.sub [(0, _), (1, _), (5, _), (6, _), (7, _)] (.cons rfl (.cons rfl (.cons rfl (.cons rfl (.cons rfl .nil))))) ?_
    refine W.seq ?_
    refine W.seq ?_
    refine W.region ?_
    refine WL.move rfl rfl ?_
    refine WL.move rfl rfl ?_
    refine WL.len Try.underlying47 rfl rfl ?_
    refine WL.lss rfl rfl rfl ?_
    refine WL.nil ?_
    refine WX.next ?_
    refine W.sub [(0, _), (1, _), (5, _), (6, _), (7, _), (21, _)] (.cons rfl (.cons rfl (.cons rfl (.cons rfl (.cons rfl (.cons rfl .nil)))))) ?_
    refine W.ite rfl (fun c1 => ?_) (fun c1 => ?_)
    · have hlen := catG_len _ hb
      rw [List.length_take] at hlen
      have hE : (putE (el fs i).x.l = 0) ↔ (el fs i).x.l.length ≤ 1024 := by unfold putE; split <;> simp <;> omega
      have hx := hf _ (el_mem (l := fs) (k := i) (by omega))
      have hKi : K.take (i + 1) = K.take i ++ [(el fs i).key] := by
        rw [List.take_add_one, hK, List.getElem?_map, el_get (by omega)]
        rfl
      refine W.skip ?_
      refine WX.next ?_
      refine W.seq ?_
      refine W.block ?_
      refine W.seq ?_
      refine W.drawM (_) (by kernel_rfl) (fun j => [4, 9].contains j) M Sel.refl ?_
      clear M; intro M
      apply DG.pure_ [0, 1, 2, 3, 5, 6, 7, 8] 8 rfl (by kernel_rfl) (by kernel_rfl)
      · intro w
        refine WL.move rfl rfl ?_
        refine WL.move rfl rfl ?_
        refine WL.idxA Try.underlying47 Try.sizeOf38 rfl rfl (RdL.isSome (E := frameE) (by first | with_reducible assumption | with_reducible exact RdL.mem (by with_reducible assumption) M | exact M.rdL (by first | ((repeat (first | with_reducible exact Has.here | with_reducible refine Has.there ?_)); done) | (repeat (first | exact Has.here | refine Has.there ?_))) | exact RdLH.at (by assumption) (M.sel (by first | ((repeat (first | with_reducible exact Sel.refl | with_reducible exact Sel.nil | with_reducible exact Del.here | with_reducible apply Del.there | with_reducible apply Sel.cons | with_reducible apply Sel.drop)); done) | (repeat (first | exact Sel.refl | exact Sel.nil | exact Del.here | apply Del.there | apply Sel.cons | apply Sel.drop)))) | exact RdL.nil _ _ _) (by omega)) (by omega) (by omega) (by first | exact rfl | exact (Int.toNat_of_nonneg (by omega)).symm) rfl ?_
        refine WL.fieldA (off := 0) Try.underlying38 rfl rfl Try.sizeOf5 rfl rfl rfl ?_
        refine WL.move rfl rfl ?_
        refine WL.move rfl rfl ?_
        refine WL.idxA Try.underlying47 Try.sizeOf38 rfl rfl (RdL.isSome (E := frameE) (by first | with_reducible assumption | with_reducible exact RdL.mem (by with_reducible assumption) M | exact M.rdL (by first | ((repeat (first | with_reducible exact Has.here | with_reducible refine Has.there ?_)); done) | (repeat (first | exact Has.here | refine Has.there ?_))) | exact RdLH.at (by assumption) (M.sel (by first | ((repeat (first | with_reducible exact Sel.refl | with_reducible exact Sel.nil | with_reducible exact Del.here | with_reducible apply Del.there | with_reducible apply Sel.cons | with_reducible apply Sel.drop)); done) | (repeat (first | exact Sel.refl | exact Sel.nil | exact Del.here | apply Del.there | apply Sel.cons | apply Sel.drop)))) | exact RdL.nil _ _ _) (by omega)) (by omega) (by omega) (by first | exact rfl | exact (Int.toNat_of_nonneg (by omega)).symm) rfl ?_
        refine WL.fieldA (off := 1) Try.underlying38 rfl rfl Try.sizeOf22 rfl rfl rfl ?_
        exact Chain.end_ rfl
      apply DG.take [4, 9] 6 rfl (by kernel_rfl) (by kernel_rfl) (M.sel (by first | ((repeat (first | with_reducible exact Sel.refl | with_reducible exact Sel.nil | with_reducible exact Del.here | with_reducible apply Del.there | with_reducible apply Sel.cons | with_reducible apply Sel.drop)); done) | (repeat (first | exact Sel.refl | exact Sel.nil | exact Del.here | apply Del.there | apply Sel.cons | apply Sel.drop))))
      · intro w M
        refine WL.loadE (E := frameE) Try.isAgg5 rfl (by first | with_reducible assumption | with_reducible exact RdL.mem (by with_reducible assumption) M | exact M.rdL (by first | ((repeat (first | with_reducible exact Has.here | with_reducible refine Has.there ?_)); done) | (repeat (first | exact Has.here | refine Has.there ?_))) | exact RdLH.at (by assumption) (M.sel (by first | ((repeat (first | with_reducible exact Sel.refl | with_reducible exact Sel.nil | with_reducible exact Del.here | with_reducible apply Del.there | with_reducible apply Sel.cons | with_reducible apply Sel.drop)); done) | (repeat (first | exact Sel.refl | exact Sel.nil | exact Del.here | apply Del.there | apply Sel.cons | apply Sel.drop)))) | exact RdL.nil _ _ _) (by omega) rfl rfl ?_
        refine WL.loadE (E := frameE) Try.isAgg22 rfl (by first | with_reducible assumption | with_reducible exact RdL.mem (by with_reducible assumption) M | exact M.rdL (by first | ((repeat (first | with_reducible exact Has.here | with_reducible refine Has.there ?_)); done) | (repeat (first | exact Has.here | refine Has.there ?_))) | exact RdLH.at (by assumption) (M.sel (by first | ((repeat (first | with_reducible exact Sel.refl | with_reducible exact Sel.nil | with_reducible exact Del.here | with_reducible apply Del.there | with_reducible apply Sel.cons | with_reducible apply Sel.drop)); done) | (repeat (first | exact Sel.refl | exact Sel.nil | exact Del.here | apply Del.there | apply Sel.cons | apply Sel.drop)))) | exact RdL.nil _ _ _) (by omega) rfl rfl ?_
        exact Chain.end_ rfl
      refine DG.step 10 5 rfl (by kernel_rfl) ?_
      refine WL.call Try.call14 rfl (Put_ok (el fs i).k (el fs i).x.l _ _ _ (hx.mem M)) rfl ?_
      rintro _ w ⟨A8, cap8, rfl, m⟩
      replace M := M.call1 m; clear m
      refine DG.go (G := fun j => [4, 9].contains j) (i := 10) (f' := 5) (done := [0, 1, 2, 3, 5, 6, 7, 8, 4, 9]) (fun h => by cases h) ?_
      apply DG.pure_ [11, 12, 13, 14, 15] 0 rfl (by kernel_rfl) (by kernel_rfl)
      · intro w
        refine WL.move rfl rfl ?_
        refine WL.extractL rfl rfl rfl ?_
        refine WL.extractL rfl rfl rfl ?_
        refine WL.assign rfl rfl ?_
        refine WL.assign rfl rfl ?_
        exact Chain.end_ rfl
      refine DG.end_ (by kernel_rfl) ?_
      refine WX.next ?_
      refine W.sub [(0, _), (1, _), (5, _), (6, _), (7, _), (8, _), (9, _)] (.cons rfl (.cons rfl (.cons rfl (.cons rfl (.cons rfl (.cons rfl (.cons rfl .nil))))))) ?_
      refine W.seq ?_
      refine W.seq ?_
      refine W.region ?_
      refine WL.move rfl rfl ?_
      refine WL.eqI rfl rfl rfl ?_
      refine WL.move rfl rfl ?_
      refine WL.move rfl rfl ?_
      refine WL.idxA Try.underlying47 Try.sizeOf38 rfl rfl (RdL.isSome (E := frameE) (by first | with_reducible assumption | with_reducible exact RdL.mem (by with_reducible assumption) M | exact M.rdL (by first | ((repeat (first | with_reducible exact Has.here | with_reducible refine Has.there ?_)); done) | (repeat (first | exact Has.here | refine Has.there ?_))) | exact RdLH.at (by assumption) (M.sel (by first | ((repeat (first | with_reducible exact Sel.refl | with_reducible exact Sel.nil | with_reducible exact Del.here | with_reducible apply Del.there | with_reducible apply Sel.cons | with_reducible apply Sel.drop)); done) | (repeat (first | exact Sel.refl | exact Sel.nil | exact Del.here | apply Del.there | apply Sel.cons | apply Sel.drop)))) | exact RdL.nil _ _ _) (by omega)) (by omega) (by omega) (by first | exact rfl | exact (Int.toNat_of_nonneg (by omega)).symm) rfl ?_
      refine WL.fieldA (off := 1) Try.underlying38 rfl rfl Try.sizeOf22 rfl rfl rfl ?_
      refine WL.loadE (E := frameE) Try.isAgg22 rfl (by first | with_reducible assumption | with_reducible exact RdL.mem (by with_reducible assumption) M | exact M.rdL (by first | ((repeat (first | with_reducible exact Has.here | with_reducible refine Has.there ?_)); done) | (repeat (first | exact Has.here | refine Has.there ?_))) | exact RdLH.at (by assumption) (M.sel (by first | ((repeat (first | with_reducible exact Sel.refl | with_reducible exact Sel.nil | with_reducible exact Del.here | with_reducible apply Del.there | with_reducible apply Sel.cons | with_reducible apply Sel.drop)); done) | (repeat (first | exact Sel.refl | exact Sel.nil | exact Del.here | apply Del.there | apply Sel.cons | apply Sel.drop)))) | exact RdL.nil _ _ _) (by omega) rfl rfl ?_
      refine WL.len Try.underlying22 rfl rfl ?_
      refine WL.leq rfl rfl rfl ?_
      refine WL.neB Try.underlying4 rfl rfl rfl ?_
      refine WL.nil ?_
      refine WX.next ?_
      refine W.sub [(0, _), (1, _), (5, _), (6, _), (7, _), (8, _), (9, _), (47, _)] (.cons rfl (.cons rfl (.cons rfl (.cons rfl (.cons rfl (.cons rfl (.cons rfl (.cons rfl .nil)))))))) ?_
      refine W.ite rfl (fun c2 => ?_) (fun c2 => ?_)
      · exact absurd c2 (by simp only [hE, ne_eq, Decidable.not_not, decide_eq_decide]; omega)
      · refine W.skip ?_
        refine WX.next ?_
        refine W.seq ?_
        refine W.seq ?_
        refine W.region ?_
        refine WL.move rfl rfl ?_
        refine WL.neI rfl rfl rfl ?_
        refine WL.nil ?_
        refine WX.next ?_
        refine W.sub [(0, _), (1, _), (5, _), (6, _), (7, _), (8, _), (49, _)] (.cons rfl (.cons rfl (.cons rfl (.cons rfl (.cons rfl (.cons rfl (.cons rfl .nil))))))) ?_
        refine W.ite rfl (fun c3 => ?_) (fun c3 => ?_)
        · skip
          refine W.seq ?_
          refine W.region ?_
          refine WL.call Try.call10 rfl (known2_ok _) rfl ?_
          rintro _ w ⟨rfl, m⟩
          replace M := M.call0 m; clear m
          refine WL.assign rfl rfl ?_
          refine WL.nil ?_
          refine WX.next ?_
          refine W.sub [(4, _)] (.cons rfl .nil) ?_
          refine W.ret ?_
          refine WX.thenRet ?_
          refine WX.blockRet ?_
          refine WX.thenRet ?_
          refine WX.thenRet ?_
          refine WX.blockRet ?_
          refine WX.thenRet ?_
          refine WX.ret1 rfl rfl ?_
          exact ⟨by simp, M.sel (by first | ((repeat (first | with_reducible exact Sel.refl | with_reducible exact Sel.nil | with_reducible exact Del.here | with_reducible apply Del.there | with_reducible apply Sel.cons | with_reducible apply Sel.drop)); done) | (repeat (first | exact Sel.refl | exact Sel.nil | exact Del.here | apply Del.there | apply Sel.cons | apply Sel.drop)))⟩
        · have hle : (el fs i).x.l.length ≤ 1024 := hE.1 (by omega)
          have hpl := putG_length (k := (el fs i).k) hle
          have e1 : catG (K.take i) ++ putG (el fs i).k (el fs i).x.l = catG (K.take (i + 1)) := by rw [hKi, catG_append]; simp [catG, FX.key]
          have hEl := endsG_length K i
          refine W.skip ?_
          refine WX.next ?_
          refine W.seq ?_
          refine W.region ?_
          refine WL.move rfl rfl ?_
          refine WL.move rfl rfl ?_
          refine WL.appendBH Try.elem5 rfl rfl M (by first | ((repeat (first | with_reducible exact Del.here | with_reducible apply Del.there)); done) | (repeat (first | exact Del.here | apply Del.there))) (by first | first | with_reducible assumption | with_reducible exact RdB.mem (by with_reducible assumption) M | exact M.rdB (by first | ((repeat (first | with_reducible exact Has.here | with_reducible refine Has.there ?_)); done) | (repeat (first | exact Has.here | refine Has.there ?_))) | exact RdH.at (by assumption) (M.sel (by first | ((repeat (first | with_reducible exact Sel.refl | with_reducible exact Sel.nil | with_reducible exact Del.here | with_reducible apply Del.there | with_reducible apply Sel.cons | with_reducible apply Sel.drop)); done) | (repeat (first | exact Sel.refl | exact Sel.nil | exact Del.here | apply Del.there | apply Sel.cons | apply Sel.drop)))) | exact M.rdLit' (by first | ((repeat (first | with_reducible exact Has.here | with_reducible refine Has.there ?_)); done) | (repeat (first | exact Has.here | refine Has.there ?_))) | exact M.rdLent (by first | ((repeat (first | with_reducible exact Has.here | with_reducible refine Has.there ?_)); done) | (repeat (first | exact Has.here | refine Has.there ?_))) | exact RdB.nil _ _ | exact RdB.sub (by first | with_reducible assumption | with_reducible exact RdB.mem (by with_reducible assumption) M | exact M.rdB (by first | ((repeat (first | with_reducible exact Has.here | with_reducible refine Has.there ?_)); done) | (repeat (first | exact Has.here | refine Has.there ?_))) | exact RdH.at (by assumption) (M.sel (by first | ((repeat (first | with_reducible exact Sel.refl | with_reducible exact Sel.nil | with_reducible exact Del.here | with_reducible apply Del.there | with_reducible apply Sel.cons | with_reducible apply Sel.drop)); done) | (repeat (first | exact Sel.refl | exact Sel.nil | exact Del.here | apply Del.there | apply Sel.cons | apply Sel.drop)))) | exact M.rdLit' (by first | ((repeat (first | with_reducible exact Has.here | with_reducible refine Has.there ?_)); done) | (repeat (first | exact Has.here | refine Has.there ?_))) | exact M.rdLent (by first | ((repeat (first | with_reducible exact Has.here | with_reducible refine Has.there ?_)); done) | (repeat (first | exact Has.here | refine Has.there ?_))) | exact RdB.nil _ _) (by omega) (by omega) | exact RdB.pre' (by first | with_reducible assumption | with_reducible exact RdB.mem (by with_reducible assumption) M | exact M.rdB (by first | ((repeat (first | with_reducible exact Has.here | with_reducible refine Has.there ?_)); done) | (repeat (first | exact Has.here | refine Has.there ?_))) | exact RdH.at (by assumption) (M.sel (by first | ((repeat (first | with_reducible exact Sel.refl | with_reducible exact Sel.nil | with_reducible exact Del.here | with_reducible apply Del.there | with_reducible apply Sel.cons | with_reducible apply Sel.drop)); done) | (repeat (first | exact Sel.refl | exact Sel.nil | exact Del.here | apply Del.there | apply Sel.cons | apply Sel.drop)))) | exact M.rdLit' (by first | ((repeat (first | with_reducible exact Has.here | with_reducible refine Has.there ?_)); done) | (repeat (first | exact Has.here | refine Has.there ?_))) | exact M.rdLent (by first | ((repeat (first | with_reducible exact Has.here | with_reducible refine Has.there ?_)); done) | (repeat (first | exact Has.here | refine Has.there ?_))) | exact RdB.nil _ _) (by omega) | exact RdB.suf (by first | with_reducible assumption | with_reducible exact RdB.mem (by with_reducible assumption) M | exact M.rdB (by first | ((repeat (first | with_reducible exact Has.here | with_reducible refine Has.there ?_)); done) | (repeat (first | exact Has.here | refine Has.there ?_))) | exact RdH.at (by assumption) (M.sel (by first | ((repeat (first | with_reducible exact Sel.refl | with_reducible exact Sel.nil | with_reducible exact Del.here | with_reducible apply Del.there | with_reducible apply Sel.cons | with_reducible apply Sel.drop)); done) | (repeat (first | exact Sel.refl | exact Sel.nil | exact Del.here | apply Del.there | apply Sel.cons | apply Sel.drop)))) | exact M.rdLit' (by first | ((repeat (first | with_reducible exact Has.here | with_reducible refine Has.there ?_)); done) | (repeat (first | exact Has.here | refine Has.there ?_))) | exact M.rdLent (by first | ((repeat (first | with_reducible exact Has.here | with_reducible refine Has.there ?_)); done) | (repeat (first | exact Has.here | refine Has.there ?_))) | exact RdB.nil _ _) (by omega)) rfl rfl (by first | omega | (simp; omega)) rfl ?_
          intro A13_2 cap13_2 w M
          refine WL.assign rfl rfl ?_
          rw [e1] at M ⊢
          refine WL.nil ?_
          refine WX.next ?_
          refine W.sub [(0, _), (1, _), (5, _), (6, _), (7, _)] (.cons rfl (.cons rfl (.cons rfl (.cons rfl (.cons rfl .nil))))) ?_
          refine W.region ?_
          refine WL.move rfl rfl ?_
          refine WL.move rfl rfl ?_
          refine WL.len Try.underlying22 rfl rfl ?_
          refine WL.buildL (E := intE) (l := [((catG (K.take (i + 1))).length : Int)]) Try.elem3 M rfl rfl rfl rfl rfl rfl ?_
          intro g14_3 w M
          refine WL.appendL (E := intE) Try.elem3 rfl rfl M (by first | ((repeat (first | with_reducible exact Del.here | with_reducible apply Del.there)); done) | (repeat (first | exact Del.here | apply Del.there))) (by first | with_reducible assumption | with_reducible exact RdL.mem (by with_reducible assumption) M | exact M.rdL (by first | ((repeat (first | with_reducible exact Has.here | with_reducible refine Has.there ?_)); done) | (repeat (first | exact Has.here | refine Has.there ?_))) | exact RdLH.at (by assumption) (M.sel (by first | ((repeat (first | with_reducible exact Sel.refl | with_reducible exact Sel.nil | with_reducible exact Del.here | with_reducible apply Del.there | with_reducible apply Sel.cons | with_reducible apply Sel.drop)); done) | (repeat (first | exact Sel.refl | exact Sel.nil | exact Del.here | apply Del.there | apply Sel.cons | apply Sel.drop)))) | exact RdL.nil _ _ _) rfl rfl (by rw [hEl]; simp only [List.length_cons, List.length_nil]; omega) (by rw [hEl]; simp only [maxLen, List.length_cons, List.length_nil]; omega) rfl ?_
          intro A14_4 cap14_4 w M
          rw [← endsG_succ] at M ⊢
          refine WL.assign rfl rfl ?_
          refine WL.nil ?_
          refine WX.blockNormal ?_
          refine WX.next ?_
          refine W.sub [(0, _), (1, _), (5, _), (6, _), (7, _)] (.cons rfl (.cons rfl (.cons rfl (.cons rfl (.cons rfl .nil))))) ?_
          refine W.region ?_
          refine WL.move rfl rfl ?_
          refine WL.add rfl rfl (by first | exact wI64 (by omega) | rfl) rfl ?_
          refine WL.assign rfl rfl ?_
          refine WL.nil ?_
          skip
          have q : ∀ x ∈ K.take (i + 1), x.2.length ≤ 1024 := by
            intro x hx
            rw [hKi, List.mem_append, List.mem_singleton] at hx
            rcases hx with hx | rfl
            · exact hb x hx
            · exact hle
          refine WX.round ((i + 1, (A13_2, cap13_2), (A14_4, cap14_4))) (by (repeat' (first | exact envSub.nil | refine envSub.cons ?_ ?_)) <;> first | rfl | (refine congrArg some ?_; refine congrArg (Value.int _) ?_; first | omega | (dsimp only; omega)) | (simp; done) | (refine congrArg some ?_; dsimp only; congr 1; omega) | (simp; omega)) ⟨M.sel (by first | ((repeat (first | with_reducible exact Sel.refl | with_reducible exact Sel.nil | with_reducible exact Del.here | with_reducible apply Del.there | with_reducible apply Sel.cons | with_reducible apply Sel.drop)); done) | (repeat (first | exact Sel.refl | exact Sel.nil | exact Del.here | apply Del.there | apply Sel.cons | apply Sel.drop))), ⟨by dsimp only; omega, q⟩⟩ (by first | omega | (dsimp only; omega))
    · have hin : i = fs.length := by omega
      subst hin
      rw [← hKl, List.take_length] at hb M ⊢
      have hlen := catG_len _ hb
      obtain ⟨c, hc, hcl⟩ : ∃ c : Nat, (c : Int) = (if cut < 0 ∨ cut > ((catG K).length : Int) then ((catG K).length : Int) else cut) ∧ c ≤ (catG K).length := by
        by_cases h0 : cut < 0 ∨ cut > ((catG K).length : Int)
        · exact ⟨(catG K).length, by rw [if_pos h0], Nat.le_refl _⟩
        · exact ⟨cut.toNat, by rw [if_neg h0]; omega, by omega⟩
      refine W.exit ?_
      refine WX.thenExit ?_
      refine WX.thenExit ?_
      refine WX.blockHere ?_
      refine WX.next ?_
      refine W.joint (fun (_ : Unit) => [(0, .slice A K.length cap), (1, .int .i64 (c : Int)), (5, .slice B (catG K).length cB), (6, .slice E (endsG K K.length).length cE)]) (fun j w => Mem w0 w ((fun _ => [Asr.own 5 1 B (catG K).length cB (bs (catG K)), Asr.lst intE E cE (endsG K K.length)]) j) ∧ (fun _ => True) j) ?_ ?_
      · refine W.seq ?_
        refine W.region ?_
        refine WL.move rfl rfl ?_
        refine WL.lss rfl rfl rfl ?_
        refine WL.moveIf rfl rfl (fun c4 => ?_) (fun c4 => ?_)
        · rw [if_pos (.inl c4)] at hc
          refine WL.off rfl rfl rfl rfl ?_
          refine WL.off rfl rfl rfl rfl ?_
          refine WL.off rfl rfl rfl rfl ?_
          refine WL.off rfl rfl rfl rfl ?_
          refine WL.pickT rfl rfl rfl ?_
          refine WL.nil ?_
          refine WX.next ?_
          refine W.sub [(0, _), (1, _), (5, _), (6, _), (66, _)] (.cons rfl (.cons rfl (.cons rfl (.cons rfl (.cons rfl .nil))))) ?_
          refine W.condT rfl ?_
          refine W.region ?_
          refine WL.move rfl rfl ?_
          refine WL.len Try.underlying22 rfl rfl ?_
          refine WL.assign rfl rfl ?_
          refine WL.nil ?_
          refine WX.join (()) (by (repeat' (first | exact envSub.nil | refine envSub.cons ?_ ?_)) <;> first | rfl | (refine congrArg some ?_; refine congrArg (Value.int _) ?_; first | omega | (dsimp only; omega)) | (simp; done) | (refine congrArg some ?_; dsimp only; congr 1; omega) | (simp; omega)) ⟨M.sel (by first | ((repeat (first | with_reducible exact Sel.refl | with_reducible exact Sel.nil | with_reducible exact Del.here | with_reducible apply Del.there | with_reducible apply Sel.cons | with_reducible apply Sel.drop)); done) | (repeat (first | exact Sel.refl | exact Sel.nil | exact Del.here | apply Del.there | apply Sel.cons | apply Sel.drop))), (by first | trivial | omega | (dsimp only; omega) | (simp; done))⟩
        · refine WL.on rfl rfl ?_
          refine WL.move rfl rfl ?_
          refine WL.on rfl rfl ?_
          refine WL.move rfl rfl ?_
          refine WL.on rfl rfl ?_
          refine WL.len Try.underlying22 rfl rfl ?_
          refine WL.on rfl rfl ?_
          refine WL.gtr rfl rfl rfl ?_
          refine WL.pickF rfl rfl rfl ?_
          refine WL.nil ?_
          refine WX.next ?_
          refine W.sub [(0, _), (1, _), (5, _), (6, _), (66, _)] (.cons rfl (.cons rfl (.cons rfl (.cons rfl (.cons rfl .nil))))) ?_
          refine W.ite rfl (fun c5 => ?_) (fun c5 => ?_)
          · rw [if_pos (.inr c5)] at hc
            refine W.region ?_
            refine WL.move rfl rfl ?_
            refine WL.len Try.underlying22 rfl rfl ?_
            refine WL.assign rfl rfl ?_
            refine WL.nil ?_
            refine WX.join (()) (by (repeat' (first | exact envSub.nil | refine envSub.cons ?_ ?_)) <;> first | rfl | (refine congrArg some ?_; refine congrArg (Value.int _) ?_; first | omega | (dsimp only; omega)) | (simp; done) | (refine congrArg some ?_; dsimp only; congr 1; omega) | (simp; omega)) ⟨M.sel (by first | ((repeat (first | with_reducible exact Sel.refl | with_reducible exact Sel.nil | with_reducible exact Del.here | with_reducible apply Del.there | with_reducible apply Sel.cons | with_reducible apply Sel.drop)); done) | (repeat (first | exact Sel.refl | exact Sel.nil | exact Del.here | apply Del.there | apply Sel.cons | apply Sel.drop))), (by first | trivial | omega | (dsimp only; omega) | (simp; done))⟩
          · rw [if_neg (by omega)] at hc
            refine W.skip ?_
            refine WX.join (()) (by (repeat' (first | exact envSub.nil | refine envSub.cons ?_ ?_)) <;> first | rfl | (refine congrArg some ?_; refine congrArg (Value.int _) ?_; first | omega | (dsimp only; omega)) | (simp; done) | (refine congrArg some ?_; dsimp only; congr 1; omega) | (simp; omega)) ⟨M.sel (by first | ((repeat (first | with_reducible exact Sel.refl | with_reducible exact Sel.nil | with_reducible exact Del.here | with_reducible apply Del.there | with_reducible apply Sel.cons | with_reducible apply Sel.drop)); done) | (repeat (first | exact Sel.refl | exact Sel.nil | exact Del.here | apply Del.there | apply Sel.cons | apply Sel.drop))), (by first | trivial | omega | (dsimp only; omega) | (simp; done))⟩
      clear M; rintro (_) w ⟨M, -⟩; dsimp only at M ⊢
      refine W.sub [(0, _), (1, _), (5, _), (6, _)] (.cons rfl (.cons rfl (.cons rfl (.cons rfl .nil)))) ?_
      refine W.seq ?_
      refine W.region ?_
      refine WL.assign rfl rfl ?_
      refine WL.nil ?_
      refine WX.next ?_
      refine W.sub [(0, _), (1, _), (5, _), (6, _), (10, _)] (.cons rfl (.cons rfl (.cons rfl (.cons rfl (.cons rfl .nil))))) ?_
      refine W.joint (fun (n : Nat) => [(0, .slice A K.length cap), (1, .int .i64 (c : Int)), (5, .slice B (catG K).length cB), (6, .slice E (endsG K K.length).length cE), (10, .int .i64 (n : Int))]) (fun j w => Mem w0 w ((fun _ => [Asr.own 5 1 B (catG K).length cB (bs (catG K)), Asr.lst intE E cE (endsG K K.length)]) j) ∧ (fun n => n ≤ K.length ∧ (catG (K.take n)).length ≤ c ∧ (n < K.length → c < (catG (K.take (n + 1))).length)) j) ?_ ?_
      · refine W.block ?_
        refine W.loop (ι := Nat) (fun n => [(0, .slice A K.length cap), (1, .int .i64 (c : Int)), (5, .slice B (catG K).length cB), (6, .slice E (endsG K K.length).length cE), (10, .int .i64 (n : Int))]) (fun i w => Mem w0 w ((fun _ => [Asr.own 5 1 B (catG K).length cB (bs (catG K)), Asr.lst intE E cE (endsG K K.length)]) i) ∧ (fun n => n ≤ K.length ∧ (catG (K.take n)).length ≤ c) i) (fun n => K.length - n) (0) (by (repeat' (first | exact envSub.nil | refine envSub.cons ?_ ?_)) <;> first | rfl | (refine congrArg some ?_; refine congrArg (Value.int _) ?_; first | omega | (dsimp only; omega)) | (simp; done) | (refine congrArg some ?_; dsimp only; congr 1; omega) | (simp; omega)) ⟨M.sel (by first | ((repeat (first | with_reducible exact Sel.refl | with_reducible exact Sel.nil | with_reducible exact Del.here | with_reducible apply Del.there | with_reducible apply Sel.cons | with_reducible apply Sel.drop)); done) | (repeat (first | exact Sel.refl | exact Sel.nil | exact Del.here | apply Del.there | apply Sel.cons | apply Sel.drop))), ⟨by simp, by simp [catG]⟩⟩ ?_
        clear M; rintro (n) w ⟨M, ⟨hn, hnc⟩⟩; dsimp only at M hn hnc ⊢
        have hEl := endsG_length K K.length
        refine W.sub [(0, _), (1, _), (5, _), (6, _), (10, _)] (.cons rfl (.cons rfl (.cons rfl (.cons rfl (.cons rfl .nil))))) ?_
        refine W.seq ?_
        refine W.seq ?_
        refine W.region ?_
        refine WL.move rfl rfl ?_
        refine WL.move rfl rfl ?_
        refine WL.len Try.underlying55 rfl rfl ?_
        refine WL.lss rfl rfl rfl ?_
        refine WL.moveIf rfl rfl (fun c6 => ?_) (fun c6 => ?_)
        · have hel := endsG_el K (i := K.length) (j := n) (by omega)
          refine WL.on rfl rfl ?_
          refine WL.move rfl rfl ?_
          refine WL.on rfl rfl ?_
          refine WL.move rfl rfl ?_
          refine WL.on rfl rfl ?_
          refine WL.idxA Try.underlying55 Try.sizeOf3 rfl rfl (RdL.isSome (E := intE) (by first | with_reducible assumption | with_reducible exact RdL.mem (by with_reducible assumption) M | exact M.rdL (by first | ((repeat (first | with_reducible exact Has.here | with_reducible refine Has.there ?_)); done) | (repeat (first | exact Has.here | refine Has.there ?_))) | exact RdLH.at (by assumption) (M.sel (by first | ((repeat (first | with_reducible exact Sel.refl | with_reducible exact Sel.nil | with_reducible exact Del.here | with_reducible apply Del.there | with_reducible apply Sel.cons | with_reducible apply Sel.drop)); done) | (repeat (first | exact Sel.refl | exact Sel.nil | exact Del.here | apply Del.there | apply Sel.cons | apply Sel.drop)))) | exact RdL.nil _ _ _) (by omega)) (by omega) (by omega) (by first | exact rfl | exact (Int.toNat_of_nonneg (by omega)).symm) rfl ?_
          refine WL.on rfl rfl ?_
          refine WL.loadE0 (E := intE) Try.isAgg3 rfl (by first | with_reducible assumption | with_reducible exact RdL.mem (by with_reducible assumption) M | exact M.rdL (by first | ((repeat (first | with_reducible exact Has.here | with_reducible refine Has.there ?_)); done) | (repeat (first | exact Has.here | refine Has.there ?_))) | exact RdLH.at (by assumption) (M.sel (by first | ((repeat (first | with_reducible exact Sel.refl | with_reducible exact Sel.nil | with_reducible exact Del.here | with_reducible apply Del.there | with_reducible apply Sel.cons | with_reducible apply Sel.drop)); done) | (repeat (first | exact Sel.refl | exact Sel.nil | exact Del.here | apply Del.there | apply Sel.cons | apply Sel.drop)))) | exact RdL.nil _ _ _) (by omega) rfl rfl ?_
          refine WL.on rfl rfl ?_
          refine WL.move rfl rfl ?_
          refine WL.on rfl rfl ?_
          refine WL.leq rfl rfl rfl ?_
          refine WL.pickT rfl rfl rfl ?_
          refine WL.nil ?_
          refine WX.next ?_
          refine W.sub [(0, _), (1, _), (5, _), (6, _), (10, _), (80, _)] (.cons rfl (.cons rfl (.cons rfl (.cons rfl (.cons rfl (.cons rfl .nil)))))) ?_
          refine W.ite rfl (fun c7 => ?_) (fun c7 => ?_)
          · refine W.skip ?_
            refine WX.next ?_
            refine W.block ?_
            refine W.region ?_
            refine WL.move rfl rfl ?_
            refine WL.add rfl rfl (by first | exact wI64 (by omega) | rfl) rfl ?_
            refine WL.assign rfl rfl ?_
            refine WL.nil ?_
            refine WX.blockNormal ?_
            refine WX.round (n + 1) (by (repeat' (first | exact envSub.nil | refine envSub.cons ?_ ?_)) <;> first | rfl | (refine congrArg some ?_; refine congrArg (Value.int _) ?_; first | omega | (dsimp only; omega)) | (simp; done) | (refine congrArg some ?_; dsimp only; congr 1; omega) | (simp; omega)) ⟨M.sel (by first | ((repeat (first | with_reducible exact Sel.refl | with_reducible exact Sel.nil | with_reducible exact Del.here | with_reducible apply Del.there | with_reducible apply Sel.cons | with_reducible apply Sel.drop)); done) | (repeat (first | exact Sel.refl | exact Sel.nil | exact Del.here | apply Del.there | apply Sel.cons | apply Sel.drop))), ⟨by omega, by rw [show (el (endsG K K.length) n) = _ from hel] at c7; omega⟩⟩ (by first | omega | (dsimp only; omega))
          · rw [show (el (endsG K K.length) n) = _ from hel] at c7
            refine W.exit ?_
            refine WX.thenExit ?_
            refine WX.thenExit ?_
            refine WX.blockHere ?_
            refine WX.join (n) (by (repeat' (first | exact envSub.nil | refine envSub.cons ?_ ?_)) <;> first | rfl | (refine congrArg some ?_; refine congrArg (Value.int _) ?_; first | omega | (dsimp only; omega)) | (simp; done) | (refine congrArg some ?_; dsimp only; congr 1; omega) | (simp; omega)) ⟨M.sel (by first | ((repeat (first | with_reducible exact Sel.refl | with_reducible exact Sel.nil | with_reducible exact Del.here | with_reducible apply Del.there | with_reducible apply Sel.cons | with_reducible apply Sel.drop)); done) | (repeat (first | exact Sel.refl | exact Sel.nil | exact Del.here | apply Del.there | apply Sel.cons | apply Sel.drop))), ⟨hn, hnc, fun _ => by omega⟩⟩
        · refine WL.off rfl rfl rfl rfl ?_
          refine WL.off rfl rfl rfl rfl ?_
          refine WL.off rfl rfl rfl rfl ?_
          refine WL.off rfl rfl rfl rfl ?_
          refine WL.off rfl rfl rfl rfl ?_
          refine WL.off rfl rfl rfl rfl ?_
          refine WL.pickF rfl rfl rfl ?_
          refine WL.nil ?_
          refine WX.next ?_
          refine W.sub [(0, _), (1, _), (5, _), (6, _), (10, _), (80, _)] (.cons rfl (.cons rfl (.cons rfl (.cons rfl (.cons rfl (.cons rfl .nil)))))) ?_
          refine W.condF rfl ?_
          refine W.exit ?_
          refine WX.thenExit ?_
          refine WX.thenExit ?_
          refine WX.blockHere ?_
          refine WX.join (n) (by (repeat' (first | exact envSub.nil | refine envSub.cons ?_ ?_)) <;> first | rfl | (refine congrArg some ?_; refine congrArg (Value.int _) ?_; first | omega | (dsimp only; omega)) | (simp; done) | (refine congrArg some ?_; dsimp only; congr 1; omega) | (simp; omega)) ⟨M.sel (by first | ((repeat (first | with_reducible exact Sel.refl | with_reducible exact Sel.nil | with_reducible exact Del.here | with_reducible apply Del.there | with_reducible apply Sel.cons | with_reducible apply Sel.drop)); done) | (repeat (first | exact Sel.refl | exact Sel.nil | exact Del.here | apply Del.there | apply Sel.cons | apply Sel.drop))), ⟨hn, hnc, fun h => by omega⟩⟩
      clear M; rintro (n) w ⟨M, ⟨hn, hnc, hn2⟩⟩; dsimp only at M hn hnc hn2 ⊢
      refine W.sub [(0, _), (1, _), (5, _), (6, _), (10, _)] (.cons rfl (.cons rfl (.cons rfl (.cons rfl (.cons rfl .nil))))) ?_
      clear hc
      have hle := Rd.le (M.rdB (by first | ((repeat (first | with_reducible exact Has.here | with_reducible refine Has.there ?_)); done) | (repeat (first | exact Has.here | refine Has.there ?_))) : RdB w B cB (catG K))
      have hs := scanG_cat K c n hb hn hcl hnc hn2
      have hEl := endsG_length K K.length
      refine W.seq ?_
      refine W.region ?_
      refine WL.move rfl rfl ?_
      refine WL.move rfl rfl ?_
      refine WL.cutH (m' := ((catG K).take c).length) Try.underlying22 Try.sizeOf5 rfl rfl (by omega) (by omega) (by first | (rw [sub_length (by omega) (by omega)]) | (simp only [List.length_take, List.length_drop]; omega) | (simp; omega)) rfl ?_
      refine WL.call Try.call24 rfl (Scan_ok ((catG K).take c) _ _ _ (by first | first | with_reducible assumption | with_reducible exact RdB.mem (by with_reducible assumption) M | exact M.rdB (by first | ((repeat (first | with_reducible exact Has.here | with_reducible refine Has.there ?_)); done) | (repeat (first | exact Has.here | refine Has.there ?_))) | exact RdH.at (by assumption) (M.sel (by first | ((repeat (first | with_reducible exact Sel.refl | with_reducible exact Sel.nil | with_reducible exact Del.here | with_reducible apply Del.there | with_reducible apply Sel.cons | with_reducible apply Sel.drop)); done) | (repeat (first | exact Sel.refl | exact Sel.nil | exact Del.here | apply Del.there | apply Sel.cons | apply Sel.drop)))) | exact M.rdLit' (by first | ((repeat (first | with_reducible exact Has.here | with_reducible refine Has.there ?_)); done) | (repeat (first | exact Has.here | refine Has.there ?_))) | exact M.rdLent (by first | ((repeat (first | with_reducible exact Has.here | with_reducible refine Has.there ?_)); done) | (repeat (first | exact Has.here | refine Has.there ?_))) | exact RdB.nil _ _ | exact RdB.sub (by first | with_reducible assumption | with_reducible exact RdB.mem (by with_reducible assumption) M | exact M.rdB (by first | ((repeat (first | with_reducible exact Has.here | with_reducible refine Has.there ?_)); done) | (repeat (first | exact Has.here | refine Has.there ?_))) | exact RdH.at (by assumption) (M.sel (by first | ((repeat (first | with_reducible exact Sel.refl | with_reducible exact Sel.nil | with_reducible exact Del.here | with_reducible apply Del.there | with_reducible apply Sel.cons | with_reducible apply Sel.drop)); done) | (repeat (first | exact Sel.refl | exact Sel.nil | exact Del.here | apply Del.there | apply Sel.cons | apply Sel.drop)))) | exact M.rdLit' (by first | ((repeat (first | with_reducible exact Has.here | with_reducible refine Has.there ?_)); done) | (repeat (first | exact Has.here | refine Has.there ?_))) | exact M.rdLent (by first | ((repeat (first | with_reducible exact Has.here | with_reducible refine Has.there ?_)); done) | (repeat (first | exact Has.here | refine Has.there ?_))) | exact RdB.nil _ _) (by omega) (by omega) | exact RdB.pre' (by first | with_reducible assumption | with_reducible exact RdB.mem (by with_reducible assumption) M | exact M.rdB (by first | ((repeat (first | with_reducible exact Has.here | with_reducible refine Has.there ?_)); done) | (repeat (first | exact Has.here | refine Has.there ?_))) | exact RdH.at (by assumption) (M.sel (by first | ((repeat (first | with_reducible exact Sel.refl | with_reducible exact Sel.nil | with_reducible exact Del.here | with_reducible apply Del.there | with_reducible apply Sel.cons | with_reducible apply Sel.drop)); done) | (repeat (first | exact Sel.refl | exact Sel.nil | exact Del.here | apply Del.there | apply Sel.cons | apply Sel.drop)))) | exact M.rdLit' (by first | ((repeat (first | with_reducible exact Has.here | with_reducible refine Has.there ?_)); done) | (repeat (first | exact Has.here | refine Has.there ?_))) | exact M.rdLent (by first | ((repeat (first | with_reducible exact Has.here | with_reducible refine Has.there ?_)); done) | (repeat (first | exact Has.here | refine Has.there ?_))) | exact RdB.nil _ _) (by omega) | exact RdB.suf (by first | with_reducible assumption | with_reducible exact RdB.mem (by with_reducible assumption) M | exact M.rdB (by first | ((repeat (first | with_reducible exact Has.here | with_reducible refine Has.there ?_)); done) | (repeat (first | exact Has.here | refine Has.there ?_))) | exact RdH.at (by assumption) (M.sel (by first | ((repeat (first | with_reducible exact Sel.refl | with_reducible exact Sel.nil | with_reducible exact Del.here | with_reducible apply Del.there | with_reducible apply Sel.cons | with_reducible apply Sel.drop)); done) | (repeat (first | exact Sel.refl | exact Sel.nil | exact Del.here | apply Del.there | apply Sel.cons | apply Sel.drop)))) | exact M.rdLit' (by first | ((repeat (first | with_reducible exact Has.here | with_reducible refine Has.there ?_)); done) | (repeat (first | exact Has.here | refine Has.there ?_))) | exact M.rdLent (by first | ((repeat (first | with_reducible exact Has.here | with_reducible refine Has.there ?_)); done) | (repeat (first | exact Has.here | refine Has.there ?_))) | exact RdB.nil _ _) (by omega)) (by rw [List.length_take]; omega)) rfl ?_
      rintro _ w ⟨A20, cap20, gs, rfl, hg1, hg2, hg3, m⟩
      replace M := M.call2 m; clear m
      rw [hs] at hg1 ⊢
      dsimp only at hg1 ⊢
      refine WL.move rfl rfl ?_
      refine WL.extractL rfl rfl rfl ?_
      refine WL.extractL rfl rfl rfl ?_
      refine WL.assign rfl rfl ?_
      refine WL.assign rfl rfl ?_
      refine WL.nil ?_
      refine WX.next ?_
      refine W.sub [(0, _), (6, _), (10, _), (11, _), (12, _)] (.cons rfl (.cons rfl (.cons rfl (.cons rfl (.cons rfl .nil))))) ?_
      refine W.seq ?_
      refine W.region ?_
      refine WL.assign rfl rfl ?_
      refine WL.nil ?_
      refine WX.next ?_
      refine W.sub [(0, _), (6, _), (10, _), (11, _), (12, _), (13, _)] (.cons rfl (.cons rfl (.cons rfl (.cons rfl (.cons rfl (.cons rfl .nil)))))) ?_
      refine W.joint (fun (_ : Unit) => [(0, .slice A K.length cap), (10, .int .i64 (n : Int)), (11, .slice A20 gs.length cap20), (12, .int .i64 ((catG (K.take n)).length : Int)), (13, .int .i64 ((catG (K.take n)).length : Int))]) (fun j w => Mem w0 w ((fun _ => [Asr.lst frameE A20 cap20 gs, Asr.star (gs.map FX.O)]) j) ∧ (fun _ => True) j) ?_ ?_
      · refine W.seq ?_
        refine W.region ?_
        refine WL.move rfl rfl ?_
        refine WL.gtr rfl rfl rfl ?_
        refine WL.nil ?_
        refine WX.next ?_
        refine W.sub [(0, _), (6, _), (10, _), (11, _), (12, _), (13, _), (91, _)] (.cons rfl (.cons rfl (.cons rfl (.cons rfl (.cons rfl (.cons rfl (.cons rfl .nil))))))) ?_
        refine W.ite rfl (fun c8 => ?_) (fun c8 => ?_)
        · have hel := endsG_el K (i := K.length) (j := n - 1) (by omega)
          rw [Nat.sub_add_cancel (by omega)] at hel
          refine W.region ?_
          refine WL.move rfl rfl ?_
          refine WL.move rfl rfl ?_
          refine WL.sub' rfl rfl (by first | exact wI64 (by omega) | rfl) rfl ?_
          refine WL.idxA Try.underlying55 Try.sizeOf3 rfl rfl (RdL.isSome (E := intE) (by first | with_reducible assumption | with_reducible exact RdL.mem (by with_reducible assumption) M | exact M.rdL (by first | ((repeat (first | with_reducible exact Has.here | with_reducible refine Has.there ?_)); done) | (repeat (first | exact Has.here | refine Has.there ?_))) | exact RdLH.at (by assumption) (M.sel (by first | ((repeat (first | with_reducible exact Sel.refl | with_reducible exact Sel.nil | with_reducible exact Del.here | with_reducible apply Del.there | with_reducible apply Sel.cons | with_reducible apply Sel.drop)); done) | (repeat (first | exact Sel.refl | exact Sel.nil | exact Del.here | apply Del.there | apply Sel.cons | apply Sel.drop)))) | exact RdL.nil _ _ _) (by omega)) (by omega) (by omega) (by show (n : Int) - 1 = ((n - 1 : Nat) : Int); omega) rfl ?_
          refine WL.loadE0 (E := intE) Try.isAgg3 rfl (by first | with_reducible assumption | with_reducible exact RdL.mem (by with_reducible assumption) M | exact M.rdL (by first | ((repeat (first | with_reducible exact Has.here | with_reducible refine Has.there ?_)); done) | (repeat (first | exact Has.here | refine Has.there ?_))) | exact RdLH.at (by assumption) (M.sel (by first | ((repeat (first | with_reducible exact Sel.refl | with_reducible exact Sel.nil | with_reducible exact Del.here | with_reducible apply Del.there | with_reducible apply Sel.cons | with_reducible apply Sel.drop)); done) | (repeat (first | exact Sel.refl | exact Sel.nil | exact Del.here | apply Del.there | apply Sel.cons | apply Sel.drop)))) | exact RdL.nil _ _ _) (by omega) rfl rfl ?_
          rw [show (el (endsG K K.length) (n - 1)) = _ from hel]
          refine WL.assign rfl rfl ?_
          refine WL.nil ?_
          refine WX.join (()) (by (repeat' (first | exact envSub.nil | refine envSub.cons ?_ ?_)) <;> first | rfl | (refine congrArg some ?_; refine congrArg (Value.int _) ?_; first | omega | (dsimp only; omega)) | (simp; done) | (refine congrArg some ?_; dsimp only; congr 1; omega) | (simp; omega)) ⟨M.sel (by first | ((repeat (first | with_reducible exact Sel.refl | with_reducible exact Sel.nil | with_reducible exact Del.here | with_reducible apply Del.there | with_reducible apply Sel.cons | with_reducible apply Sel.drop)); done) | (repeat (first | exact Sel.refl | exact Sel.nil | exact Del.here | apply Del.there | apply Sel.cons | apply Sel.drop))), (by first | trivial | omega | (dsimp only; omega) | (simp; done))⟩
        · have hn0 : n = 0 := by omega
          subst hn0
          refine W.skip ?_
          refine WX.join (()) (by (repeat' (first | exact envSub.nil | refine envSub.cons ?_ ?_)) <;> first | rfl | (refine congrArg some ?_; refine congrArg (Value.int _) ?_; first | omega | (dsimp only; omega)) | (simp; done) | (refine congrArg some ?_; dsimp only; congr 1; omega) | (simp; omega)) ⟨M.sel (by first | ((repeat (first | with_reducible exact Sel.refl | with_reducible exact Sel.nil | with_reducible exact Del.here | with_reducible apply Del.there | with_reducible apply Sel.cons | with_reducible apply Sel.drop)); done) | (repeat (first | exact Sel.refl | exact Sel.nil | exact Del.here | apply Del.there | apply Sel.cons | apply Sel.drop))), (by first | trivial | omega | (dsimp only; omega) | (simp; done))⟩
      clear M; rintro (_) w ⟨M, -⟩; dsimp only at M ⊢
      refine W.sub [(0, _), (10, _), (11, _), (12, _), (13, _)] (.cons rfl (.cons rfl (.cons rfl (.cons rfl (.cons rfl .nil))))) ?_
      refine W.seq ?_
      refine W.region ?_
      have hn' : n ≤ fs.length := by omega
      refine WL.move rfl rfl ?_
      refine WL.move rfl rfl ?_
      refine WL.move rfl rfl ?_
      refine WL.cutH (m' := (fs.take n).length) Try.underlying47 Try.sizeOf38 rfl rfl (by omega) (by omega) (by rw [List.length_take]; omega) rfl ?_
      refine WL.call Try.call26 rfl (Same2_ok (by first | with_reducible assumption | with_reducible exact RdL.mem (by with_reducible assumption) M | exact M.rdL (by first | ((repeat (first | with_reducible exact Has.here | with_reducible refine Has.there ?_)); done) | (repeat (first | exact Has.here | refine Has.there ?_))) | exact RdLH.at (by assumption) (M.sel (by first | ((repeat (first | with_reducible exact Sel.refl | with_reducible exact Sel.nil | with_reducible exact Del.here | with_reducible apply Del.there | with_reducible apply Sel.cons | with_reducible apply Sel.drop)); done) | (repeat (first | exact Sel.refl | exact Sel.nil | exact Del.here | apply Del.there | apply Sel.cons | apply Sel.drop)))) | exact RdL.nil _ _ _) ((h.pre hn').mem M) (M.starRd (by first | ((repeat (first | with_reducible exact Has.here | with_reducible refine Has.there ?_)); done) | (repeat (first | exact Has.here | refine Has.there ?_)))) (fun f hf' => (hf f (List.mem_of_mem_take hf')).mem M) (by have := congrArg List.length hg1; simp only [List.length_map, List.length_take] at this; omega)) rfl ?_
      rintro _ w ⟨rfl, m⟩
      replace M := M.call0 m; clear m
      rw [hg1, hK, ← List.map_take]
      refine WL.moveIf rfl rfl (fun c9 => ?_) (fun c9 => ?_)
      · refine WL.on rfl rfl ?_
        refine WL.move rfl rfl ?_
        refine WL.on rfl rfl ?_
        refine WL.move rfl rfl ?_
        refine WL.on rfl rfl ?_
        refine WL.eqI rfl rfl rfl ?_
        refine WL.pickT rfl rfl rfl ?_
        refine WL.moveIf rfl rfl (fun c10 => ?_) (fun c10 => ?_)
        · refine WL.on rfl rfl ?_
          refine WL.call Try.call10 rfl (known2_ok _) rfl ?_
          rintro _ w ⟨rfl, m⟩
          replace M := M.call0 m; clear m
          refine WL.pickT rfl rfl rfl ?_
          refine WL.assign rfl rfl ?_
          refine WL.nil ?_
          refine WX.next ?_
          refine W.sub [(4, _)] (.cons rfl .nil) ?_
          refine W.ret ?_
          refine WX.ret1 rfl rfl ?_
          exact ⟨by simp, M.sel (by first | ((repeat (first | with_reducible exact Sel.refl | with_reducible exact Sel.nil | with_reducible exact Del.here | with_reducible apply Del.there | with_reducible apply Sel.cons | with_reducible apply Sel.drop)); done) | (repeat (first | exact Sel.refl | exact Sel.nil | exact Del.here | apply Del.there | apply Sel.cons | apply Sel.drop)))⟩
        · exact absurd rfl c10
      · exact absurd rfl c9
end Go.Proofs.Ytjfbloepomnibaa
