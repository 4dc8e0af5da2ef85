/-
  Walks: Order, Leader, New (beat).
-/
import Derived.Test.YtmkhggfcgblefaaDoorBeat3
namespace Go.Proofs.YtmkhggfcgblefaaDoor
open Go Go.RowKit Bin

theorem Order1_call : ∀ (args : Array Value) (w : World), (callFunc 33 args).run Tryd.prog w = .ok (.enter 33 args) w := Tryd.call33
theorem Order1_at (x y : Value) (a b : Nat) {w : World} {R : Value → World → Prop} (h : Fn Tryd.prog 33 [x, y, .pointer (some ⟨a, 0, none⟩), .pointer (some ⟨b, 0, none⟩)] w R) :
    Fn Tryd.prog 33 ([x, y] ++ (#[.pointer (some ⟨a, 0, none⟩), .pointer (some ⟨b, 0, none⟩)] : Array Value).toList) w R := h
section
variable {P : Program} {n : Nat} {ρ : List (Nat × Value)} {w : World} {rest : List Oper} {X : SqV P n}
variable {d : Nat} {ty : TypeId} {pos : String} {aft : Array Edge}
theorem WL.mkFn {f : _root_.Go.Fn} {cs : List Operand} {vs : List Value} (hx : evs ρ cs = some vs) (hd : Nat.blt d n = true) (kk : X.S rest ((d, .func f #[] vs.toArray) :: ρ) w) :
    X.S (⟨some d, .makeFunc f #[] cs.toArray, ty, pos, aft, none⟩ :: rest) ρ w :=
  WL.val rfl rfl hd (fun a ha => by
    have e := ha.evals hx
    simp [execOp, Instr.makeFunc, e]) kk
end
theorem ones_in {s : Bv} (h : s.Ok) {x : Int} (hx : x ∈ onesN (upN s)) : ∃ i : Nat, x = (i : Int) ∧ i < s.sites.length ∧ el s.since i < s.pat := by
  obtain ⟨i, h12, hb, rfl⟩ := (onesN_mem _ _).1 hx
  have h1 := bitsN_bit (upB s) i
  unfold upN at hb
  rw [hb] at h1
  have h2 : (upB s)[i]? = some true := by
    by_cases e : (upB s)[i]? = some true
    · exact e
    · rw [if_neg e] at h1
      omega
  obtain ⟨h3, h4⟩ := List.getElem?_eq_some_iff.1 h2
  have h5 : i < s.since.length := by unfold upB at h3; simpa using h3
  refine ⟨i, rfl, by rw [← h.len]; exact h5, ?_⟩
  have h6 : s.since[i] < s.pat := by simpa [upB] using h4
  simpa [el, h5] using h6
theorem in_ones {s : Bv} (h : s.Ok) {i : Nat} (hi : i < s.sites.length) (hu : el s.since i < s.pat) : (i : Int) ∈ onesN (upN s) := by
  have h12 := h.n
  have h5 : i < s.since.length := by rw [h.len]; exact hi
  refine (onesN_mem _ _).2 ⟨i, by omega, ?_, rfl⟩
  unfold upN
  rw [bitsN_bit, if_pos]
  unfold upB
  rw [List.getElem?_map, el_get h5, Option.map_some, decide_eq_true hu]
/-- The order of a view's nodes. -/
def ordS (s : Bv) (home : Int) : List Int := ordL s.sites (upN s) home
theorem site_in {s : Bv} (h : s.Ok) : ∀ x ∈ onesN (upN s), 0 ≤ siteOf s.sites x ∧ siteOf s.sites x < 12 := by
  intro x hx
  obtain ⟨i, rfl, hi, _⟩ := ones_in h hx
  unfold siteOf
  rw [Int.toNat_natCast]
  exact h.sites i hi
theorem ordS_mem {s : Bv} (h : s.Ok) (home x : Int) : x ∈ ordS s home ↔ x ∈ onesN (upN s) := ordL_mem _ _ _ (site_in h) x
theorem ordS_ne {s : Bv} (h : s.Ok) (home : Int) : 0 < (ordS s home).length := by
  have hm : ((s.me : Nat) : Int) ∈ ordS s home := (ordS_mem h home _).2 (in_ones h h.me (by rw [h.mine]; have := h.pat; omega))
  exact List.length_pos_of_mem hm
theorem srt_index {lt : Int → Int → Prop} {m : List Int} (h : ∀ p q, p < q → q < m.length → lt (el m p) (el m q)) : Srt lt m := by
  unfold Srt
  rw [List.pairwise_iff_getElem]
  intro i j hi hj hij
  have := h i j hij hj
  simpa [el, hi, hj] using this
theorem onesN_len (n : Nat) : (onesN n).length ≤ 12 := by
  unfold onesN
  rw [List.length_map]
  exact Nat.le_trans (List.length_filter_le _ _) (by simp)
theorem cmpN_range (sites : List Int) (home x y : Int) : -1 ≤ cmpN sites home x y ∧ cmpN sites home x y ≤ 1 := by
  unfold cmpN orZ cmpZ
  repeat' split
  all_goals omega
theorem Order1_all (a : BvA) (s : Bv) (ok : s.Ok) (home : Int) (g0 g1 : Nat) (w0 : World) (L : List Asr) : ∀ x ∈ onesN (upN s), ∀ y ∈ onesN (upN s), ∀ w', Mem w0 w' (Asr.row a.g 50 (bvCells a s) :: Asr.lst intE a.As a.cs s.sites :: Asr.lst intE a.Ac a.cc s.since :: Asr.row g1 3 [.int .i64 home] :: Asr.row g0 24 [.pointer (some ⟨a.g, 0, none⟩)] :: L) →
    Fn Tryd.prog 33 ([.int .i64 x, .int .i64 y] ++ (#[.pointer (some ⟨g0, 0, none⟩), .pointer (some ⟨g1, 0, none⟩)] : Array Value).toList) w' fun v w'' => v = .int .i64 (cmpN s.sites home x y) ∧ Mem w' w'' [] := by
  intro x hx y hy w' M'
  obtain ⟨i, rfl, hi, _⟩ := ones_in ok hx
  obtain ⟨j, rfl, hj, _⟩ := ones_in ok hy
  have h2 : Has (Asr.row g0 24 [.pointer (some ⟨a.g, 0, none⟩)]) (Asr.row a.g 50 (bvCells a s) :: Asr.lst intE a.As a.cs s.sites :: Asr.lst intE a.Ac a.cc s.since :: Asr.row g1 3 [.int .i64 home] :: Asr.row g0 24 [.pointer (some ⟨a.g, 0, none⟩)] :: L) := .there (.there (.there (.there .here)))
  have h1 : Has (Asr.row g1 3 [.int .i64 home]) (Asr.row a.g 50 (bvCells a s) :: Asr.lst intE a.As a.cs s.sites :: Asr.lst intE a.Ac a.cc s.since :: Asr.row g1 3 [.int .i64 home] :: Asr.row g0 24 [.pointer (some ⟨a.g, 0, none⟩)] :: L) := .there (.there (.there .here))
  exact Order1_at _ _ _ _ (Order1_ok hi hj (rd_one M' h2 0 rfl) (rd_one M' h1 0 rfl) (rd_one M' .here 0 (show (bvCells a s)[0]? = some (.slice a.As s.sites.length a.cs) from rfl)) (M'.rdL (.there .here)))
theorem Order_ok (a : BvA) (s : Bv) (ok : s.Ok) (home : Int) (w0 w : World) (L : List Asr) (M : Mem w0 w (bvL a s ++ L)) (ht : Tab w0) :
    Fn Tryd.prog 17 [.pointer (some ⟨a.g, 0, none⟩), .int .i64 home] w fun v w' => ∃ B cB, v = .slice B (ordS s home).length cB ∧ Mem w0 w' (Asr.lst intE B cB (ordS s home) :: (bvL a s ++ L)) := by
  have hup := upN_lt ok
  have hnil : bvL a s ++ L = Asr.row a.g 50 (bvCells a s) :: Asr.lst intE a.As a.cs s.sites :: Asr.lst intE a.Ac a.cc s.since :: L := rfl
  refine Fn.enter Tryd.func17 rfl Tryd.ntmps17 rfl ?_
  refine W.sub [(0, _), (1, _)] (.cons rfl (.cons rfl .nil)) ?_
  refine W.seq ?_
  refine W.region ?_
  refine WL.box rfl M rfl ?_
  intro g0_0 w M
  try simp only [Value.cells] at M
  try simp only [List.toList_toArray] at M
  refine WL.box rfl M rfl ?_
  intro g0_1 w M
  try simp only [Value.cells] at M
  try simp only [List.toList_toArray] at M
  refine WL.assign rfl rfl ?_
  refine WL.nil ?_
  refine WX.next ?_
  refine W.sub [(2, _), (3, _)] (.cons rfl (.cons rfl .nil)) ?_
  refine W.seq ?_
  refine W.region ?_
  refine WL.assign rfl rfl ?_
  refine WL.nil ?_
  refine WX.next ?_
  refine W.sub [(2, _), (3, _), (5, _)] (.cons rfl (.cons rfl (.cons rfl .nil))) ?_
  refine W.seq ?_
  refine W.seq ?_
  have M2 : Mem w0 _ (Asr.lst intE none 0 [] :: _) := M.nilOwn 3 1
  replace M := M2
  refine W.region ?_
  refine WL.loadR Tryd.isAgg24 rfl M (by first | ((repeat (first | with_reducible exact Has.here | with_reducible refine Has.there ?_)); done) | (repeat (first | exact Has.here | refine Has.there ?_))) rfl rfl ?_
  refine WL.call Tryd.call19 rfl (Up_ok a s (by rw [ok.len]; exact ok.n.2) w0 w (Asr.lst intE none 0 [] :: Asr.row g0_1 3 [.int .i64 home] :: Asr.row g0_0 24 [.pointer (some ⟨a.g, 0, none⟩)] :: L) (by rw [hnil] at M; exact M.sel (by first | ((repeat (first | with_reducible exact Sel.refl | with_reducible exact Sel.nil | with_reducible exact Del.here | with_reducible apply Del.there | with_reducible apply Sel.cons | with_reducible apply Sel.drop)); done) | (repeat (first | exact Sel.refl | exact Sel.nil | exact Del.here | apply Del.there | apply Sel.cons | apply Sel.drop))))) rfl ?_
  rintro _ w ⟨rfl, M⟩
  rw [show bvL a s ++ (Asr.lst intE none 0 [] :: Asr.row g0_1 3 [.int .i64 home] :: Asr.row g0_0 24 [.pointer (some ⟨a.g, 0, none⟩)] :: L) = Asr.row a.g 50 (bvCells a s) :: Asr.lst intE a.As a.cs s.sites :: Asr.lst intE a.Ac a.cc s.since :: Asr.lst intE none 0 [] :: Asr.row g0_1 3 [.int .i64 home] :: Asr.row g0_0 24 [.pointer (some ⟨a.g, 0, none⟩)] :: L from rfl] at M
  refine WL.assign rfl rfl ?_
  refine WL.nil ?_
  refine WX.next ?_
  refine W.sub [(2, _), (3, _), (5, _), (6, _)] (.cons rfl (.cons rfl (.cons rfl (.cons rfl .nil)))) ?_
  refine W.block ?_
  refine W.loop (ι := Nat × List Int × (Option Addr × Nat)) (fun z => [(2, .pointer (some ⟨g0_0, 0, none⟩)), (3, .pointer (some ⟨g0_1, 0, none⟩)), (5, .slice z.2.2.1 z.2.1.length z.2.2.2), (6, .int .u32 (z.1 : Int))]) (fun zz w => Mem w0 w ((fun z => Asr.lst intE z.2.2.1 z.2.2.2 z.2.1 :: Asr.row a.g 50 (bvCells a s) :: Asr.lst intE a.As a.cs s.sites :: Asr.lst intE a.Ac a.cc s.since :: Asr.row g0_1 3 [.int .i64 home] :: Asr.row g0_0 24 [.pointer (some ⟨a.g, 0, none⟩)] :: L) zz) ∧ (fun z => z.1 < 4096 ∧ z.2.1 ++ onesN z.1 = onesN (upN s)) zz) (fun z => z.1) ((upN s, [], (none, 0))) (by (repeat' (first | exact envSub.nil | refine envSub.cons ?_ ?_)) <;> first | rfl | (refine congrArg some ?_; refine congrArg (Value.int _) ?_; first | omega | (dsimp only; omega)) | (simp; done) | (refine congrArg some ?_; dsimp only; congr 1; omega) | (simp; omega)) ⟨M.sel (by first | ((repeat (first | with_reducible exact Sel.refl | with_reducible exact Sel.nil | with_reducible exact Del.here | with_reducible apply Del.there | with_reducible apply Sel.cons | with_reducible apply Sel.drop)); done) | (repeat (first | exact Sel.refl | exact Sel.nil | exact Del.here | apply Del.there | apply Sel.cons | apply Sel.drop))), ⟨hup, rfl⟩⟩ ?_
  clear M; rintro (⟨n, out, ⟨B, cB⟩⟩) w ⟨M, ⟨hn, ho⟩⟩; dsimp only at M hn ho ⊢
  refine W.sub [(2, _), (3, _), (5, _), (6, _)] (.cons rfl (.cons rfl (.cons rfl (.cons rfl .nil)))) ?_
  refine W.seq ?_
  refine W.seq ?_
  refine W.region ?_
  refine WL.move rfl rfl ?_
  refine WL.neI rfl rfl rfl ?_
  refine WL.nil ?_
  refine WX.next ?_
  refine W.sub [(2, _), (3, _), (5, _), (6, _), (10, _)] (.cons rfl (.cons rfl (.cons rfl (.cons rfl (.cons rfl .nil))))) ?_
  refine W.ite rfl (fun c0 => ?_) (fun c0 => ?_)
  · have hn0 : n ≠ 0 := by omega
    obtain ⟨h1, h2, h3, h4⟩ := ones_step hn hn0
    have hlen := onesN_len (upN s)
    rw [← ho, List.length_append] at hlen
    refine W.skip ?_
    refine WX.next ?_
    refine W.seq ?_
    refine W.block ?_
    refine W.region ?_
    refine WL.move rfl rfl ?_
    refine WL.move rfl rfl ?_
    refine WL.call Tryd.call31 rfl (ctz_ok n hn hn0 _ (ht.mem M)) rfl ?_
    rintro _ _ ⟨rfl, rfl⟩
    refine WL.buildL (E := intE) (l := [((el tabL (tabI n) : Nat) : Int)]) Tryd.elem3 M rfl rfl rfl rfl rfl rfl ?_
    intro g5_3 w M
    refine WL.appendL (E := intE) Tryd.elem3 rfl rfl M (by first | ((repeat (first | with_reducible exact Del.here | with_reducible apply Del.there)); done) | (repeat (first | exact Del.here | apply Del.there))) (by first | with_reducible assumption | with_reducible exact RdL.mem (by with_reducible assumption) M | exact M.rdL (by first | ((repeat (first | with_reducible exact Has.here | with_reducible refine Has.there ?_)); done) | (repeat (first | exact Has.here | refine Has.there ?_))) | exact RdLH.at (by assumption) (M.sel (by first | ((repeat (first | with_reducible exact Sel.refl | with_reducible exact Sel.nil | with_reducible exact Del.here | with_reducible apply Del.there | with_reducible apply Sel.cons | with_reducible apply Sel.drop)); done) | (repeat (first | exact Sel.refl | exact Sel.nil | exact Del.here | apply Del.there | apply Sel.cons | apply Sel.drop)))) | exact RdL.nil _ _ _) rfl rfl (by simp only [List.length_cons, List.length_nil]; omega) (by simp only [maxLen, List.length_cons, List.length_nil]; omega) rfl ?_
    intro A5_4 cap5_4 w M
    refine WL.assign rfl rfl ?_
    refine WL.nil ?_
    refine WX.blockNormal ?_
    refine WX.next ?_
    refine W.sub [(2, _), (3, _), (5, _), (6, _)] (.cons rfl (.cons rfl (.cons rfl (.cons rfl .nil)))) ?_
    refine W.region ?_
    refine WL.move rfl rfl ?_
    refine WL.move rfl rfl ?_
    refine WL.sub' rfl rfl (show IntKind.u32.wrap ((n : Int) - 1) = ((n - 1 : Nat) : Int) by rw [wU32 (by omega)]; omega) rfl ?_
    refine WL.band rfl rfl (andU32 n (n - 1) (by omega) (by omega)) rfl ?_
    refine WL.assign rfl rfl ?_
    refine WL.nil ?_
    skip
    have q : (out ++ [((el tabL (tabI n) : Nat) : Int)]) ++ onesN (n &&& (n - 1)) = onesN (upN s) := by rw [← ho, h2]; simp
    refine WX.round ((n &&& (n - 1), out ++ [((el tabL (tabI n) : Nat) : Int)], (A5_4, cap5_4))) (by (repeat' (first | exact envSub.nil | refine envSub.cons ?_ ?_)) <;> first | rfl | (refine congrArg some ?_; refine congrArg (Value.int _) ?_; first | omega | (dsimp only; omega)) | (simp; done) | (refine congrArg some ?_; dsimp only; congr 1; omega) | (simp; omega)) ⟨M.sel (by first | ((repeat (first | with_reducible exact Sel.refl | with_reducible exact Sel.nil | with_reducible exact Del.here | with_reducible apply Del.there | with_reducible apply Sel.cons | with_reducible apply Sel.drop)); done) | (repeat (first | exact Sel.refl | exact Sel.nil | exact Del.here | apply Del.there | apply Sel.cons | apply Sel.drop))), ⟨by dsimp only; omega, q⟩⟩ (by dsimp only; omega)
  · refine W.exit ?_
    refine WX.thenExit ?_
    refine WX.thenExit ?_
    refine WX.blockHere ?_
    refine WX.next ?_
    refine W.seq ?_
    obtain rfl : n = 0 := by omega
    rw [onesN_zero, List.append_nil] at ho
    subst ho
    have hp := Order1_all a s ok home g0_0 g0_1 w0 L
    refine W.region ?_
    refine WL.move rfl rfl ?_
    refine WL.mkFn rfl rfl ?_
    refine WL.call Tryd.call32 rfl (sort_ok (onesN_len _) _ #[.pointer (some ⟨g0_0, 0, none⟩), .pointer (some ⟨g0_1, 0, none⟩)] (cmpN s.sites home) Order1_call (cmpN_range _ _) (ltN_tr s.sites home) (ltN_tot s.sites home) (onesN_nodup _) w0 _ _ _ M (by first | ((repeat (first | with_reducible exact Del.here | with_reducible apply Del.there)); done) | (repeat (first | exact Del.here | apply Del.there))) hp) rfl ?_
    rintro _ w ⟨m, q1, q2, q3, M⟩
    refine WL.nil ?_
    refine WX.next ?_
    refine W.sub [(5, _)] (.cons rfl .nil) ?_
    refine W.seq ?_
    refine W.region ?_
    refine WL.move rfl rfl ?_
    refine WL.assign rfl rfl ?_
    refine WL.nil ?_
    refine WX.next ?_
    refine W.sub [(4, _)] (.cons rfl .nil) ?_
    refine W.ret ?_
    refine WX.ret1 rfl rfl ?_
    have hm : m = ordS s home := by
      refine srt_one (ltN_irr s.sites home) (ltN_tr s.sites home) (srt_index (fun p q h1 h2 => q3 p q h1 (by omega))) (ordL_srt _ _ _) (fun x => ?_)
      rw [q2.mem_iff]
      exact (ordS_mem ok home x).symm
    subst hm
    rw [← q1, hnil]
    exact ⟨B, cB, rfl, M.sel (by first | ((repeat (first | with_reducible exact Sel.refl | with_reducible exact Sel.nil | with_reducible exact Del.here | with_reducible apply Del.there | with_reducible apply Sel.cons | with_reducible apply Sel.drop)); done) | (repeat (first | exact Sel.refl | exact Sel.nil | exact Del.here | apply Del.there | apply Sel.cons | apply Sel.drop)))⟩
theorem Leader_ok (a : BvA) (s : Bv) (ok : s.Ok) (home : Int) (w0 w : World) (L : List Asr) (M : Mem w0 w (bvL a s ++ L)) (ht : Tab w0) :
    Fn Tryd.prog 26 [.pointer (some ⟨a.g, 0, none⟩), .int .i64 home] w fun v w' => v = .int .i64 (el (ordS s home) 0) ∧ Mem w0 w' (bvL a s ++ L) := by
  have hne := ordS_ne ok home
  refine Fn.enter Tryd.func26 rfl Tryd.ntmps26 rfl ?_
  refine W.sub [(0, _), (1, _)] (.cons rfl (.cons rfl .nil)) ?_
  refine W.seq ?_
  refine W.region ?_
  refine WL.assign rfl rfl ?_
  refine WL.nil ?_
  refine WX.next ?_
  refine W.sub [(0, _), (1, _)] (.cons rfl (.cons rfl .nil)) ?_
  refine W.seq ?_
  refine W.seq ?_
  refine W.region ?_
  refine WL.move rfl rfl ?_
  refine WL.eqNilF Tryd.underlying24 rfl rfl rfl ?_
  refine WL.nil ?_
  refine WX.next ?_
  refine W.sub [(0, _), (1, _), (6, _)] (.cons rfl (.cons rfl (.cons rfl .nil))) ?_
  refine W.condF rfl ?_
  refine W.skip ?_
  refine WX.next ?_
  refine W.seq ?_
  refine W.region ?_
  refine WL.move rfl rfl ?_
  refine WL.move rfl rfl ?_
  refine WL.call Tryd.call17 rfl (Order_ok a s ok home w0 w L M ht) rfl ?_
  rintro _ w ⟨B, cB, rfl, M⟩
  refine WL.idxA (jn := 0) Tryd.underlying22 Tryd.sizeOf3 rfl rfl (RdL.isSome (E := intE) (by first | with_reducible assumption | with_reducible exact RdL.mem (by with_reducible assumption) M | exact M.rdL (by first | ((repeat (first | with_reducible exact Has.here | with_reducible refine Has.there ?_)); done) | (repeat (first | exact Has.here | refine Has.there ?_))) | exact RdLH.at (by assumption) (M.sel (by first | ((repeat (first | with_reducible exact Sel.refl | with_reducible exact Sel.nil | with_reducible exact Del.here | with_reducible apply Del.there | with_reducible apply Sel.cons | with_reducible apply Sel.drop)); done) | (repeat (first | exact Sel.refl | exact Sel.nil | exact Del.here | apply Del.there | apply Sel.cons | apply Sel.drop)))) | exact RdL.nil _ _ _) (by omega)) (by omega) (by omega) (by first | exact rfl | exact (Int.toNat_of_nonneg (by omega)).symm) rfl ?_
  refine WL.loadE0 (E := intE) Tryd.isAgg3 rfl (by first | with_reducible assumption | with_reducible exact RdL.mem (by with_reducible assumption) M | exact M.rdL (by first | ((repeat (first | with_reducible exact Has.here | with_reducible refine Has.there ?_)); done) | (repeat (first | exact Has.here | refine Has.there ?_))) | exact RdLH.at (by assumption) (M.sel (by first | ((repeat (first | with_reducible exact Sel.refl | with_reducible exact Sel.nil | with_reducible exact Del.here | with_reducible apply Del.there | with_reducible apply Sel.cons | with_reducible apply Sel.drop)); done) | (repeat (first | exact Sel.refl | exact Sel.nil | exact Del.here | apply Del.there | apply Sel.cons | apply Sel.drop)))) | exact RdL.nil _ _ _) (by omega) rfl rfl ?_
  refine WL.assign rfl rfl ?_
  refine WL.nil ?_
  refine WX.next ?_
  refine W.sub [(4, _)] (.cons rfl .nil) ?_
  refine W.ret ?_
  refine WX.ret1 rfl rfl ?_
  exact ⟨rfl, M.tail⟩
theorem New1_ok (z : Int) (w : World) : Fn Tryd.prog 29 [.int .i64 z] w fun v w' => v = .bool (decide (z < 0 ∨ 12 ≤ z)) ∧ w' = w := by
  have M := Mem.refl w
  refine Fn.enter Tryd.func29 rfl Tryd.ntmps29 rfl ?_
  refine W.sub [(0, _)] (.cons rfl .nil) ?_
  refine W.seq ?_
  refine W.region ?_
  refine WL.assign rfl rfl ?_
  refine WL.nil ?_
  refine WX.next ?_
  refine W.sub [(0, _)] (.cons rfl .nil) ?_
  refine W.seq ?_
  refine W.region ?_
  refine WL.move rfl rfl ?_
  refine WL.lss rfl rfl rfl ?_
  refine WL.moveIf rfl rfl (fun c0 => ?_) (fun c0 => ?_)
  · refine WL.off rfl rfl rfl rfl ?_
    refine WL.off rfl rfl rfl rfl ?_
    refine WL.pickT rfl rfl rfl ?_
    refine WL.assign rfl rfl ?_
    refine WL.nil ?_
    refine WX.next ?_
    refine W.sub [(2, _)] (.cons rfl .nil) ?_
    refine W.ret ?_
    refine WX.ret1 rfl rfl ?_
    exact ⟨by first | (rw [decide_eq_true (by omega)]; done) | (congr 1; rw [decide_eq_decide]; omega), rfl⟩
  · refine WL.on rfl rfl ?_
    refine WL.move rfl rfl ?_
    refine WL.on rfl rfl ?_
    refine WL.geq rfl rfl rfl ?_
    refine WL.pickF rfl rfl rfl ?_
    refine WL.assign rfl rfl ?_
    refine WL.nil ?_
    refine WX.next ?_
    refine W.sub [(2, _)] (.cons rfl .nil) ?_
    refine W.ret ?_
    refine WX.ret1 rfl rfl ?_
    exact ⟨by first | (rw [decide_eq_true (by omega)]; done) | (congr 1; rw [decide_eq_decide]; omega), rfl⟩
theorem New1_call : ∀ (args : Array Value) (w : World), (callFunc 29 args).run Tryd.prog w = .ok (.enter 29 args) w := Tryd.call29
set_option maxHeartbeats 1000000 in
theorem New_ok {A : Option Addr} {cap : Nat} {l : List Int} (me pat : Int) {w0 : World} (h : RdL w0 intE A cap l) (hl : l.length ≤ 1000000) :
    Fn Tryd.prog 11 [.slice A l.length cap, .int .i64 me, .int .i64 pat] w0 fun v w' => (badV l me pat ∧ v = .tuple #[.pointer none, .int .i64 2] ∧ Mem w0 w' []) ∨ (¬ badV l me pat ∧ ∃ a : BvA, v = .tuple #[.pointer (some ⟨a.g, 0, none⟩), .int .i64 0] ∧ Mem w0 w' (bvL a (newV l me.toNat pat))) := by
  have M := Mem.refl w0
  obtain ⟨w, hw⟩ : ∃ w, w = w0 := ⟨w0, rfl⟩
  refine Fn.enter Tryd.func11 rfl Tryd.ntmps11 rfl ?_
  refine W.sub [(0, _), (1, _), (2, _)] (.cons rfl (.cons rfl (.cons rfl .nil))) ?_
  refine W.seq ?_
  refine W.region ?_
  refine WL.assign rfl rfl ?_
  refine WL.assign rfl rfl ?_
  refine WL.nil ?_
  refine WX.next ?_
  refine W.sub [(0, _), (1, _), (2, _)] (.cons rfl (.cons rfl (.cons rfl .nil))) ?_
  refine W.seq ?_
  refine W.region ?_
  refine WL.move rfl rfl ?_
  refine WL.call Tryd.call28 rfl (sContainsFunc_ok (h.mem M) _ #[] (fun z => decide (z < 0 ∨ 12 ≤ z)) New1_call (fun x w => New1_ok x w) hl) rfl ?_
  rintro _ w ⟨rfl, m⟩
  replace M := M.call0 m; clear m
  refine WL.assign rfl rfl ?_
  refine WL.nil ?_
  refine WX.next ?_
  refine W.sub [(0, _), (1, _), (2, _), (8, _)] (.cons rfl (.cons rfl (.cons rfl (.cons rfl .nil)))) ?_
  refine W.seq ?_
  refine W.seq ?_
  refine W.region ?_
  refine WL.move rfl rfl ?_
  refine WL.moveIfB rfl rfl (fun c0 => ?_) (fun c0 => ?_)
  · refine WL.off rfl rfl rfl rfl ?_
    refine WL.off rfl rfl rfl rfl ?_
    refine WL.off rfl rfl rfl rfl ?_
    refine WL.pickT rfl rfl rfl ?_
    refine WL.move rfl rfl ?_
    refine WL.off rfl rfl rfl rfl ?_
    refine WL.off rfl rfl rfl rfl ?_
    refine WL.off rfl rfl rfl rfl ?_
    refine WL.pickT rfl rfl rfl ?_
    refine WL.move rfl rfl ?_
    refine WL.off rfl rfl rfl rfl ?_
    refine WL.off rfl rfl rfl rfl ?_
    refine WL.pickT rfl rfl rfl ?_
    refine WL.move rfl rfl ?_
    refine WL.off rfl rfl rfl rfl ?_
    refine WL.off rfl rfl rfl rfl ?_
    refine WL.off rfl rfl rfl rfl ?_
    refine WL.off rfl rfl rfl rfl ?_
    refine WL.pickT rfl rfl rfl ?_
    refine WL.move rfl rfl ?_
    refine WL.off rfl rfl rfl rfl ?_
    refine WL.off rfl rfl rfl rfl ?_
    refine WL.pickT rfl rfl rfl ?_
    refine WL.move rfl rfl ?_
    refine WL.off rfl rfl rfl rfl ?_
    refine WL.off rfl rfl rfl rfl ?_
    refine WL.pickT rfl rfl rfl ?_
    refine WL.nil ?_
    refine WX.next ?_
    refine W.sub [(0, _), (1, _), (2, _), (41, _)] (.cons rfl (.cons rfl (.cons rfl (.cons rfl .nil)))) ?_
    refine W.condT rfl ?_
    refine W.seq ?_
    refine W.region ?_
    refine WL.assign rfl rfl ?_
    refine WL.assign rfl rfl ?_
    refine WL.nil ?_
    refine WX.next ?_
    refine W.sub [(6, _), (7, _)] (.cons rfl (.cons rfl .nil)) ?_
    refine W.ret ?_
    refine WX.thenRet ?_
    refine WX.ret2 rfl rfl rfl ?_
    exact .inl ⟨by unfold badV; first | exact .inl c0 | omega, rfl, M⟩
  · refine WL.on rfl rfl ?_
    refine WL.move rfl rfl ?_
    refine WL.on rfl rfl ?_
    refine WL.len Tryd.underlying22 rfl rfl ?_
    refine WL.on rfl rfl ?_
    refine WL.lss rfl rfl rfl ?_
    refine WL.pickF rfl rfl rfl ?_
    refine WL.moveIf rfl rfl (fun c1 => ?_) (fun c1 => ?_)
    · refine WL.off rfl rfl rfl rfl ?_
      refine WL.off rfl rfl rfl rfl ?_
      refine WL.off rfl rfl rfl rfl ?_
      refine WL.pickT rfl rfl rfl ?_
      refine WL.move rfl rfl ?_
      refine WL.off rfl rfl rfl rfl ?_
      refine WL.off rfl rfl rfl rfl ?_
      refine WL.pickT rfl rfl rfl ?_
      refine WL.move rfl rfl ?_
      refine WL.off rfl rfl rfl rfl ?_
      refine WL.off rfl rfl rfl rfl ?_
      refine WL.off rfl rfl rfl rfl ?_
      refine WL.off rfl rfl rfl rfl ?_
      refine WL.pickT rfl rfl rfl ?_
      refine WL.move rfl rfl ?_
      refine WL.off rfl rfl rfl rfl ?_
      refine WL.off rfl rfl rfl rfl ?_
      refine WL.pickT rfl rfl rfl ?_
      refine WL.move rfl rfl ?_
      refine WL.off rfl rfl rfl rfl ?_
      refine WL.off rfl rfl rfl rfl ?_
      refine WL.pickT rfl rfl rfl ?_
      refine WL.nil ?_
      refine WX.next ?_
      refine W.sub [(0, _), (1, _), (2, _), (41, _)] (.cons rfl (.cons rfl (.cons rfl (.cons rfl .nil)))) ?_
      refine W.condT rfl ?_
      refine W.seq ?_
      refine W.region ?_
      refine WL.assign rfl rfl ?_
      refine WL.assign rfl rfl ?_
      refine WL.nil ?_
      refine WX.next ?_
      refine W.sub [(6, _), (7, _)] (.cons rfl (.cons rfl .nil)) ?_
      refine W.ret ?_
      refine WX.thenRet ?_
      refine WX.ret2 rfl rfl rfl ?_
      exact .inl ⟨by unfold badV; first | exact .inl c0 | omega, rfl, M⟩
    · refine WL.on rfl rfl ?_
      refine WL.move rfl rfl ?_
      refine WL.on rfl rfl ?_
      refine WL.len Tryd.underlying22 rfl rfl ?_
      refine WL.on rfl rfl ?_
      refine WL.gtr rfl rfl rfl ?_
      refine WL.pickF rfl rfl rfl ?_
      refine WL.moveIf rfl rfl (fun c2 => ?_) (fun c2 => ?_)
      · refine WL.off rfl rfl rfl rfl ?_
        refine WL.off rfl rfl rfl rfl ?_
        refine WL.pickT rfl rfl rfl ?_
        refine WL.move rfl rfl ?_
        refine WL.off rfl rfl rfl rfl ?_
        refine WL.off rfl rfl rfl rfl ?_
        refine WL.off rfl rfl rfl rfl ?_
        refine WL.off rfl rfl rfl rfl ?_
        refine WL.pickT rfl rfl rfl ?_
        refine WL.move rfl rfl ?_
        refine WL.off rfl rfl rfl rfl ?_
        refine WL.off rfl rfl rfl rfl ?_
        refine WL.pickT rfl rfl rfl ?_
        refine WL.move rfl rfl ?_
        refine WL.off rfl rfl rfl rfl ?_
        refine WL.off rfl rfl rfl rfl ?_
        refine WL.pickT rfl rfl rfl ?_
        refine WL.nil ?_
        refine WX.next ?_
        refine W.sub [(0, _), (1, _), (2, _), (41, _)] (.cons rfl (.cons rfl (.cons rfl (.cons rfl .nil)))) ?_
        refine W.condT rfl ?_
        refine W.seq ?_
        refine W.region ?_
        refine WL.assign rfl rfl ?_
        refine WL.assign rfl rfl ?_
        refine WL.nil ?_
        refine WX.next ?_
        refine W.sub [(6, _), (7, _)] (.cons rfl (.cons rfl .nil)) ?_
        refine W.ret ?_
        refine WX.thenRet ?_
        refine WX.ret2 rfl rfl rfl ?_
        exact .inl ⟨by unfold badV; first | exact .inl c0 | omega, rfl, M⟩
      · refine WL.on rfl rfl ?_
        refine WL.move rfl rfl ?_
        refine WL.on rfl rfl ?_
        refine WL.lss rfl rfl rfl ?_
        refine WL.pickF rfl rfl rfl ?_
        refine WL.moveIf rfl rfl (fun c3 => ?_) (fun c3 => ?_)
        · refine WL.off rfl rfl rfl rfl ?_
          refine WL.off rfl rfl rfl rfl ?_
          refine WL.off rfl rfl rfl rfl ?_
          refine WL.off rfl rfl rfl rfl ?_
          refine WL.pickT rfl rfl rfl ?_
          refine WL.move rfl rfl ?_
          refine WL.off rfl rfl rfl rfl ?_
          refine WL.off rfl rfl rfl rfl ?_
          refine WL.pickT rfl rfl rfl ?_
          refine WL.move rfl rfl ?_
          refine WL.off rfl rfl rfl rfl ?_
          refine WL.off rfl rfl rfl rfl ?_
          refine WL.pickT rfl rfl rfl ?_
          refine WL.nil ?_
          refine WX.next ?_
          refine W.sub [(0, _), (1, _), (2, _), (41, _)] (.cons rfl (.cons rfl (.cons rfl (.cons rfl .nil)))) ?_
          refine W.condT rfl ?_
          refine W.seq ?_
          refine W.region ?_
          refine WL.assign rfl rfl ?_
          refine WL.assign rfl rfl ?_
          refine WL.nil ?_
          refine WX.next ?_
          refine W.sub [(6, _), (7, _)] (.cons rfl (.cons rfl .nil)) ?_
          refine W.ret ?_
          refine WX.thenRet ?_
          refine WX.ret2 rfl rfl rfl ?_
          exact .inl ⟨by unfold badV; first | exact .inl c0 | omega, rfl, M⟩
        · refine WL.on rfl rfl ?_
          refine WL.move rfl rfl ?_
          refine WL.on rfl rfl ?_
          refine WL.move rfl rfl ?_
          refine WL.on rfl rfl ?_
          refine WL.len Tryd.underlying22 rfl rfl ?_
          refine WL.on rfl rfl ?_
          refine WL.geq rfl rfl rfl ?_
          refine WL.pickF rfl rfl rfl ?_
          refine WL.moveIf rfl rfl (fun c4 => ?_) (fun c4 => ?_)
          · refine WL.off rfl rfl rfl rfl ?_
            refine WL.off rfl rfl rfl rfl ?_
            refine WL.pickT rfl rfl rfl ?_
            refine WL.move rfl rfl ?_
            refine WL.off rfl rfl rfl rfl ?_
            refine WL.off rfl rfl rfl rfl ?_
            refine WL.pickT rfl rfl rfl ?_
            refine WL.nil ?_
            refine WX.next ?_
            refine W.sub [(0, _), (1, _), (2, _), (41, _)] (.cons rfl (.cons rfl (.cons rfl (.cons rfl .nil)))) ?_
            refine W.condT rfl ?_
            refine W.seq ?_
            refine W.region ?_
            refine WL.assign rfl rfl ?_
            refine WL.assign rfl rfl ?_
            refine WL.nil ?_
            refine WX.next ?_
            refine W.sub [(6, _), (7, _)] (.cons rfl (.cons rfl .nil)) ?_
            refine W.ret ?_
            refine WX.thenRet ?_
            refine WX.ret2 rfl rfl rfl ?_
            exact .inl ⟨by unfold badV; first | exact .inl c0 | omega, rfl, M⟩
          · refine WL.on rfl rfl ?_
            refine WL.move rfl rfl ?_
            refine WL.on rfl rfl ?_
            refine WL.lss rfl rfl rfl ?_
            refine WL.pickF rfl rfl rfl ?_
            refine WL.moveIf rfl rfl (fun c5 => ?_) (fun c5 => ?_)
            · refine WL.off rfl rfl rfl rfl ?_
              refine WL.off rfl rfl rfl rfl ?_
              refine WL.pickT rfl rfl rfl ?_
              refine WL.nil ?_
              refine WX.next ?_
              refine W.sub [(0, _), (1, _), (2, _), (41, _)] (.cons rfl (.cons rfl (.cons rfl (.cons rfl .nil)))) ?_
              refine W.condT rfl ?_
              refine W.seq ?_
              refine W.region ?_
              refine WL.assign rfl rfl ?_
              refine WL.assign rfl rfl ?_
              refine WL.nil ?_
              refine WX.next ?_
              refine W.sub [(6, _), (7, _)] (.cons rfl (.cons rfl .nil)) ?_
              refine W.ret ?_
              refine WX.thenRet ?_
              refine WX.ret2 rfl rfl rfl ?_
              exact .inl ⟨by unfold badV; first | exact .inl c0 | omega, rfl, M⟩
            · refine WL.on rfl rfl ?_
              refine WL.move rfl rfl ?_
              refine WL.on rfl rfl ?_
              refine WL.gtr rfl rfl rfl ?_
              refine WL.pickF rfl rfl rfl ?_
              refine WL.nil ?_
              refine WX.next ?_
              refine W.sub [(0, _), (1, _), (2, _), (41, _)] (.cons rfl (.cons rfl (.cons rfl (.cons rfl .nil)))) ?_
              refine W.ite rfl (fun c6 => ?_) (fun c6 => ?_)
              · refine W.seq ?_
                refine W.region ?_
                refine WL.assign rfl rfl ?_
                refine WL.assign rfl rfl ?_
                refine WL.nil ?_
                refine WX.next ?_
                refine W.sub [(6, _), (7, _)] (.cons rfl (.cons rfl .nil)) ?_
                refine W.ret ?_
                refine WX.thenRet ?_
                refine WX.ret2 rfl rfl rfl ?_
                exact .inl ⟨by unfold badV; first | exact .inl c0 | omega, rfl, M⟩
              · have hmk : me = ((me.toNat : Nat) : Int) := by omega
                have hb : ¬ badV l me pat := by
                  unfold badV
                  rintro (h | h)
                  · rw [h] at c0; simp at c0
                  · omega
                have hl12 : 1 ≤ l.length ∧ l.length ≤ 12 := by omega
                obtain ⟨k, hk⟩ : ∃ k : Nat, me = (k : Int) := ⟨me.toNat, by omega⟩
                subst hk
                have hz0 : intE.cells 0 = [.int .i64 0] := rfl
                refine W.skip ?_
                refine WX.next ?_
                refine W.joint (fun (z : Nat × Nat × (Option Addr × Nat)) => [(1, .int .i64 (k : Int)), (2, .int .i64 pat), (9, .pointer (some ⟨z.1, 0, none⟩))]) (fun j w => Mem w0 w ((fun z => [Asr.row z.1 50 [.slice z.2.2.1 l.length z.2.2.2, .int .i64 (k : Int), .int .i64 pat, .slice (some ⟨z.2.1, 0, none⟩) l.length l.length, .int .i64 0], Asr.lst intE z.2.2.1 z.2.2.2 l, Asr.lst intE (some ⟨z.2.1, 0, none⟩) l.length (List.replicate l.length 0)]) j) ∧ (fun _ => True) j) ?_ ?_
                · refine W.drawM (_) (by kernel_rfl) (fun _ => false) M Sel.refl ?_
                  clear M; intro M
                  apply DG.pure_ [0, 2, 3, 4, 5] 5 rfl (by kernel_rfl) (by kernel_rfl)
                  · intro w
                    refine WL.move rfl rfl ?_
                    refine WL.move rfl rfl ?_
                    refine WL.move rfl rfl ?_
                    refine WL.move rfl rfl ?_
                    refine WL.len Tryd.underlying22 rfl rfl ?_
                    exact Chain.end_ rfl
                  refine DG.steps [1, 6] 4 rfl (by kernel_rfl) rfl ?_
                  intro i hi; simp only [List.mem_cons, List.not_mem_nil, or_false] at hi; rcases hi with rfl | rfl
                  · refine WL.call Tryd.call30 rfl (sClone_ok (h.mem M) hl) rfl ?_
                    rintro _ w ⟨A4, c4', rfl, m⟩
                    replace M := M.call1 m; clear m
                    refine DG.go (G := fun _ => false) (i := 1) (f' := 4) (done := [0, 2, 3, 4, 5]) (fun h => by cases h) ?_
                    refine DG.step 6 3 rfl (by kernel_rfl) ?_
                    refine WL.makeL (E := intE) (z0 := 0) Tryd.elem3 Tryd.zeroValue3 rfl M rfl rfl (by omega) (by omega) (by simp only [maxLen]; omega) rfl ?_
                    intro g4_6 w M
                    simp only [Int.toNat_natCast] at M ⊢
                    refine DG.go (G := fun _ => false) (i := 6) (f' := 3) (done := [0, 2, 3, 4, 5, 1]) (fun h => by cases h) ?_
                    apply DG.pure_ [7] 2 rfl (by kernel_rfl) (by kernel_rfl)
                    · intro w
                      refine WL.buildP (places := #[(0, 1), (1, 1), (2, 1), (3, 1), (4, 1)]) Tryd.underlying50 Tryd.zeroValue50 (fun _ => by simp [Tryd.sizeOf22, Tryd.sizeOf3, Tryd.sizeOf3, Tryd.sizeOf22, Tryd.sizeOf3]) rfl (by repeat (first | exact Puts.nil | exact SetAt.zero | apply SetAt.succ | apply Puts.cons rfl rfl)) rfl ?_
                      exact Chain.end_ rfl
                    refine DG.step 8 1 rfl (by kernel_rfl) ?_
                    refine WL.box rfl M rfl ?_
                    intro g4_8 w M
                    try simp only [Value.cells] at M
                    try simp only [List.toList_toArray] at M
                    refine DG.go (G := fun _ => false) (i := 8) (f' := 1) (done := [0, 2, 3, 4, 5, 1, 6, 7]) (fun h => by cases h) ?_
                    apply DG.pure_ [9] 0 rfl (by kernel_rfl) (by kernel_rfl)
                    · intro w
                      refine WL.assign rfl rfl ?_
                      exact Chain.end_ rfl
                    refine DG.end_ (by kernel_rfl) ?_
                    refine WX.join ((g4_8, g4_6, (A4, c4'))) (by (repeat' (first | exact envSub.nil | refine envSub.cons ?_ ?_)) <;> first | rfl | (refine congrArg some ?_; refine congrArg (Value.int _) ?_; first | omega | (dsimp only; omega)) | (simp; done) | (refine congrArg some ?_; dsimp only; congr 1; omega) | (simp; omega)) ⟨M.sel (by first | ((repeat (first | with_reducible exact Sel.refl | with_reducible exact Sel.nil | with_reducible exact Del.here | with_reducible apply Del.there | with_reducible apply Sel.cons | with_reducible apply Sel.drop)); done) | (repeat (first | exact Sel.refl | exact Sel.nil | exact Del.here | apply Del.there | apply Sel.cons | apply Sel.drop))), trivial⟩
                  · refine WL.makeL (E := intE) (z0 := 0) Tryd.elem3 Tryd.zeroValue3 rfl M rfl rfl (by omega) (by omega) (by simp only [maxLen]; omega) rfl ?_
                    intro g4_6 w M
                    simp only [Int.toNat_natCast] at M ⊢
                    refine DG.go (G := fun _ => false) (i := 6) (f' := 4) (done := [0, 2, 3, 4, 5]) (fun h => by cases h) ?_
                    refine DG.step 1 3 rfl (by kernel_rfl) ?_
                    refine WL.call Tryd.call30 rfl (sClone_ok (h.mem M) hl) rfl ?_
                    rintro _ w ⟨A4, c4', rfl, m⟩
                    replace M := M.call1 m; clear m
                    refine DG.go (G := fun _ => false) (i := 1) (f' := 3) (done := [0, 2, 3, 4, 5, 6]) (fun h => by cases h) ?_
                    apply DG.pure_ [7] 2 rfl (by kernel_rfl) (by kernel_rfl)
                    · intro w
                      refine WL.buildP (places := #[(0, 1), (1, 1), (2, 1), (3, 1), (4, 1)]) Tryd.underlying50 Tryd.zeroValue50 (fun _ => by simp [Tryd.sizeOf22, Tryd.sizeOf3, Tryd.sizeOf3, Tryd.sizeOf22, Tryd.sizeOf3]) rfl (by repeat (first | exact Puts.nil | exact SetAt.zero | apply SetAt.succ | apply Puts.cons rfl rfl)) rfl ?_
                      exact Chain.end_ rfl
                    refine DG.step 8 1 rfl (by kernel_rfl) ?_
                    refine WL.box rfl M rfl ?_
                    intro g4_8 w M
                    try simp only [Value.cells] at M
                    try simp only [List.toList_toArray] at M
                    refine DG.go (G := fun _ => false) (i := 8) (f' := 1) (done := [0, 2, 3, 4, 5, 6, 1, 7]) (fun h => by cases h) ?_
                    apply DG.pure_ [9] 0 rfl (by kernel_rfl) (by kernel_rfl)
                    · intro w
                      refine WL.assign rfl rfl ?_
                      exact Chain.end_ rfl
                    refine DG.end_ (by kernel_rfl) ?_
                    refine WX.join ((g4_8, g4_6, (A4, c4'))) (by (repeat' (first | exact envSub.nil | refine envSub.cons ?_ ?_)) <;> first | rfl | (refine congrArg some ?_; refine congrArg (Value.int _) ?_; first | omega | (dsimp only; omega)) | (simp; done) | (refine congrArg some ?_; dsimp only; congr 1; omega) | (simp; omega)) ⟨M.sel (by first | ((repeat (first | with_reducible exact Sel.refl | with_reducible exact Sel.nil | with_reducible exact Del.here | with_reducible apply Del.there | with_reducible apply Sel.cons | with_reducible apply Sel.drop)); done) | (repeat (first | exact Sel.refl | exact Sel.nil | exact Del.here | apply Del.there | apply Sel.cons | apply Sel.drop))), trivial⟩
                clear M; rintro (⟨g, g2, ⟨A4, c4⟩⟩) w ⟨M, -⟩; dsimp only at M ⊢
                refine W.sub [(1, _), (2, _), (9, _)] (.cons rfl (.cons rfl (.cons rfl .nil))) ?_
                refine W.seq ?_
                refine W.seq ?_
                refine W.region ?_
                refine WL.move rfl rfl ?_
                refine WL.nilCheck rfl rfl ?_
                refine WL.fieldR (off := 3) Tryd.underlying50 rfl rfl Tryd.sizeOf22 rfl rfl rfl ?_
                refine WL.loadR Tryd.isAgg22 rfl M (by first | ((repeat (first | with_reducible exact Has.here | with_reducible refine Has.there ?_)); done) | (repeat (first | exact Has.here | refine Has.there ?_))) rfl rfl ?_
                refine WL.len Tryd.underlying22 rfl rfl ?_
                refine WL.move rfl rfl ?_
                refine WL.nil ?_
                refine WX.next ?_
                refine W.sub [(1, _), (2, _), (9, _), (55, _), (56, _)] (.cons rfl (.cons rfl (.cons rfl (.cons rfl (.cons rfl .nil))))) ?_
                refine W.block ?_
                refine W.loop (ι := Nat × List Int) (fun z => [(1, .int .i64 (k : Int)), (2, .int .i64 pat), (9, .pointer (some ⟨g, 0, none⟩)), (55, .int .i64 (l.length : Int)), (56, .int .i64 (z.1 : Int))]) (fun zz w => Mem w0 w ((fun z => [Asr.row g 50 [.slice A4 l.length c4, .int .i64 (k : Int), .int .i64 pat, .slice (some ⟨g2, 0, none⟩) l.length l.length, .int .i64 0], Asr.lst intE A4 c4 l, Asr.lst intE (some ⟨g2, 0, none⟩) l.length z.2]) zz) ∧ (fun z => z.1 ≤ l.length ∧ z.2.length = l.length ∧ ∀ j, j < z.1 → el z.2 j = pat) zz) (fun z => l.length - z.1) ((0, List.replicate l.length 0)) (by (repeat' (first | exact envSub.nil | refine envSub.cons ?_ ?_)) <;> first | rfl | (refine congrArg some ?_; refine congrArg (Value.int _) ?_; first | omega | (dsimp only; omega)) | (simp; done) | (refine congrArg some ?_; dsimp only; congr 1; omega) | (simp; omega)) ⟨M.sel (by first | ((repeat (first | with_reducible exact Sel.refl | with_reducible exact Sel.nil | with_reducible exact Del.here | with_reducible apply Del.there | with_reducible apply Sel.cons | with_reducible apply Sel.drop)); done) | (repeat (first | exact Sel.refl | exact Sel.nil | exact Del.here | apply Del.there | apply Sel.cons | apply Sel.drop))), ⟨Nat.zero_le _, by simp, fun j hj => absurd hj (Nat.not_lt_zero _)⟩⟩ ?_
                clear M; rintro (⟨i, c⟩) w ⟨M, ⟨hi, hcl, hce⟩⟩; dsimp only at M hi hcl hce ⊢
                refine W.sub [(1, _), (2, _), (9, _), (55, _), (56, _)] (.cons rfl (.cons rfl (.cons rfl (.cons rfl (.cons rfl .nil))))) ?_
                refine W.seq ?_
                refine W.region ?_
                refine WL.lss rfl rfl rfl ?_
                refine WL.nil ?_
                refine WX.next ?_
                refine W.sub [(1, _), (2, _), (9, _), (55, _), (56, _), (57, _)] (.cons rfl (.cons rfl (.cons rfl (.cons rfl (.cons rfl (.cons rfl .nil)))))) ?_
                refine W.seq ?_
                refine W.ite rfl (fun c7 => ?_) (fun c7 => ?_)
                · refine W.skip ?_
                  refine WX.next ?_
                  refine W.seq ?_
                  refine W.block ?_
                  refine W.seq ?_
                  refine W.region ?_
                  refine WL.move rfl rfl ?_
                  refine WL.assign rfl rfl ?_
                  refine WL.nil ?_
                  refine WX.next ?_
                  refine W.sub [(1, _), (2, _), (9, _), (10, _), (55, _), (56, _)] (.cons rfl (.cons rfl (.cons rfl (.cons rfl (.cons rfl (.cons rfl .nil)))))) ?_
                  refine W.region ?_
                  refine WL.move rfl rfl ?_
                  refine WL.nilCheck rfl rfl ?_
                  refine WL.fieldR (off := 3) Tryd.underlying50 rfl rfl Tryd.sizeOf22 rfl rfl rfl ?_
                  refine WL.loadR Tryd.isAgg22 rfl M (by first | ((repeat (first | with_reducible exact Has.here | with_reducible refine Has.there ?_)); done) | (repeat (first | exact Has.here | refine Has.there ?_))) rfl rfl ?_
                  refine WL.move rfl rfl ?_
                  refine WL.move rfl rfl ?_
                  refine WL.idxA Tryd.underlying22 Tryd.sizeOf3 rfl rfl (RdL.isSome (E := intE) (by first | with_reducible assumption | with_reducible exact RdL.mem (by with_reducible assumption) M | exact M.rdL (by first | ((repeat (first | with_reducible exact Has.here | with_reducible refine Has.there ?_)); done) | (repeat (first | exact Has.here | refine Has.there ?_))) | exact RdLH.at (by assumption) (M.sel (by first | ((repeat (first | with_reducible exact Sel.refl | with_reducible exact Sel.nil | with_reducible exact Del.here | with_reducible apply Del.there | with_reducible apply Sel.cons | with_reducible apply Sel.drop)); done) | (repeat (first | exact Sel.refl | exact Sel.nil | exact Del.here | apply Del.there | apply Sel.cons | apply Sel.drop)))) | exact RdL.nil _ _ _) (by omega)) (by omega) (by omega) (by first | exact rfl | exact (Int.toNat_of_nonneg (by omega)).symm) rfl ?_
                  refine WL.storeE0 (E := intE) (x' := pat) Tryd.sizeOf3 rfl rfl rfl M (by first | ((repeat (first | with_reducible exact Has.here | with_reducible refine Has.there ?_)); done) | (repeat (first | exact Has.here | refine Has.there ?_))) (by omega) (by repeat (first | exact SetAt.zero | apply SetAt.succ)) (by first | ((repeat (first | with_reducible exact Upd.here | with_reducible apply Upd.there)); done) | (repeat (first | exact Upd.here | apply Upd.there))) ?_
                  intro w M
                  refine WL.nil ?_
                  refine WX.blockNormal ?_
                  refine WX.next ?_
                  refine W.sub [(1, _), (2, _), (9, _), (55, _), (56, _)] (.cons rfl (.cons rfl (.cons rfl (.cons rfl (.cons rfl .nil))))) ?_
                  refine W.region ?_
                  refine WL.add rfl rfl (by first | exact wI64 (by omega) | rfl) rfl ?_
                  refine WL.move rfl rfl ?_
                  refine WL.nil ?_
                  skip
                  have q : ∀ j, j < i + 1 → el (c.set i pat) j = pat := by
                    intro j hj
                    rw [el_set _ _ _ _ (by omega)]
                    by_cases e : i = j
                    · rw [if_pos e]
                    · rw [if_neg e]
                      exact hce j (by omega)
                  refine WX.round ((i + 1, c.set i pat)) (by (repeat' (first | exact envSub.nil | refine envSub.cons ?_ ?_)) <;> first | rfl | (refine congrArg some ?_; refine congrArg (Value.int _) ?_; first | omega | (dsimp only; omega)) | (simp; done) | (refine congrArg some ?_; dsimp only; congr 1; omega) | (simp; omega)) ⟨M.sel (by first | ((repeat (first | with_reducible exact Sel.refl | with_reducible exact Sel.nil | with_reducible exact Del.here | with_reducible apply Del.there | with_reducible apply Sel.cons | with_reducible apply Sel.drop)); done) | (repeat (first | exact Sel.refl | exact Sel.nil | exact Del.here | apply Del.there | apply Sel.cons | apply Sel.drop))), ⟨by dsimp only; omega, by rw [List.length_set]; exact hcl, q⟩⟩ (by first | omega | (dsimp only; omega))
                · refine W.exit ?_
                  refine WX.thenExit ?_
                  refine WX.thenExit ?_
                  refine WX.blockHere ?_
                  refine WX.next ?_
                  refine W.seq ?_
                  refine W.region ?_
                  refine WL.move rfl rfl ?_
                  refine WL.nilCheck rfl rfl ?_
                  refine WL.fieldR (off := 3) Tryd.underlying50 rfl rfl Tryd.sizeOf22 rfl rfl rfl ?_
                  refine WL.loadR Tryd.isAgg22 rfl M (by first | ((repeat (first | with_reducible exact Has.here | with_reducible refine Has.there ?_)); done) | (repeat (first | exact Has.here | refine Has.there ?_))) rfl rfl ?_
                  refine WL.move rfl rfl ?_
                  refine WL.idxA Tryd.underlying22 Tryd.sizeOf3 rfl rfl (RdL.isSome (E := intE) (by first | with_reducible assumption | with_reducible exact RdL.mem (by with_reducible assumption) M | exact M.rdL (by first | ((repeat (first | with_reducible exact Has.here | with_reducible refine Has.there ?_)); done) | (repeat (first | exact Has.here | refine Has.there ?_))) | exact RdLH.at (by assumption) (M.sel (by first | ((repeat (first | with_reducible exact Sel.refl | with_reducible exact Sel.nil | with_reducible exact Del.here | with_reducible apply Del.there | with_reducible apply Sel.cons | with_reducible apply Sel.drop)); done) | (repeat (first | exact Sel.refl | exact Sel.nil | exact Del.here | apply Del.there | apply Sel.cons | apply Sel.drop)))) | exact RdL.nil _ _ _) (by omega)) (by omega) (by omega) (by first | exact rfl | exact (Int.toNat_of_nonneg (by omega)).symm) rfl ?_
                  refine WL.storeE0 (E := intE) (x' := 0) Tryd.sizeOf3 rfl rfl rfl M (by first | ((repeat (first | with_reducible exact Has.here | with_reducible refine Has.there ?_)); done) | (repeat (first | exact Has.here | refine Has.there ?_))) (by omega) (by repeat (first | exact SetAt.zero | apply SetAt.succ)) (by first | ((repeat (first | with_reducible exact Upd.here | with_reducible apply Upd.there)); done) | (repeat (first | exact Upd.here | apply Upd.there))) ?_
                  intro w M
                  refine WL.nil ?_
                  refine WX.next ?_
                  refine W.sub [(9, _)] (.cons rfl .nil) ?_
                  refine W.seq ?_
                  refine W.region ?_
                  refine WL.move rfl rfl ?_
                  refine WL.assign rfl rfl ?_
                  refine WL.assign rfl rfl ?_
                  refine WL.nil ?_
                  refine WX.next ?_
                  refine W.sub [(6, _), (7, _)] (.cons rfl (.cons rfl .nil)) ?_
                  refine W.ret ?_
                  refine WX.ret2 rfl rfl rfl ?_
                  obtain rfl : i = l.length := by omega
                  have hcr : c = List.replicate l.length pat := by
                    apply List.ext_getElem (by rw [hcl, List.length_replicate])
                    intro j h1 h2
                    have := hce j (by omega)
                    simpa [el, h1] using this
                  refine .inr ⟨hb, ⟨g, A4, c4, some ⟨g2, 0, none⟩, l.length⟩, rfl, ?_⟩
                  have hN : newV l (k : Int).toNat pat = ⟨l, k, pat, c.set k 0, 0⟩ := by unfold newV; rw [Int.toNat_natCast, hcr]
                  have hsl : (c.set k 0).length = l.length := by rw [List.length_set]; exact hcl
                  rw [hN]
                  unfold bvL bvCells
                  dsimp only
                  rw [hsl]
                  exact M.sel (by first | ((repeat (first | with_reducible exact Sel.refl | with_reducible exact Sel.nil | with_reducible exact Del.here | with_reducible apply Del.there | with_reducible apply Sel.cons | with_reducible apply Sel.drop)); done) | (repeat (first | exact Sel.refl | exact Sel.nil | exact Del.here | apply Del.there | apply Sel.cons | apply Sel.drop)))
end Go.Proofs.YtmkhggfcgblefaaDoor
