/-
  Walks: the document's table: New, Find, last (seawallref13).
-/
import Derived.Test.YtmogpoghngmnmaaOnce4
namespace Go.Proofs.Ytmogpoghngmnmaa
open Go Go.RowKit

/-- The document's table as it lies. -/
structure RT where
  g : Nat
  most : Nat
  A : Option Addr
  cap : Nat
  cs : List ClX
  begun : Nat
  was : Nat
def RT.row (x : RT) : Asr := Asr.row x.g 65 [.int .i64 (x.most : Int), .slice x.A x.cs.length x.cap, .int .i64 (x.begun : Int), .int .i64 (x.was : Int)]
def RT.L (x : RT) : List Asr := [x.row, Asr.lst clientE x.A x.cap x.cs, Asr.star (x.cs.map ClX.O)]
def RT.s (x : RT) : Tb := ⟨x.most, x.cs.map ClX.key, x.begun, x.was⟩

theorem refNewBad_ok (z : Int) (hz : z < 1 ∨ 64 < z) (w0 : World) : Fn Try.prog 22 [.int .i64 z] w0 fun v w' => v = .tuple #[.pointer none, .int .i64 2] ∧ Mem w0 w' [] := by
  have M := Mem.refl w0
  obtain ⟨w, hw⟩ : ∃ w, w = w0 := ⟨w0, rfl⟩
  refine Fn.enter Try.func22 rfl Try.ntmps22 rfl ?_
  refine W.sub [(0, _)] (.cons rfl .nil) ?_
  refine W.seq ?_
  refine W.region ?_
  refine WL.assign rfl rfl ?_
  refine WL.assign rfl rfl ?_
  refine WL.nil ?_
  refine WX.next ?_
  refine W.sub [(0, _)] (.cons rfl .nil) ?_
  refine W.seq ?_
  refine W.seq ?_
  refine W.region ?_
  refine WL.move rfl rfl ?_
  refine WL.lss rfl rfl rfl ?_
  refine WL.moveIf rfl rfl (fun c0 => ?_) (fun c0 => ?_)
  · refine WL.off rfl rfl rfl rfl ?_
    refine WL.off rfl rfl rfl rfl ?_
    refine WL.pickT rfl rfl rfl ?_
    refine WL.nil ?_
    refine WX.next ?_
    refine W.sub [(0, _), (9, _)] (.cons rfl (.cons rfl .nil)) ?_
    refine W.condT rfl ?_
    refine W.seq ?_
    refine W.region ?_
    refine WL.assign rfl rfl ?_
    refine WL.assign rfl rfl ?_
    refine WL.nil ?_
    refine WX.next ?_
    refine W.sub [(2, _), (3, _)] (.cons rfl (.cons rfl .nil)) ?_
    refine W.ret ?_
    refine WX.thenRet ?_
    refine WX.ret2 rfl rfl rfl ?_
    exact ⟨rfl, M⟩
  · refine WL.on rfl rfl ?_
    refine WL.move rfl rfl ?_
    refine WL.on rfl rfl ?_
    refine WL.gtr rfl rfl rfl ?_
    refine WL.pickF rfl rfl rfl ?_
    refine WL.nil ?_
    refine WX.next ?_
    refine W.sub [(0, _), (9, _)] (.cons rfl (.cons rfl .nil)) ?_
    refine W.ite rfl (fun c1 => ?_) (fun c1 => ?_)
    · refine W.seq ?_
      refine W.region ?_
      refine WL.assign rfl rfl ?_
      refine WL.assign rfl rfl ?_
      refine WL.nil ?_
      refine WX.next ?_
      refine W.sub [(2, _), (3, _)] (.cons rfl (.cons rfl .nil)) ?_
      refine W.ret ?_
      refine WX.thenRet ?_
      refine WX.ret2 rfl rfl rfl ?_
      exact ⟨rfl, M⟩
    · exact absurd c1 (by omega)
theorem refNew_ok (n : Nat) (hn : 1 ≤ n ∧ n ≤ 64) (w0 : World) : Fn Try.prog 22 [.int .i64 (n : Int)] w0 fun v w' => ∃ x : RT, v = .tuple #[.pointer (some ⟨x.g, 0, none⟩), .int .i64 0] ∧ x.s = ⟨n, [], 0, 0⟩ ∧ Mem w0 w' x.L := by
  have M := Mem.refl w0
  obtain ⟨w, hw⟩ : ∃ w, w = w0 := ⟨w0, rfl⟩
  refine Fn.enter Try.func22 rfl Try.ntmps22 rfl ?_
  refine W.sub [(0, _)] (.cons rfl .nil) ?_
  refine W.seq ?_
  refine W.region ?_
  refine WL.assign rfl rfl ?_
  refine WL.assign rfl rfl ?_
  refine WL.nil ?_
  refine WX.next ?_
  refine W.sub [(0, _)] (.cons rfl .nil) ?_
  refine W.seq ?_
  refine W.seq ?_
  refine W.region ?_
  refine WL.move rfl rfl ?_
  refine WL.lss rfl rfl rfl ?_
  refine WL.moveIf rfl rfl (fun c0 => ?_) (fun c0 => ?_)
  · refine WL.off rfl rfl rfl rfl ?_
    refine WL.off rfl rfl rfl rfl ?_
    refine WL.pickT rfl rfl rfl ?_
    refine WL.nil ?_
    refine WX.next ?_
    refine W.sub [(0, _), (9, _)] (.cons rfl (.cons rfl .nil)) ?_
    refine W.condT rfl ?_
    refine W.seq ?_
    refine W.region ?_
    refine WL.assign rfl rfl ?_
    refine WL.assign rfl rfl ?_
    refine WL.nil ?_
    refine WX.next ?_
    refine W.sub [(2, _), (3, _)] (.cons rfl (.cons rfl .nil)) ?_
    refine W.ret ?_
    refine WX.thenRet ?_
    refine WX.ret2 rfl rfl rfl ?_
    exact absurd hn (by omega)
  · refine WL.on rfl rfl ?_
    refine WL.move rfl rfl ?_
    refine WL.on rfl rfl ?_
    refine WL.gtr rfl rfl rfl ?_
    refine WL.pickF rfl rfl rfl ?_
    refine WL.nil ?_
    refine WX.next ?_
    refine W.sub [(0, _), (9, _)] (.cons rfl (.cons rfl .nil)) ?_
    refine W.ite rfl (fun c1 => ?_) (fun c1 => ?_)
    · refine W.seq ?_
      refine W.region ?_
      refine WL.assign rfl rfl ?_
      refine WL.assign rfl rfl ?_
      refine WL.nil ?_
      refine WX.next ?_
      refine W.sub [(2, _), (3, _)] (.cons rfl (.cons rfl .nil)) ?_
      refine W.ret ?_
      refine WX.thenRet ?_
      refine WX.ret2 rfl rfl rfl ?_
      exact absurd hn (by omega)
    · refine W.skip ?_
      refine WX.next ?_
      refine W.seq ?_
      refine W.region ?_
      refine WL.move rfl rfl ?_
      refine WL.buildP (places := #[(0, 1), (1, 1), (2, 1), (3, 1)]) Try.underlying65 Try.zeroValue65 (fun _ => by simp [Try.sizeOf3, Try.sizeOf41, Try.sizeOf3, Try.sizeOf3]) rfl (by repeat (first | exact Puts.nil | exact SetAt.zero | apply SetAt.succ | apply Puts.cons rfl rfl)) rfl ?_
      refine WL.box rfl M rfl ?_
      intro g3_2 w M
      try simp only [Value.cells] at M
      try simp only [List.toList_toArray] at M
      refine WL.assign rfl rfl ?_
      refine WL.assign rfl rfl ?_
      refine WL.nil ?_
      refine WX.next ?_
      refine W.sub [(2, _), (3, _)] (.cons rfl (.cons rfl .nil)) ?_
      refine W.ret ?_
      refine WX.ret2 rfl rfl rfl ?_
      have M3 := Mem.starNil (Mem.nilOwn M 45 4)
      exact ⟨⟨g3_2, n, none, 0, [], 0, 0⟩, rfl, rfl, M3.sel (by first | ((repeat (first | with_reducible exact Sel.refl | with_reducible exact Sel.nil | with_reducible exact Del.here | with_reducible apply Del.there | with_reducible apply Sel.cons | with_reducible apply Sel.drop)); done) | (repeat (first | exact Sel.refl | exact Sel.nil | exact Del.here | apply Del.there | apply Sel.cons | apply Sel.drop)))⟩

theorem refFind_ok (x : RT) (hl : x.cs.length ≤ 1000000) (id : Nat) (w0 w : World) (L : List Asr) (M : Mem w0 w (x.L ++ L)) :
    Fn Try.prog 43 [.pointer (some ⟨x.g, 0, none⟩), .int .u64 (id : Int)] w fun v w' => v = .int .i64 (atI x.cs.length (posC x.cs id)) ∧ Mem w0 w' (x.L ++ L) := by
  obtain ⟨g, most, A, cap, cs, begun, was⟩ := x
  unfold RT.L RT.row at M ⊢
  simp only [List.cons_append, List.nil_append] at M ⊢
  dsimp only at *
  refine Fn.enter Try.func43 rfl Try.ntmps43 rfl ?_
  refine W.sub [(0, _), (1, _)] (.cons rfl (.cons rfl .nil)) ?_
  refine W.seq ?_
  refine W.region ?_
  refine WL.assign rfl rfl ?_
  refine WL.nil ?_
  refine WX.next ?_
  refine W.sub [(0, _), (1, _)] (.cons rfl (.cons rfl .nil)) ?_
  refine W.seq ?_
  refine W.seq ?_
  refine W.region ?_
  refine WL.assign rfl rfl ?_
  refine WL.nil ?_
  refine WX.next ?_
  refine W.sub [(0, _), (1, _), (5, _)] (.cons rfl (.cons rfl (.cons rfl .nil))) ?_
  refine W.block ?_
  refine W.loop (ι := Nat) (fun i => [(0, .pointer (some ⟨g, 0, none⟩)), (1, .int .u64 (id : Int)), (5, .int .i64 (i : Int))]) (fun zz w => Mem w0 w ((fun _ => Asr.row g 65 [.int .i64 (most : Int), .slice A cs.length cap, .int .i64 (begun : Int), .int .i64 (was : Int)] :: Asr.lst clientE A cap cs :: Asr.star (cs.map ClX.O) :: L) zz) ∧ (fun i => i ≤ cs.length ∧ ∀ j, j < i → ((el cs j).id == id) = false) zz) (fun i => cs.length - i) (0) (by (repeat' (first | exact envSub.nil | refine envSub.cons ?_ ?_)) <;> first | rfl | (refine congrArg some ?_; refine congrArg (Value.int _) ?_; first | omega | (dsimp only; omega)) | (simp; done) | (refine congrArg some ?_; dsimp only; congr 1; omega) | (simp; omega)) ⟨M.sel (by first | ((repeat (first | with_reducible exact Sel.refl | with_reducible exact Sel.nil | with_reducible exact Del.here | with_reducible apply Del.there | with_reducible apply Sel.cons | with_reducible apply Sel.drop)); done) | (repeat (first | exact Sel.refl | exact Sel.nil | exact Del.here | apply Del.there | apply Sel.cons | apply Sel.drop))), ⟨by omega, fun j hj => absurd hj (by omega)⟩⟩ ?_
  clear M; rintro (i) w ⟨M, ⟨hi, hs⟩⟩; dsimp only at M hi hs ⊢
  refine W.sub [(0, _), (1, _), (5, _)] (.cons rfl (.cons rfl (.cons rfl .nil))) ?_
  refine W.seq ?_
  refine W.seq ?_
  refine W.region ?_
  refine WL.move rfl rfl ?_
  refine WL.move rfl rfl ?_
  refine WL.nilCheck rfl rfl ?_
  refine WL.fieldR (off := 1) Try.underlying65 rfl rfl Try.sizeOf41 rfl rfl rfl ?_
  refine WL.loadR Try.isAgg41 rfl M (by first | ((repeat (first | with_reducible exact Has.here | with_reducible refine Has.there ?_)); done) | (repeat (first | exact Has.here | refine Has.there ?_))) rfl rfl ?_
  refine WL.len Try.underlying41 rfl rfl ?_
  refine WL.lss rfl rfl rfl ?_
  refine WL.nil ?_
  refine WX.next ?_
  refine W.sub [(0, _), (1, _), (5, _), (12, _)] (.cons rfl (.cons rfl (.cons rfl (.cons rfl .nil)))) ?_
  refine W.ite rfl (fun c0 => ?_) (fun c0 => ?_)
  · refine W.skip ?_
    refine WX.next ?_
    refine W.seq ?_
    refine W.block ?_
    refine W.seq ?_
    refine W.region ?_
    refine WL.move rfl rfl ?_
    refine WL.nilCheck rfl rfl ?_
    refine WL.fieldR (off := 1) Try.underlying65 rfl rfl Try.sizeOf41 rfl rfl rfl ?_
    refine WL.loadR Try.isAgg41 rfl M (by first | ((repeat (first | with_reducible exact Has.here | with_reducible refine Has.there ?_)); done) | (repeat (first | exact Has.here | refine Has.there ?_))) rfl rfl ?_
    refine WL.move rfl rfl ?_
    refine WL.idxA Try.underlying41 Try.sizeOf45 rfl rfl (RdL.isSome (E := clientE) (by first | with_reducible assumption | with_reducible exact RdL.mem (by with_reducible assumption) M | exact M.rdL (by first | ((repeat (first | with_reducible exact Has.here | with_reducible refine Has.there ?_)); done) | (repeat (first | exact Has.here | refine Has.there ?_))) | exact RdLH.at (by assumption) (M.sel (by first | ((repeat (first | with_reducible exact Sel.refl | with_reducible exact Sel.nil | with_reducible exact Del.here | with_reducible apply Del.there | with_reducible apply Sel.cons | with_reducible apply Sel.drop)); done) | (repeat (first | exact Sel.refl | exact Sel.nil | exact Del.here | apply Del.there | apply Sel.cons | apply Sel.drop)))) | exact RdL.nil _ _ _) (by omega)) (by omega) (by omega) (by first | exact rfl | exact (Int.toNat_of_nonneg (by omega)).symm) rfl ?_
    refine WL.fieldA (off := 0) Try.underlying45 rfl rfl Try.sizeOf29 rfl rfl rfl ?_
    refine WL.loadE (E := clientE) Try.isAgg29 rfl (by first | with_reducible assumption | with_reducible exact RdL.mem (by with_reducible assumption) M | exact M.rdL (by first | ((repeat (first | with_reducible exact Has.here | with_reducible refine Has.there ?_)); done) | (repeat (first | exact Has.here | refine Has.there ?_))) | exact RdLH.at (by assumption) (M.sel (by first | ((repeat (first | with_reducible exact Sel.refl | with_reducible exact Sel.nil | with_reducible exact Del.here | with_reducible apply Del.there | with_reducible apply Sel.cons | with_reducible apply Sel.drop)); done) | (repeat (first | exact Sel.refl | exact Sel.nil | exact Del.here | apply Del.there | apply Sel.cons | apply Sel.drop)))) | exact RdL.nil _ _ _) (by omega) rfl rfl ?_
    refine WL.move rfl rfl ?_
    refine WL.eqI rfl rfl rfl ?_
    refine WL.nil ?_
    refine WX.next ?_
    refine W.sub [(0, _), (1, _), (5, _), (24, _)] (.cons rfl (.cons rfl (.cons rfl (.cons rfl .nil)))) ?_
    refine W.ite rfl (fun c1 => ?_) (fun c1 => ?_)
    · refine W.seq ?_
      refine W.region ?_
      refine WL.move rfl rfl ?_
      refine WL.assign rfl rfl ?_
      refine WL.nil ?_
      refine WX.next ?_
      refine W.sub [(4, _)] (.cons rfl .nil) ?_
      refine W.ret ?_
      refine WX.blockRet ?_
      refine WX.thenRet ?_
      refine WX.thenRet ?_
      refine WX.blockRet ?_
      refine WX.thenRet ?_
      refine WX.ret1 rfl rfl ?_
      have e : posC cs id = i := findIdx_of (by omega) (by simp; omega) hs
      rw [e, atI_in (by omega)]
      exact ⟨rfl, M⟩
    · refine W.skip ?_
      refine WX.blockNormal ?_
      refine WX.next ?_
      refine W.region ?_
      refine WL.move rfl rfl ?_
      refine WL.add rfl rfl (by first | exact wI64 (by omega) | rfl) rfl ?_
      refine WL.assign rfl rfl ?_
      refine WL.nil ?_
      skip
      have q : ∀ j, j < i + 1 → ((el cs j).id == id) = false := by
        intro j hj
        rcases Nat.lt_or_ge j i with h1 | h1
        · exact hs j h1
        · obtain rfl : j = i := by omega
          simp
          omega
      refine WX.round (i + 1) (by (repeat' (first | exact envSub.nil | refine envSub.cons ?_ ?_)) <;> first | rfl | (refine congrArg some ?_; refine congrArg (Value.int _) ?_; first | omega | (dsimp only; omega)) | (simp; done) | (refine congrArg some ?_; dsimp only; congr 1; omega) | (simp; omega)) ⟨M.sel (by first | ((repeat (first | with_reducible exact Sel.refl | with_reducible exact Sel.nil | with_reducible exact Del.here | with_reducible apply Del.there | with_reducible apply Sel.cons | with_reducible apply Sel.drop)); done) | (repeat (first | exact Sel.refl | exact Sel.nil | exact Del.here | apply Del.there | apply Sel.cons | apply Sel.drop))), ⟨by omega, q⟩⟩ (by first | omega | (dsimp only; omega))
  · refine W.exit ?_
    refine WX.thenExit ?_
    refine WX.thenExit ?_
    refine WX.blockHere ?_
    refine WX.next ?_
    refine W.seq ?_
    refine W.region ?_
    refine WL.assign rfl rfl ?_
    refine WL.nil ?_
    refine WX.next ?_
    refine W.sub [(4, _)] (.cons rfl .nil) ?_
    refine W.ret ?_
    refine WX.ret1 rfl rfl ?_
    obtain rfl : i = cs.length := by omega
    have e : posC cs id = cs.length := findIdx_no hs
    rw [e, atI_out (by omega)]
    exact ⟨rfl, M⟩

theorem erase_at {α : Type} (l : List α) (p : Nat) : (l.take (p + 1)).eraseIdx p = (l.take p).eraseIdx p := by
  rw [List.eraseIdx_of_length_le (l := l.take p) (by rw [List.length_take]; omega), List.eraseIdx_eq_take_drop_succ, List.take_take, List.drop_of_length_le (by rw [List.length_take]; omega), List.append_nil, Nat.min_eq_left (by omega)]
theorem erase_on {α : Type} [Inhabited α] (l : List α) (p i : Nat) (hi : i < l.length) (h : i ≠ p) : (l.take (i + 1)).eraseIdx p = (l.take i).eraseIdx p ++ [el l i] := by
  have h1 : l.take (i + 1) = l.take i ++ [el l i] := by rw [List.take_add_one, el_get hi]; rfl
  have h2 : (l.take i).length = i := by rw [List.length_take]; omega
  rw [h1]
  by_cases hp : p < i
  · exact List.eraseIdx_append_of_lt_length (by omega) _
  · rw [List.eraseIdx_of_length_le (by simp; omega), List.eraseIdx_of_length_le (by omega)]

set_option maxRecDepth 10000 in
theorem last_ok (g : Nat) (most : Value) (A : Option Addr) (cap : Nat) (cs : List ClX) (b v0 : Value) (p : Nat) (hp : p ≤ cs.length) (hl : cs.length ≤ 1000000) (c : ClX) (w0 w : World) (L : List Asr)
    (M : Mem w0 w (Asr.row g 65 [most, .slice A cs.length cap, b, v0] :: Asr.lst clientE A cap cs :: L)) :
    Fn Try.prog 44 [.pointer (some ⟨g, 0, none⟩), .int .i64 (atI cs.length p), c.v] w fun v w' => v = .tuple #[] ∧ ∃ A' cap',
      Mem w0 w' (Asr.row g 65 [most, .slice A' (cs.eraseIdx p ++ [c]).length cap', b, v0] :: Asr.lst clientE A' cap' (cs.eraseIdx p ++ [c]) :: L) := by
  unfold ClX.v
  refine Fn.enter Try.func44 rfl Try.ntmps44 rfl ?_
  refine W.sub [(0, _), (1, _), (2, _)] (.cons rfl (.cons rfl (.cons rfl .nil))) ?_
  refine W.seq ?_
  refine W.region ?_
  refine WL.box rfl M rfl ?_
  intro g0_0 w M
  try simp only [Value.cells] at M
  try simp only [List.toList_toArray] at M
  refine WL.nil ?_
  refine WX.next ?_
  refine W.sub [(0, _), (1, _), (5, _)] (.cons rfl (.cons rfl (.cons rfl .nil))) ?_
  refine W.seq ?_
  refine W.region ?_
  refine WL.assign rfl rfl ?_
  refine WL.nil ?_
  refine WX.next ?_
  refine W.sub [(0, _), (1, _), (5, _), (6, _)] (.cons rfl (.cons rfl (.cons rfl (.cons rfl .nil)))) ?_
  refine W.seq ?_
  refine W.seq ?_
  refine W.region ?_
  refine WL.assign rfl rfl ?_
  refine WL.nil ?_
  refine WX.next ?_
  refine W.sub [(0, _), (1, _), (5, _), (6, _), (7, _)] (.cons rfl (.cons rfl (.cons rfl (.cons rfl (.cons rfl .nil))))) ?_
  refine W.block ?_
  refine W.loop (ι := Nat × (Option Addr × Nat × List ClX)) (fun z => [(0, .pointer (some ⟨g, 0, none⟩)), (1, .int .i64 (atI cs.length p)), (5, .pointer (some ⟨g0_0, 0, none⟩)), (6, .slice z.2.1 z.2.2.2.length z.2.2.1), (7, .int .i64 (z.1 : Int))]) (fun zz w => Mem w0 w ((fun z => Asr.lst clientE z.2.1 z.2.2.1 z.2.2.2 :: Asr.row g0_0 45 [.int .u64 (c.id : Int), .int .u64 (c.num : Int), .bool c.busy, .slice c.A c.rep.length c.cap] :: Asr.row g 65 [most, .slice A cs.length cap, b, v0] :: Asr.lst clientE A cap cs :: L) zz) ∧ (fun z => z.1 ≤ cs.length ∧ z.2.2.2 = (cs.take z.1).eraseIdx p) zz) (fun z => cs.length - z.1) ((0, (none, 0, []))) (by (repeat' (first | exact envSub.nil | refine envSub.cons ?_ ?_)) <;> first | rfl | (refine congrArg some ?_; refine congrArg (Value.int _) ?_; first | omega | (dsimp only; omega)) | (simp; done) | (refine congrArg some ?_; dsimp only; congr 1; omega) | (simp; omega)) ⟨(Mem.nilOwn M 45 4).sel (by first | ((repeat (first | with_reducible exact Sel.refl | with_reducible exact Sel.nil | with_reducible exact Del.here | with_reducible apply Del.there | with_reducible apply Sel.cons | with_reducible apply Sel.drop)); done) | (repeat (first | exact Sel.refl | exact Sel.nil | exact Del.here | apply Del.there | apply Sel.cons | apply Sel.drop))), ⟨Nat.zero_le _, by simp⟩⟩ ?_
  clear M; rintro (⟨i, B, c', out⟩) w ⟨M, ⟨hi, ho⟩⟩; dsimp only at M hi ho ⊢
  refine W.sub [(0, _), (1, _), (5, _), (6, _), (7, _)] (.cons rfl (.cons rfl (.cons rfl (.cons rfl (.cons rfl .nil))))) ?_
  refine W.seq ?_
  refine W.seq ?_
  refine W.region ?_
  refine WL.move rfl rfl ?_
  refine WL.move rfl rfl ?_
  refine WL.nilCheck rfl rfl ?_
  refine WL.fieldR (off := 1) Try.underlying65 rfl rfl Try.sizeOf41 rfl rfl rfl ?_
  refine WL.loadR Try.isAgg41 rfl M (by first | ((repeat (first | with_reducible exact Has.here | with_reducible refine Has.there ?_)); done) | (repeat (first | exact Has.here | refine Has.there ?_))) rfl rfl ?_
  refine WL.len Try.underlying41 rfl rfl ?_
  refine WL.lss rfl rfl rfl ?_
  refine WL.nil ?_
  refine WX.next ?_
  refine W.sub [(0, _), (1, _), (5, _), (6, _), (7, _), (14, _)] (.cons rfl (.cons rfl (.cons rfl (.cons rfl (.cons rfl (.cons rfl .nil)))))) ?_
  refine W.ite rfl (fun c0 => ?_) (fun c0 => ?_)
  · refine W.skip ?_
    refine WX.next ?_
    refine W.joint (fun (z : Option Addr × Nat × List ClX) => [(0, .pointer (some ⟨g, 0, none⟩)), (1, .int .i64 (atI cs.length p)), (5, .pointer (some ⟨g0_0, 0, none⟩)), (6, .slice z.1 z.2.2.length z.2.1), (7, .int .i64 (i : Int))]) (fun j w => Mem w0 w ((fun z => Asr.lst clientE z.1 z.2.1 z.2.2 :: Asr.row g0_0 45 [.int .u64 (c.id : Int), .int .u64 (c.num : Int), .bool c.busy, .slice c.A c.rep.length c.cap] :: Asr.row g 65 [most, .slice A cs.length cap, b, v0] :: Asr.lst clientE A cap cs :: L) j) ∧ (fun z => z.2.2 = (cs.take (i + 1)).eraseIdx p) j) ?_ ?_
    · refine W.block ?_
      refine W.seq ?_
      have hol : out.length ≤ i := by
        rw [ho]
        have := List.length_eraseIdx_le (cs.take i) p
        have h2 : (cs.take i).length = i := by rw [List.length_take]; omega
        omega
      refine W.region ?_
      refine WL.move rfl rfl ?_
      refine WL.move rfl rfl ?_
      refine WL.neI rfl rfl rfl ?_
      refine WL.nil ?_
      refine WX.next ?_
      refine W.sub [(0, _), (1, _), (5, _), (6, _), (7, _), (19, _)] (.cons rfl (.cons rfl (.cons rfl (.cons rfl (.cons rfl (.cons rfl .nil)))))) ?_
      refine W.ite rfl (fun c1 => ?_) (fun c1 => ?_)
      · have hip : i ≠ p := by
          intro e
          rw [atI_in (by omega)] at c1
          omega
        refine W.region ?_
        refine WL.move rfl rfl ?_
        refine WL.move rfl rfl ?_
        refine WL.nilCheck rfl rfl ?_
        refine WL.fieldR (off := 1) Try.underlying65 rfl rfl Try.sizeOf41 rfl rfl rfl ?_
        refine WL.loadR Try.isAgg41 rfl M (by first | ((repeat (first | with_reducible exact Has.here | with_reducible refine Has.there ?_)); done) | (repeat (first | exact Has.here | refine Has.there ?_))) rfl rfl ?_
        refine WL.move rfl rfl ?_
        refine WL.idxA Try.underlying41 Try.sizeOf45 rfl rfl (RdL.isSome (E := clientE) (by first | with_reducible assumption | with_reducible exact RdL.mem (by with_reducible assumption) M | exact M.rdL (by first | ((repeat (first | with_reducible exact Has.here | with_reducible refine Has.there ?_)); done) | (repeat (first | exact Has.here | refine Has.there ?_))) | exact RdLH.at (by assumption) (M.sel (by first | ((repeat (first | with_reducible exact Sel.refl | with_reducible exact Sel.nil | with_reducible exact Del.here | with_reducible apply Del.there | with_reducible apply Sel.cons | with_reducible apply Sel.drop)); done) | (repeat (first | exact Sel.refl | exact Sel.nil | exact Del.here | apply Del.there | apply Sel.cons | apply Sel.drop)))) | exact RdL.nil _ _ _) (by omega)) (by omega) (by omega) (by first | exact rfl | exact (Int.toNat_of_nonneg (by omega)).symm) rfl ?_
        refine WL.loadL (E := clientE) (cs := [_, _, _, _]) Try.isAgg45 Try.sizeOf45 rfl (by first | with_reducible assumption | with_reducible exact RdL.mem (by with_reducible assumption) M | exact M.rdL (by first | ((repeat (first | with_reducible exact Has.here | with_reducible refine Has.there ?_)); done) | (repeat (first | exact Has.here | refine Has.there ?_))) | exact RdLH.at (by assumption) (M.sel (by first | ((repeat (first | with_reducible exact Sel.refl | with_reducible exact Sel.nil | with_reducible exact Del.here | with_reducible apply Del.there | with_reducible apply Sel.cons | with_reducible apply Sel.drop)); done) | (repeat (first | exact Sel.refl | exact Sel.nil | exact Del.here | apply Del.there | apply Sel.cons | apply Sel.drop)))) | exact RdL.nil _ _ _) rfl (by omega) rfl rfl ?_
        refine WL.buildL (E := clientE) (l := [el cs i]) Try.elem45 M rfl rfl rfl rfl rfl rfl ?_
        intro g6_8 w M
        refine WL.appendL (E := clientE) Try.elem45 rfl rfl M (by first | ((repeat (first | with_reducible exact Del.here | with_reducible apply Del.there)); done) | (repeat (first | exact Del.here | apply Del.there))) (by first | with_reducible assumption | with_reducible exact RdL.mem (by with_reducible assumption) M | exact M.rdL (by first | ((repeat (first | with_reducible exact Has.here | with_reducible refine Has.there ?_)); done) | (repeat (first | exact Has.here | refine Has.there ?_))) | exact RdLH.at (by assumption) (M.sel (by first | ((repeat (first | with_reducible exact Sel.refl | with_reducible exact Sel.nil | with_reducible exact Del.here | with_reducible apply Del.there | with_reducible apply Sel.cons | with_reducible apply Sel.drop)); done) | (repeat (first | exact Sel.refl | exact Sel.nil | exact Del.here | apply Del.there | apply Sel.cons | apply Sel.drop)))) | exact RdL.nil _ _ _) rfl rfl (by first | omega | (simp; done) | (simp; omega)) (by first | (simp only [maxLen]; omega) | (simp [maxLen]; done) | (simp [maxLen]; omega)) rfl ?_
        intro A6_9 cap6_9 w M
        refine WL.assign rfl rfl ?_
        refine WL.nil ?_
        refine WX.blockNormal ?_
        refine WX.join ((A6_9, cap6_9, out ++ [el cs i])) (by (repeat' (first | exact envSub.nil | refine envSub.cons ?_ ?_)) <;> first | rfl | (refine congrArg some ?_; refine congrArg (Value.int _) ?_; first | omega | (dsimp only; omega)) | (simp; done) | (refine congrArg some ?_; dsimp only; congr 1; omega) | (simp; omega)) ⟨M.sel (by first | ((repeat (first | with_reducible exact Sel.refl | with_reducible exact Sel.nil | with_reducible exact Del.here | with_reducible apply Del.there | with_reducible apply Sel.cons | with_reducible apply Sel.drop)); done) | (repeat (first | exact Sel.refl | exact Sel.nil | exact Del.here | apply Del.there | apply Sel.cons | apply Sel.drop))), (by dsimp only; rw [erase_on cs p i (by omega) hip, ho])⟩
      · have hip : i = p := by
          by_cases hpl : p < cs.length
          · rw [atI_in hpl] at c1
            omega
          · rw [atI_out hpl] at c1
            omega
        refine W.skip ?_
        refine WX.blockNormal ?_
        refine WX.join ((B, c', out)) (by (repeat' (first | exact envSub.nil | refine envSub.cons ?_ ?_)) <;> first | rfl | (refine congrArg some ?_; refine congrArg (Value.int _) ?_; first | omega | (dsimp only; omega)) | (simp; done) | (refine congrArg some ?_; dsimp only; congr 1; omega) | (simp; omega)) ⟨M.sel (by first | ((repeat (first | with_reducible exact Sel.refl | with_reducible exact Sel.nil | with_reducible exact Del.here | with_reducible apply Del.there | with_reducible apply Sel.cons | with_reducible apply Sel.drop)); done) | (repeat (first | exact Sel.refl | exact Sel.nil | exact Del.here | apply Del.there | apply Sel.cons | apply Sel.drop))), (by dsimp only; rw [hip, erase_at, ho, hip])⟩
    clear M; rintro (⟨B2, c2, out2⟩) w ⟨M, ho2⟩; dsimp only at M ho2 ⊢
    refine W.sub [(0, _), (1, _), (5, _), (6, _), (7, _)] (.cons rfl (.cons rfl (.cons rfl (.cons rfl (.cons rfl .nil))))) ?_
    refine W.region ?_
    refine WL.move rfl rfl ?_
    refine WL.add rfl rfl (by first | exact wI64 (by omega) | rfl) rfl ?_
    refine WL.assign rfl rfl ?_
    refine WL.nil ?_
    refine WX.round ((i + 1, (B2, c2, out2))) (by (repeat' (first | exact envSub.nil | refine envSub.cons ?_ ?_)) <;> first | rfl | (refine congrArg some ?_; refine congrArg (Value.int _) ?_; first | omega | (dsimp only; omega)) | (simp; done) | (refine congrArg some ?_; dsimp only; congr 1; omega) | (simp; omega)) ⟨M.sel (by first | ((repeat (first | with_reducible exact Sel.refl | with_reducible exact Sel.nil | with_reducible exact Del.here | with_reducible apply Del.there | with_reducible apply Sel.cons | with_reducible apply Sel.drop)); done) | (repeat (first | exact Sel.refl | exact Sel.nil | exact Del.here | apply Del.there | apply Sel.cons | apply Sel.drop))), ⟨by dsimp only; omega, ho2⟩⟩ (by first | omega | (dsimp only; omega))
  · refine W.exit ?_
    refine WX.thenExit ?_
    refine WX.thenExit ?_
    refine WX.blockHere ?_
    refine WX.next ?_
    refine W.seq ?_
    obtain rfl : i = cs.length := by omega
    rw [List.take_length] at ho
    have hol : out.length ≤ cs.length := by rw [ho]; exact List.length_eraseIdx_le ..
    refine W.region ?_
    refine WL.move rfl rfl ?_
    refine WL.loadW Try.isAgg45 Try.sizeOf45 rfl M (by first | ((repeat (first | with_reducible exact Has.here | with_reducible refine Has.there ?_)); done) | (repeat (first | exact Has.here | refine Has.there ?_))) rfl rfl ?_
    refine WL.buildL (E := clientE) (l := [c]) Try.elem45 M rfl rfl rfl rfl rfl rfl ?_
    intro g7_2 w M
    refine WL.appendL (E := clientE) Try.elem45 rfl rfl M (by first | ((repeat (first | with_reducible exact Del.here | with_reducible apply Del.there)); done) | (repeat (first | exact Del.here | apply Del.there))) (by first | with_reducible assumption | with_reducible exact RdL.mem (by with_reducible assumption) M | exact M.rdL (by first | ((repeat (first | with_reducible exact Has.here | with_reducible refine Has.there ?_)); done) | (repeat (first | exact Has.here | refine Has.there ?_))) | exact RdLH.at (by assumption) (M.sel (by first | ((repeat (first | with_reducible exact Sel.refl | with_reducible exact Sel.nil | with_reducible exact Del.here | with_reducible apply Del.there | with_reducible apply Sel.cons | with_reducible apply Sel.drop)); done) | (repeat (first | exact Sel.refl | exact Sel.nil | exact Del.here | apply Del.there | apply Sel.cons | apply Sel.drop)))) | exact RdL.nil _ _ _) rfl rfl (by first | omega | (simp; done) | (simp; omega)) (by first | (simp only [maxLen]; omega) | (simp [maxLen]; done) | (simp [maxLen]; omega)) rfl ?_
    intro A7_3 cap7_3 w M
    refine WL.assign rfl rfl ?_
    refine WL.nil ?_
    refine WX.next ?_
    refine W.sub [(0, _), (6, _)] (.cons rfl (.cons rfl .nil)) ?_
    refine W.region ?_
    refine WL.move rfl rfl ?_
    refine WL.move rfl rfl ?_
    refine WL.nilCheck rfl rfl ?_
    refine WL.fieldR (off := 1) Try.underlying65 rfl rfl Try.sizeOf41 rfl rfl rfl ?_
    refine WL.storeR Try.sizeOf41 rfl rfl rfl M (by first | ((repeat (first | with_reducible exact Has.here | with_reducible refine Has.there ?_)); done) | (repeat (first | exact Has.here | refine Has.there ?_))) (by repeat (first | exact SetAt.zero | apply SetAt.succ)) (by first | ((repeat (first | with_reducible exact Upd.here | with_reducible apply Upd.there)); done) | (repeat (first | exact Upd.here | apply Upd.there))) ?_
    intro w M
    refine WL.nil ?_
    refine WX.end0 rfl ?_
    rw [← ho]
    exact ⟨rfl, A7_3, cap7_3, M.sel (by first | ((repeat (first | with_reducible exact Sel.refl | with_reducible exact Sel.nil | with_reducible exact Del.here | with_reducible apply Del.there | with_reducible apply Sel.cons | with_reducible apply Sel.drop)); done) | (repeat (first | exact Sel.refl | exact Sel.nil | exact Del.here | apply Del.there | apply Sel.cons | apply Sel.drop)))⟩
end Go.Proofs.Ytmogpoghngmnmaa
