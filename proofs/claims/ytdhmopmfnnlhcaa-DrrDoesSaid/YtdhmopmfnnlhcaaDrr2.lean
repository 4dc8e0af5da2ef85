/-
  Walks: a scheduler (drr).
-/
import Derived.Test.YtdhmopmfnnlhcaaDrrLaw
namespace Go.Proofs.Ytdhmopmfnnlhcaa
open Go Go.RowKit

theorem perm_erase {α : Type} : ∀ (l : List α) (k : Nat) (hk : k < l.length), (l[k] :: l.eraseIdx k).Perm l
  | a :: l, 0, _ => .refl _
  | a :: l, k + 1, hk => by
    have := perm_erase l k (by simpa using hk)
    rw [List.eraseIdx_cons_succ, List.getElem_cons_succ]
    exact (List.Perm.swap _ _ _).trans (this.cons a)
section
variable {α : Type} [Inhabited α] {f : α → Asr} {l : List α} {w0 w : World} {L : List Asr}
theorem Mem.starAt (M : Mem w0 w (Asr.star (l.map f) :: L)) (k : Nat) (hk : k < l.length) : Mem w0 w (f (el l k) :: Asr.star ((l.eraseIdx k).map f) :: L) := by
  have h : (l.map f).Perm (f (el l k) :: (l.eraseIdx k).map f) := by
    have e : el l k = l[k] := by simp [el, hk]
    rw [e, ← List.map_cons]
    exact (perm_erase l k hk).symm.map f
  exact (M.starPerm h).unstarCons
omit [Inhabited α] in
theorem Mem.starSet {x : α} (k : Nat) (hk : k < l.length) (M : Mem w0 w (f x :: Asr.star ((l.eraseIdx k).map f) :: L)) : Mem w0 w (Asr.star ((l.set k x).map f) :: L) := by
  refine M.starCons.starPerm ?_
  have h := perm_erase (l.set k x) k (by simpa using hk)
  rw [List.getElem_set_self, List.eraseIdx_set_eq] at h
  rw [← List.map_cons]
  exact h.map f
end
theorem jobsRd {w : World} {A : Option Addr} {cap : Nat} {l : List JX} (h : (Asr.lst jobE A cap l).holds w) : RdL w jobE A cap l := by
  obtain ⟨hl, h2⟩ := h
  rcases h2 with ⟨rfl, h0, rfl⟩ | ⟨g, sp, rfl, hg, hc, _, hn⟩
  · exact ⟨hl, by omega, fun h => by omega⟩
  · refine ⟨hl, hn, fun _ => ⟨_, rfl, (Array.getElem?_eq_some_iff.1 hg).1, fun j v hv => ?_⟩⟩
    rw [add_lit, Nat.zero_add, cell_of_row w g j _ _ _ hg]
    have hj := (List.getElem?_eq_some_iff.1 hv).1
    simp [List.getElem?_append_left hj, hv]

def FwX.key (f : FwX) : Fl := ⟨f.share, f.credit, f.jobs⟩
/-- Numbers, as they lie. -/
abbrev ints (l : List Nat) : List Int := l.map fun k : Nat => (k : Int)
/-- A scheduler as it lies. -/
structure SdX where
  g : Nat
  Af : Option Addr
  cf : Nat
  fw : List FwX
  Ar : Option Addr
  cr : Nat
  round : List Nat
  on : Bool
  n : Int
def SdX.row (x : SdX) : List Value := [.slice x.Af x.fw.length x.cf, .slice x.Ar (ints x.round).length x.cr, .bool x.on, .int .i64 x.n]
def SdX.L (x : SdX) : List Asr := [Asr.row x.g 59 x.row, Asr.lst flowE x.Af x.cf x.fw, Asr.star (x.fw.map FwX.O), Asr.lst intE x.Ar x.cr (ints x.round)]
def SdX.s (x : SdX) : Sd := ⟨x.fw.map FwX.key, x.round, x.on⟩

theorem is_ok (x : SdX) (hl : x.fw.length ≤ 100) (z : Int) (w0 w : World) (L : List Asr) (M : Mem w0 w (x.L ++ L)) :
    Fn Try.prog 24 [.pointer (some ⟨x.g, 0, none⟩), .int .i64 z] w fun v w' => v = .bool (decide (0 ≤ z ∧ z < (x.fw.length : Int))) ∧ w' = w := by
  obtain ⟨g, Af, cf, fw, Ar, cr, round, on, n⟩ := x
  unfold SdX.L SdX.row at M
  simp only [List.cons_append, List.nil_append] at M
  dsimp only at hl M ⊢
  refine Fn.enter Try.func24 rfl Try.ntmps24 rfl ?_
  refine W.sub [(0, _), (1, _)] (.cons rfl (.cons rfl .nil)) ?_
  refine W.seq ?_
  refine W.region ?_
  refine WL.assign rfl rfl ?_
  refine WL.nil ?_
  refine WX.next ?_
  refine W.sub [(0, _), (1, _)] (.cons rfl (.cons rfl .nil)) ?_
  refine W.seq ?_
  refine W.region ?_
  refine WL.move rfl rfl ?_
  refine WL.neNilT Try.underlying24 rfl rfl rfl ?_
  refine WL.move rfl rfl ?_
  refine WL.on rfl rfl ?_
  refine WL.move rfl rfl ?_
  refine WL.on rfl rfl ?_
  refine WL.geq rfl rfl rfl ?_
  refine WL.pickT rfl rfl rfl ?_
  refine WL.moveIf rfl rfl (fun c1 => ?_) (fun c1 => ?_)
  · refine WL.on rfl rfl ?_
    refine WL.move rfl rfl ?_
    refine WL.on rfl rfl ?_
    refine WL.move rfl rfl ?_
    refine WL.on rfl rfl ?_
    refine WL.nilCheck rfl rfl ?_
    refine WL.on rfl rfl ?_
    refine WL.fieldR (off := 0) Try.underlying59 rfl rfl Try.sizeOf57 rfl rfl rfl ?_
    refine WL.on rfl rfl ?_
    refine WL.loadR Try.isAgg57 rfl M (by first | ((repeat (first | with_reducible exact Has.here | with_reducible refine Has.there ?_)); done) | (repeat (first | exact Has.here | refine Has.there ?_))) rfl rfl ?_
    refine WL.on rfl rfl ?_
    refine WL.len Try.underlying57 rfl rfl ?_
    refine WL.on rfl rfl ?_
    refine WL.lss rfl rfl rfl ?_
    refine WL.pickT rfl rfl rfl ?_
    refine WL.assign rfl rfl ?_
    refine WL.nil ?_
    refine WX.next ?_
    refine W.sub [(4, _)] (.cons rfl .nil) ?_
    refine W.ret ?_
    refine WX.ret1 rfl rfl ?_
    exact ⟨by first | rfl | (congr 1; simp_all; done) | (congr 1; simp_all; omega) | (simp only [Value.bool.injEq, decide_eq_decide]; omega), rfl⟩
  · refine WL.off rfl rfl rfl rfl ?_
    refine WL.off rfl rfl rfl rfl ?_
    refine WL.off rfl rfl rfl rfl ?_
    refine WL.off rfl rfl rfl rfl ?_
    refine WL.off rfl rfl rfl rfl ?_
    refine WL.off rfl rfl rfl rfl ?_
    refine WL.off rfl rfl rfl rfl ?_
    refine WL.pickF rfl rfl rfl ?_
    refine WL.assign rfl rfl ?_
    refine WL.nil ?_
    refine WX.next ?_
    refine W.sub [(4, _)] (.cons rfl .nil) ?_
    refine W.ret ?_
    refine WX.ret1 rfl rfl ?_
    exact ⟨by first | rfl | (congr 1; simp_all; done) | (congr 1; simp_all; omega) | (simp only [Value.bool.injEq, decide_eq_decide]; omega), rfl⟩
theorem Len_ok (x : SdX) (hl : x.fw.length ≤ 100) (k : Nat) (hk : k < x.fw.length) (w0 w : World) (L : List Asr) (M : Mem w0 w (x.L ++ L)) :
    Fn Try.prog 22 [.pointer (some ⟨x.g, 0, none⟩), .int .i64 (k : Int)] w fun v w' => v = .int .i64 ((el x.fw k).jobs.length : Int) ∧ w' = w := by
  have M1 := M
  obtain ⟨g, Af, cf, fw, Ar, cr, round, on, n⟩ := x
  unfold SdX.L SdX.row at M
  simp only [List.cons_append, List.nil_append] at M
  dsimp only at hl hk M ⊢
  refine Fn.enter Try.func22 rfl Try.ntmps22 rfl ?_
  refine W.sub [(0, _), (1, _)] (.cons rfl (.cons rfl .nil)) ?_
  refine W.seq ?_
  refine W.region ?_
  refine WL.assign rfl rfl ?_
  refine WL.nil ?_
  refine WX.next ?_
  refine W.sub [(0, _), (1, _)] (.cons rfl (.cons rfl .nil)) ?_
  refine W.seq ?_
  refine W.seq ?_
  refine W.region ?_
  refine WL.move rfl rfl ?_
  refine WL.move rfl rfl ?_
  refine WL.call Try.call24 rfl (is_ok ⟨g, Af, cf, fw, Ar, cr, round, on, n⟩ hl (k : Int) w0 _ L M1) rfl ?_
  rintro _ _ ⟨rfl, rfl⟩
  dsimp only
  refine WL.not rfl rfl ?_
  refine WL.nil ?_
  refine WX.next ?_
  refine W.sub [(0, _), (1, _), (8, _)] (.cons rfl (.cons rfl (.cons rfl .nil))) ?_
  refine W.cond rfl (fun c0 => ?_) (fun c0 => ?_)
  · (try simp only [Bool.not_eq_true'] at c0); (try simp only [Bool.not_eq_false'] at c0); (try simp only [decide_eq_true_eq] at c0); (try simp only [decide_eq_false_iff_not] at c0)
    exact absurd c0 (by simp; omega)
  · (try simp only [Bool.not_eq_true'] at c0); (try simp only [Bool.not_eq_false'] at c0); (try simp only [decide_eq_true_eq] at c0); (try simp only [decide_eq_false_iff_not] at c0)
    refine W.skip ?_
    refine WX.next ?_
    refine W.seq ?_
    refine W.region ?_
    refine WL.move rfl rfl ?_
    refine WL.nilCheck rfl rfl ?_
    refine WL.fieldR (off := 0) Try.underlying59 rfl rfl Try.sizeOf57 rfl rfl rfl ?_
    refine WL.loadR Try.isAgg57 rfl M (by first | ((repeat (first | with_reducible exact Has.here | with_reducible refine Has.there ?_)); done) | (repeat (first | exact Has.here | refine Has.there ?_))) rfl rfl ?_
    refine WL.move rfl rfl ?_
    refine WL.idxA Try.underlying57 Try.sizeOf62 rfl rfl (RdL.isSome (E := flowE) (by first | with_reducible assumption | with_reducible exact RdL.mem (by with_reducible assumption) M | exact M.rdL (by first | ((repeat (first | with_reducible exact Has.here | with_reducible refine Has.there ?_)); done) | (repeat (first | exact Has.here | refine Has.there ?_))) | exact RdLH.at (by assumption) (M.sel (by first | ((repeat (first | with_reducible exact Sel.refl | with_reducible exact Sel.nil | with_reducible exact Del.here | with_reducible apply Del.there | with_reducible apply Sel.cons | with_reducible apply Sel.drop)); done) | (repeat (first | exact Sel.refl | exact Sel.nil | exact Del.here | apply Del.there | apply Sel.cons | apply Sel.drop)))) | exact RdL.nil _ _ _) (by omega)) (by omega) (by omega) (by first | exact rfl | exact (Int.toNat_of_nonneg (by omega)).symm) rfl ?_
    refine WL.fieldA (off := 2) Try.underlying62 rfl rfl Try.sizeOf27 rfl rfl rfl ?_
    refine WL.loadE (E := flowE) Try.isAgg27 rfl (by first | with_reducible assumption | with_reducible exact RdL.mem (by with_reducible assumption) M | exact M.rdL (by first | ((repeat (first | with_reducible exact Has.here | with_reducible refine Has.there ?_)); done) | (repeat (first | exact Has.here | refine Has.there ?_))) | exact RdLH.at (by assumption) (M.sel (by first | ((repeat (first | with_reducible exact Sel.refl | with_reducible exact Sel.nil | with_reducible exact Del.here | with_reducible apply Del.there | with_reducible apply Sel.cons | with_reducible apply Sel.drop)); done) | (repeat (first | exact Sel.refl | exact Sel.nil | exact Del.here | apply Del.there | apply Sel.cons | apply Sel.drop)))) | exact RdL.nil _ _ _) (by omega) rfl rfl ?_
    refine WL.len Try.underlying27 rfl rfl ?_
    refine WL.assign rfl rfl ?_
    refine WL.nil ?_
    refine WX.next ?_
    refine W.sub [(4, _)] (.cons rfl .nil) ?_
    refine W.ret ?_
    refine WX.ret1 rfl rfl ?_
    exact ⟨rfl, rfl⟩
theorem Credit_ok (x : SdX) (hl : x.fw.length ≤ 100) (k : Nat) (hk : k < x.fw.length) (w0 w : World) (L : List Asr) (M : Mem w0 w (x.L ++ L)) :
    Fn Try.prog 14 [.pointer (some ⟨x.g, 0, none⟩), .int .i64 (k : Int)] w fun v w' => v = .int .i64 (el x.fw k).credit ∧ w' = w := by
  have M1 := M
  obtain ⟨g, Af, cf, fw, Ar, cr, round, on, n⟩ := x
  unfold SdX.L SdX.row at M
  simp only [List.cons_append, List.nil_append] at M
  dsimp only at hl hk M ⊢
  refine Fn.enter Try.func14 rfl Try.ntmps14 rfl ?_
  refine W.sub [(0, _), (1, _)] (.cons rfl (.cons rfl .nil)) ?_
  refine W.seq ?_
  refine W.region ?_
  refine WL.assign rfl rfl ?_
  refine WL.nil ?_
  refine WX.next ?_
  refine W.sub [(0, _), (1, _)] (.cons rfl (.cons rfl .nil)) ?_
  refine W.seq ?_
  refine W.seq ?_
  refine W.region ?_
  refine WL.move rfl rfl ?_
  refine WL.move rfl rfl ?_
  refine WL.call Try.call24 rfl (is_ok ⟨g, Af, cf, fw, Ar, cr, round, on, n⟩ hl (k : Int) w0 _ L M1) rfl ?_
  rintro _ _ ⟨rfl, rfl⟩
  dsimp only
  refine WL.not rfl rfl ?_
  refine WL.nil ?_
  refine WX.next ?_
  refine W.sub [(0, _), (1, _), (8, _)] (.cons rfl (.cons rfl (.cons rfl .nil))) ?_
  refine W.cond rfl (fun c0 => ?_) (fun c0 => ?_)
  · (try simp only [Bool.not_eq_true'] at c0); (try simp only [Bool.not_eq_false'] at c0); (try simp only [decide_eq_true_eq] at c0); (try simp only [decide_eq_false_iff_not] at c0)
    exact absurd c0 (by simp; omega)
  · (try simp only [Bool.not_eq_true'] at c0); (try simp only [Bool.not_eq_false'] at c0); (try simp only [decide_eq_true_eq] at c0); (try simp only [decide_eq_false_iff_not] at c0)
    refine W.skip ?_
    refine WX.next ?_
    refine W.seq ?_
    refine W.region ?_
    refine WL.move rfl rfl ?_
    refine WL.nilCheck rfl rfl ?_
    refine WL.fieldR (off := 0) Try.underlying59 rfl rfl Try.sizeOf57 rfl rfl rfl ?_
    refine WL.loadR Try.isAgg57 rfl M (by first | ((repeat (first | with_reducible exact Has.here | with_reducible refine Has.there ?_)); done) | (repeat (first | exact Has.here | refine Has.there ?_))) rfl rfl ?_
    refine WL.move rfl rfl ?_
    refine WL.idxA Try.underlying57 Try.sizeOf62 rfl rfl (RdL.isSome (E := flowE) (by first | with_reducible assumption | with_reducible exact RdL.mem (by with_reducible assumption) M | exact M.rdL (by first | ((repeat (first | with_reducible exact Has.here | with_reducible refine Has.there ?_)); done) | (repeat (first | exact Has.here | refine Has.there ?_))) | exact RdLH.at (by assumption) (M.sel (by first | ((repeat (first | with_reducible exact Sel.refl | with_reducible exact Sel.nil | with_reducible exact Del.here | with_reducible apply Del.there | with_reducible apply Sel.cons | with_reducible apply Sel.drop)); done) | (repeat (first | exact Sel.refl | exact Sel.nil | exact Del.here | apply Del.there | apply Sel.cons | apply Sel.drop)))) | exact RdL.nil _ _ _) (by omega)) (by omega) (by omega) (by first | exact rfl | exact (Int.toNat_of_nonneg (by omega)).symm) rfl ?_
    refine WL.fieldA (off := 1) Try.underlying62 rfl rfl Try.sizeOf3 rfl rfl rfl ?_
    refine WL.loadE (E := flowE) Try.isAgg3 rfl (by first | with_reducible assumption | with_reducible exact RdL.mem (by with_reducible assumption) M | exact M.rdL (by first | ((repeat (first | with_reducible exact Has.here | with_reducible refine Has.there ?_)); done) | (repeat (first | exact Has.here | refine Has.there ?_))) | exact RdLH.at (by assumption) (M.sel (by first | ((repeat (first | with_reducible exact Sel.refl | with_reducible exact Sel.nil | with_reducible exact Del.here | with_reducible apply Del.there | with_reducible apply Sel.cons | with_reducible apply Sel.drop)); done) | (repeat (first | exact Sel.refl | exact Sel.nil | exact Del.here | apply Del.there | apply Sel.cons | apply Sel.drop)))) | exact RdL.nil _ _ _) (by omega) rfl rfl ?_
    refine WL.assign rfl rfl ?_
    refine WL.nil ?_
    refine WX.next ?_
    refine W.sub [(4, _)] (.cons rfl .nil) ?_
    refine W.ret ?_
    refine WX.ret1 rfl rfl ?_
    exact ⟨rfl, rfl⟩
theorem Turn_ok (x : SdX) (hon : x.on = true → x.round ≠ []) (w0 w : World) (L : List Asr) (M : Mem w0 w (x.L ++ L)) :
    Fn Try.prog 15 [.pointer (some ⟨x.g, 0, none⟩)] w fun v w' => v = .int .i64 (if x.on then (x.s.hd : Int) else -1) ∧ w' = w := by
  obtain ⟨g, Af, cf, fw, Ar, cr, round, on, n⟩ := x
  unfold SdX.L SdX.row at M
  simp only [List.cons_append, List.nil_append] at M
  dsimp only [SdX.s, Sd.hd] at hon M ⊢
  refine Fn.enter Try.func15 rfl Try.ntmps15 rfl ?_
  refine W.sub [(0, _)] (.cons rfl .nil) ?_
  refine W.seq ?_
  refine W.region ?_
  refine WL.assign rfl rfl ?_
  refine WL.nil ?_
  refine WX.next ?_
  refine W.sub [(0, _)] (.cons rfl .nil) ?_
  refine W.seq ?_
  refine W.seq ?_
  refine W.region ?_
  refine WL.move rfl rfl ?_
  refine WL.eqNilF Try.underlying24 rfl rfl rfl ?_
  refine WL.move rfl rfl ?_
  refine WL.on rfl rfl ?_
  refine WL.move rfl rfl ?_
  refine WL.on rfl rfl ?_
  refine WL.nilCheck rfl rfl ?_
  refine WL.on rfl rfl ?_
  refine WL.fieldR (off := 2) Try.underlying59 rfl rfl Try.sizeOf4 rfl rfl rfl ?_
  refine WL.on rfl rfl ?_
  refine WL.loadR Try.isAgg4 rfl M (by first | ((repeat (first | with_reducible exact Has.here | with_reducible refine Has.there ?_)); done) | (repeat (first | exact Has.here | refine Has.there ?_))) rfl rfl ?_
  refine WL.on rfl rfl ?_
  refine WL.not rfl rfl ?_
  refine WL.pickF rfl rfl rfl ?_
  refine WL.nil ?_
  refine WX.next ?_
  refine W.sub [(0, _), (11, _)] (.cons rfl (.cons rfl .nil)) ?_
  refine W.cond rfl (fun c1 => ?_) (fun c1 => ?_)
  · (try simp only [Bool.not_eq_true'] at c1); (try simp only [Bool.not_eq_false'] at c1); (try simp only [decide_eq_true_eq] at c1); (try simp only [decide_eq_false_iff_not] at c1)
    refine W.seq ?_
    refine W.region ?_
    refine WL.assign rfl rfl ?_
    refine WL.nil ?_
    refine WX.next ?_
    refine W.sub [(2, _)] (.cons rfl .nil) ?_
    refine W.ret ?_
    refine WX.thenRet ?_
    refine WX.ret1 rfl rfl ?_
    obtain rfl : on = false := by simpa using c1
    exact ⟨rfl, rfl⟩
  · (try simp only [Bool.not_eq_true'] at c1); (try simp only [Bool.not_eq_false'] at c1); (try simp only [decide_eq_true_eq] at c1); (try simp only [decide_eq_false_iff_not] at c1)
    obtain rfl : on = true := by simpa using c1
    obtain ⟨k, r, rfl⟩ := List.exists_cons_of_ne_nil (hon rfl)
    have h0 : 0 < (List.map (fun k : Nat => (k : Int)) (k :: r)).length := by simp
    have h1 : 0 < (ints (k :: r)).length := by simp
    refine W.skip ?_
    refine WX.next ?_
    refine W.seq ?_
    refine W.region ?_
    refine WL.move rfl rfl ?_
    refine WL.nilCheck rfl rfl ?_
    refine WL.fieldR (off := 1) Try.underlying59 rfl rfl Try.sizeOf22 rfl rfl rfl ?_
    refine WL.loadR Try.isAgg22 rfl M (by first | ((repeat (first | with_reducible exact Has.here | with_reducible refine Has.there ?_)); done) | (repeat (first | exact Has.here | refine Has.there ?_))) rfl rfl ?_
    refine WL.idxA (jn := 0) Try.underlying22 Try.sizeOf3 rfl rfl (RdL.isSome (E := intE) (by first | with_reducible assumption | with_reducible exact RdL.mem (by with_reducible assumption) M | exact M.rdL (by first | ((repeat (first | with_reducible exact Has.here | with_reducible refine Has.there ?_)); done) | (repeat (first | exact Has.here | refine Has.there ?_))) | exact RdLH.at (by assumption) (M.sel (by first | ((repeat (first | with_reducible exact Sel.refl | with_reducible exact Sel.nil | with_reducible exact Del.here | with_reducible apply Del.there | with_reducible apply Sel.cons | with_reducible apply Sel.drop)); done) | (repeat (first | exact Sel.refl | exact Sel.nil | exact Del.here | apply Del.there | apply Sel.cons | apply Sel.drop)))) | exact RdL.nil _ _ _) (by omega)) (by omega) (by omega) (by first | exact rfl | exact (Int.toNat_of_nonneg (by omega)).symm) rfl ?_
    refine WL.loadE0 (E := intE) Try.isAgg3 rfl (by first | with_reducible assumption | with_reducible exact RdL.mem (by with_reducible assumption) M | exact M.rdL (by first | ((repeat (first | with_reducible exact Has.here | with_reducible refine Has.there ?_)); done) | (repeat (first | exact Has.here | refine Has.there ?_))) | exact RdLH.at (by assumption) (M.sel (by first | ((repeat (first | with_reducible exact Sel.refl | with_reducible exact Sel.nil | with_reducible exact Del.here | with_reducible apply Del.there | with_reducible apply Sel.cons | with_reducible apply Sel.drop)); done) | (repeat (first | exact Sel.refl | exact Sel.nil | exact Del.here | apply Del.there | apply Sel.cons | apply Sel.drop)))) | exact RdL.nil _ _ _) (by omega) rfl rfl ?_
    refine WL.assign rfl rfl ?_
    refine WL.nil ?_
    refine WX.next ?_
    refine W.sub [(2, _)] (.cons rfl .nil) ?_
    refine W.ret ?_
    refine WX.ret1 rfl rfl ?_
    exact ⟨rfl, rfl⟩
end Go.Proofs.Ytdhmopmfnnlhcaa
