/-
  Walks: a reader over bytes (bin.Reader, seawallref01.Reader).
-/
import Derived.Test.YtmogpoghngmnmaaBin4
import Derived.Test.YtmogpoghngmnmaaLists3
import Derived.Test.YtmogpoghngmnmaaEncs
namespace Go.Proofs.Ytmogpoghngmnmaa
open Go Go.RowKit Bin

/-- A reader's state: bytes, place, error. -/
structure Rs where
  b : List UInt8
  at_ : Int
  err : Int
/-- What it is asked stays within. -/
structure Rs.ok (r : Rs) : Prop where
  len : r.b.length ≤ 140737488351232
  lo : 0 ≤ r.at_
  hi : r.at_ ≤ r.b.length
def uintV (r : Rs) : Nat := if r.err = 0 ∧ (rdU r.b r.at_).2.2 = 0 then (rdU r.b r.at_).1 else 0
def uintS (r : Rs) : Rs := if r.err ≠ 0 then r else if (rdU r.b r.at_).2.2 ≠ 0 then { r with err := (rdU r.b r.at_).2.2 } else { r with at_ := (rdU r.b r.at_).2.1 }
def textV (r : Rs) (most : Int) : List UInt8 := if r.err = 0 ∧ (rdB r.b r.at_ most).2.2 = 0 then (rdB r.b r.at_ most).1 else []
def textS (r : Rs) (most : Int) : Rs := if r.err ≠ 0 then r else if (rdB r.b r.at_ most).2.2 ≠ 0 then { r with err := (rdB r.b r.at_ most).2.2 } else { r with at_ := (rdB r.b r.at_ most).2.1 }
def leftV (r : Rs) : Int := if r.err ≠ 0 then 0 else (r.b.length : Int) - r.at_
theorem rdU_range (b : List UInt8) (at_ : Int) (h : (rdU b at_).2.2 = 0) : 0 ≤ (rdU b at_).2.1 ∧ (rdU b at_).2.1 ≤ b.length := by
  rcases rdU_cases b at_ with ⟨n, k, e, h0, hg⟩ | ⟨e', e⟩
  · have h1 := (getF_lt 10 0 _ n k rfl hg).1
    rw [List.length_drop] at h1
    have h2 : ¬ (at_ < 0 ∨ (b.length : Int) < at_) := by
      intro hc
      rw [rdU_out hc] at e
      simp at e
    rw [e]
    exact ⟨by dsimp only; omega, by dsimp only; omega⟩
  · rw [e] at h
    dsimp only at h
    omega
theorem uintS_ok {r : Rs} (h : r.ok) : (uintS r).ok := by
  unfold uintS
  split
  · exact h
  · split
    · exact ⟨h.len, h.lo, h.hi⟩
    · rename_i h1
      have := rdU_range r.b r.at_ (by simpa using h1)
      exact ⟨h.len, this.1, this.2⟩
theorem uintS_b (r : Rs) : (uintS r).b = r.b := by
  unfold uintS
  split
  · rfl
  · split <;> rfl

theorem rdB_range (b : List UInt8) (at_ most : Int) (h : (rdB b at_ most).2.2 = 0) : 0 ≤ (rdB b at_ most).2.1 ∧ (rdB b at_ most).2.1 ≤ b.length ∧ (rdB b at_ most).1.length ≤ b.length := by
  unfold rdB at h ⊢
  split at h
  · rename_i h0; exact absurd h h0
  · split at h
    · simp at h
    · split at h
      · simp at h
      · rename_i h0 h1 h2
        have := rdU_to (b := b) (at_ := at_) (by simpa using h0)
        rw [if_neg h0, if_neg h1, if_neg h2]
        refine ⟨by dsimp only; omega, by dsimp only; omega, ?_⟩
        rw [List.length_take, List.length_drop]
        omega
theorem textS_ok {r : Rs} (h : r.ok) (most : Int) : (textS r most).ok := by
  unfold textS
  split
  · exact h
  · split
    · exact ⟨h.len, h.lo, h.hi⟩
    · rename_i h1
      have := rdB_range r.b r.at_ most (by simpa using h1)
      exact ⟨h.len, this.1, this.2.1⟩
theorem textS_b (r : Rs) (most : Int) : (textS r most).b = r.b := by
  unfold textS
  split
  · rfl
  · split <;> rfl
theorem textV_le (r : Rs) (most : Int) : (textV r most).length ≤ r.b.length := by
  unfold textV
  split
  · rename_i h
    exact (rdB_range _ _ _ h.2).2.2
  · exact Nat.zero_le _

theorem New_ok (b : List UInt8) (A : Option Addr) (cap : Nat) (w0 : World) (h : RdB w0 A cap b) (hl : b.length ≤ 140737488351232) : Fn Try.prog 38 [.slice A b.length cap] w0 fun v w' =>
    ∃ g A' cap', v = .pointer (some ⟨g, 0, none⟩) ∧ Mem w0 w' [Asr.row g 113 [.slice A' b.length cap', .int .i64 0, .int .i64 0], Asr.own 5 1 A' b.length cap' (bs b)] := by
  have M := Mem.refl w0
  refine Fn.enter Try.func38 rfl Try.ntmps38 rfl ?_
  refine W.sub [(0, _)] (.cons rfl .nil) ?_
  refine W.seq ?_
  refine W.region ?_
  refine WL.assign rfl rfl ?_
  refine WL.nil ?_
  refine WX.next ?_
  refine W.sub [(0, _)] (.cons rfl .nil) ?_
  refine W.seq ?_
  refine W.region ?_
  refine WL.buildB (es := []) Try.elem5 M rfl rfl (by exact BytesOf.nil) (by rfl) rfl rfl ?_
  intro g1_0 w M
  refine WL.move rfl rfl ?_
  refine WL.appendBN Try.elem5 rfl rfl M (by first | ((repeat (first | with_reducible exact Del.here | with_reducible apply Del.there)); done) | (repeat (first | exact Del.here | apply Del.there))) (by first | first | with_reducible assumption | with_reducible exact RdB.mem (by with_reducible assumption) M | exact M.rdB (by first | ((repeat (first | with_reducible exact Has.here | with_reducible refine Has.there ?_)); done) | (repeat (first | exact Has.here | refine Has.there ?_))) | exact RdH.at (by assumption) (M.sel (by first | ((repeat (first | with_reducible exact Sel.refl | with_reducible exact Sel.nil | with_reducible exact Del.here | with_reducible apply Del.there | with_reducible apply Sel.cons | with_reducible apply Sel.drop)); done) | (repeat (first | exact Sel.refl | exact Sel.nil | exact Del.here | apply Del.there | apply Sel.cons | apply Sel.drop)))) | exact M.rdLit' (by first | ((repeat (first | with_reducible exact Has.here | with_reducible refine Has.there ?_)); done) | (repeat (first | exact Has.here | refine Has.there ?_))) | exact M.rdLent (by first | ((repeat (first | with_reducible exact Has.here | with_reducible refine Has.there ?_)); done) | (repeat (first | exact Has.here | refine Has.there ?_))) | exact RdB.nil _ _ | exact RdB.sub (by first | with_reducible assumption | with_reducible exact RdB.mem (by with_reducible assumption) M | exact M.rdB (by first | ((repeat (first | with_reducible exact Has.here | with_reducible refine Has.there ?_)); done) | (repeat (first | exact Has.here | refine Has.there ?_))) | exact RdH.at (by assumption) (M.sel (by first | ((repeat (first | with_reducible exact Sel.refl | with_reducible exact Sel.nil | with_reducible exact Del.here | with_reducible apply Del.there | with_reducible apply Sel.cons | with_reducible apply Sel.drop)); done) | (repeat (first | exact Sel.refl | exact Sel.nil | exact Del.here | apply Del.there | apply Sel.cons | apply Sel.drop)))) | exact M.rdLit' (by first | ((repeat (first | with_reducible exact Has.here | with_reducible refine Has.there ?_)); done) | (repeat (first | exact Has.here | refine Has.there ?_))) | exact M.rdLent (by first | ((repeat (first | with_reducible exact Has.here | with_reducible refine Has.there ?_)); done) | (repeat (first | exact Has.here | refine Has.there ?_))) | exact RdB.nil _ _) (by omega) (by omega) | exact RdB.pre' (by first | with_reducible assumption | with_reducible exact RdB.mem (by with_reducible assumption) M | exact M.rdB (by first | ((repeat (first | with_reducible exact Has.here | with_reducible refine Has.there ?_)); done) | (repeat (first | exact Has.here | refine Has.there ?_))) | exact RdH.at (by assumption) (M.sel (by first | ((repeat (first | with_reducible exact Sel.refl | with_reducible exact Sel.nil | with_reducible exact Del.here | with_reducible apply Del.there | with_reducible apply Sel.cons | with_reducible apply Sel.drop)); done) | (repeat (first | exact Sel.refl | exact Sel.nil | exact Del.here | apply Del.there | apply Sel.cons | apply Sel.drop)))) | exact M.rdLit' (by first | ((repeat (first | with_reducible exact Has.here | with_reducible refine Has.there ?_)); done) | (repeat (first | exact Has.here | refine Has.there ?_))) | exact M.rdLent (by first | ((repeat (first | with_reducible exact Has.here | with_reducible refine Has.there ?_)); done) | (repeat (first | exact Has.here | refine Has.there ?_))) | exact RdB.nil _ _) (by omega) | exact RdB.suf (by first | with_reducible assumption | with_reducible exact RdB.mem (by with_reducible assumption) M | exact M.rdB (by first | ((repeat (first | with_reducible exact Has.here | with_reducible refine Has.there ?_)); done) | (repeat (first | exact Has.here | refine Has.there ?_))) | exact RdH.at (by assumption) (M.sel (by first | ((repeat (first | with_reducible exact Sel.refl | with_reducible exact Sel.nil | with_reducible exact Del.here | with_reducible apply Del.there | with_reducible apply Sel.cons | with_reducible apply Sel.drop)); done) | (repeat (first | exact Sel.refl | exact Sel.nil | exact Del.here | apply Del.there | apply Sel.cons | apply Sel.drop)))) | exact M.rdLit' (by first | ((repeat (first | with_reducible exact Has.here | with_reducible refine Has.there ?_)); done) | (repeat (first | exact Has.here | refine Has.there ?_))) | exact M.rdLent (by first | ((repeat (first | with_reducible exact Has.here | with_reducible refine Has.there ?_)); done) | (repeat (first | exact Has.here | refine Has.there ?_))) | exact RdB.nil _ _) (by omega)) rfl rfl (by first | omega | (simp; done) | (simp; omega)) rfl ?_
  intro A1_2 cap1_2 w M
  refine WL.buildP (places := #[(0, 1), (1, 1), (2, 1)]) Try.underlying113 Try.zeroValue113 (fun _ => by simp [Try.sizeOf32, Try.sizeOf3, Try.sizeOf26]) rfl (by repeat (first | exact Puts.nil | exact SetAt.zero | apply SetAt.succ | apply Puts.cons rfl rfl)) rfl ?_
  refine WL.box rfl M rfl ?_
  intro g1_4 w M
  try simp only [Value.cells] at M
  try simp only [List.toList_toArray] at M
  refine WL.assign rfl rfl ?_
  refine WL.nil ?_
  refine WX.next ?_
  refine W.sub [(2, _)] (.cons rfl .nil) ?_
  refine W.ret ?_
  refine WX.ret1 rfl rfl ?_
  exact ⟨g1_4, A1_2, cap1_2, rfl, M.sel (by first | ((repeat (first | with_reducible exact Sel.refl | with_reducible exact Sel.nil | with_reducible exact Del.here | with_reducible apply Del.there | with_reducible apply Sel.cons | with_reducible apply Sel.drop)); done) | (repeat (first | exact Sel.refl | exact Sel.nil | exact Del.here | apply Del.there | apply Sel.cons | apply Sel.drop)))⟩

section
variable (g : Nat) (A : Option Addr) (cap : Nat) (r : Rs) (hr : r.ok) (w0 w : World) (L L' : List Asr)
include hr
theorem rdUint_ok (M : Mem w0 w L) (hd : Del (Asr.row g 113 [.slice A r.b.length cap, .int .i64 r.at_, .int .i64 r.err]) L L') (hb : RdH w0 L' A cap r.b) :
    Fn Try.prog 39 [.pointer (some ⟨g, 0, none⟩)] w fun v w' => v = .int .u64 (uintV r : Int) ∧
      Mem w0 w' (Asr.row g 113 [.slice A r.b.length cap, .int .i64 (uintS r).at_, .int .i64 (uintS r).err] :: L') := by
  replace M := M.del hd
  have hlo := hr.lo
  have hhi := hr.hi
  have hln := hr.len
  refine Fn.enter Try.func39 rfl Try.ntmps39 rfl ?_
  refine W.sub [(0, _)] (.cons rfl .nil) ?_
  refine W.seq ?_
  refine W.region ?_
  refine WL.assign rfl rfl ?_
  refine WL.nil ?_
  refine WX.next ?_
  refine W.sub [(0, _)] (.cons rfl .nil) ?_
  refine W.seq ?_
  refine W.seq ?_
  refine W.region ?_
  refine WL.move rfl rfl ?_
  refine WL.eqNilF Try.underlying96 rfl rfl rfl ?_
  refine WL.move rfl rfl ?_
  refine WL.on rfl rfl ?_
  refine WL.move rfl rfl ?_
  refine WL.on rfl rfl ?_
  refine WL.nilCheck rfl rfl ?_
  refine WL.on rfl rfl ?_
  refine WL.fieldR (off := 2) Try.underlying113 rfl rfl Try.sizeOf26 rfl rfl rfl ?_
  refine WL.on rfl rfl ?_
  refine WL.loadR Try.isAgg26 rfl M (by first | ((repeat (first | with_reducible exact Has.here | with_reducible refine Has.there ?_)); done) | (repeat (first | exact Has.here | refine Has.there ?_))) rfl rfl ?_
  refine WL.on rfl rfl ?_
  refine WL.neI rfl rfl rfl ?_
  refine WL.pickF rfl rfl rfl ?_
  refine WL.nil ?_
  refine WX.next ?_
  refine W.sub [(0, _), (14, _)] (.cons rfl (.cons rfl .nil)) ?_
  refine W.ite rfl (fun c1 => ?_) (fun c1 => ?_)
  · refine W.seq ?_
    refine W.region ?_
    refine WL.assign rfl rfl ?_
    refine WL.nil ?_
    refine WX.next ?_
    refine W.sub [(2, _)] (.cons rfl .nil) ?_
    refine W.ret ?_
    refine WX.thenRet ?_
    refine WX.ret1 rfl rfl ?_
    exact ⟨by unfold uintV; rw [if_neg (fun h => by first | exact c1 h.1 | omega)]; rfl, by unfold uintS; rw [if_pos (by first | exact c1 | omega)]; exact M⟩
  · have h0 : r.err = 0 := by first | exact Classical.byContradiction fun h => c1 h | omega
    refine W.skip ?_
    refine WX.next ?_
    refine W.seq ?_
    refine W.drawM (_) (by kernel_rfl) (fun j => [3, 7].contains j) M Sel.refl ?_
    clear M; intro M
    apply DG.pure_ [0, 1, 2, 4, 5, 6] 10 rfl (by kernel_rfl) (by kernel_rfl)
    · intro w
      refine WL.move rfl rfl ?_
      refine WL.nilCheck rfl rfl ?_
      refine WL.fieldR (off := 0) Try.underlying113 rfl rfl Try.sizeOf32 rfl rfl rfl ?_
      refine WL.move rfl rfl ?_
      refine WL.nilCheck rfl rfl ?_
      refine WL.fieldR (off := 1) Try.underlying113 rfl rfl Try.sizeOf3 rfl rfl rfl ?_
      exact Chain.end_ rfl
    apply DG.take [3, 7] 8 rfl (by kernel_rfl) (by kernel_rfl) (M.sel (by first | ((repeat (first | with_reducible exact Sel.refl | with_reducible exact Sel.nil | with_reducible exact Del.here | with_reducible apply Del.there | with_reducible apply Sel.cons | with_reducible apply Sel.drop)); done) | (repeat (first | exact Sel.refl | exact Sel.nil | exact Del.here | apply Del.there | apply Sel.cons | apply Sel.drop))))
    · intro w M
      refine WL.loadR Try.isAgg32 rfl M (by first | ((repeat (first | with_reducible exact Has.here | with_reducible refine Has.there ?_)); done) | (repeat (first | exact Has.here | refine Has.there ?_))) rfl rfl ?_
      refine WL.loadR Try.isAgg3 rfl M (by first | ((repeat (first | with_reducible exact Has.here | with_reducible refine Has.there ?_)); done) | (repeat (first | exact Has.here | refine Has.there ?_))) rfl rfl ?_
      exact Chain.end_ rfl
    refine DG.step 8 7 rfl (by kernel_rfl) ?_
    refine WL.call Try.call56 rfl (Uint_ok _ _ _ _ _ (by first | first | with_reducible assumption | with_reducible exact RdB.mem (by with_reducible assumption) M | exact M.rdB (by first | ((repeat (first | with_reducible exact Has.here | with_reducible refine Has.there ?_)); done) | (repeat (first | exact Has.here | refine Has.there ?_))) | exact RdH.at (by assumption) (M.sel (by first | ((repeat (first | with_reducible exact Sel.refl | with_reducible exact Sel.nil | with_reducible exact Del.here | with_reducible apply Del.there | with_reducible apply Sel.cons | with_reducible apply Sel.drop)); done) | (repeat (first | exact Sel.refl | exact Sel.nil | exact Del.here | apply Del.there | apply Sel.cons | apply Sel.drop)))) | exact M.rdLit' (by first | ((repeat (first | with_reducible exact Has.here | with_reducible refine Has.there ?_)); done) | (repeat (first | exact Has.here | refine Has.there ?_))) | exact M.rdLent (by first | ((repeat (first | with_reducible exact Has.here | with_reducible refine Has.there ?_)); done) | (repeat (first | exact Has.here | refine Has.there ?_))) | exact RdB.nil _ _ | exact RdB.sub (by first | with_reducible assumption | with_reducible exact RdB.mem (by with_reducible assumption) M | exact M.rdB (by first | ((repeat (first | with_reducible exact Has.here | with_reducible refine Has.there ?_)); done) | (repeat (first | exact Has.here | refine Has.there ?_))) | exact RdH.at (by assumption) (M.sel (by first | ((repeat (first | with_reducible exact Sel.refl | with_reducible exact Sel.nil | with_reducible exact Del.here | with_reducible apply Del.there | with_reducible apply Sel.cons | with_reducible apply Sel.drop)); done) | (repeat (first | exact Sel.refl | exact Sel.nil | exact Del.here | apply Del.there | apply Sel.cons | apply Sel.drop)))) | exact M.rdLit' (by first | ((repeat (first | with_reducible exact Has.here | with_reducible refine Has.there ?_)); done) | (repeat (first | exact Has.here | refine Has.there ?_))) | exact M.rdLent (by first | ((repeat (first | with_reducible exact Has.here | with_reducible refine Has.there ?_)); done) | (repeat (first | exact Has.here | refine Has.there ?_))) | exact RdB.nil _ _) (by omega) (by omega) | exact RdB.pre' (by first | with_reducible assumption | with_reducible exact RdB.mem (by with_reducible assumption) M | exact M.rdB (by first | ((repeat (first | with_reducible exact Has.here | with_reducible refine Has.there ?_)); done) | (repeat (first | exact Has.here | refine Has.there ?_))) | exact RdH.at (by assumption) (M.sel (by first | ((repeat (first | with_reducible exact Sel.refl | with_reducible exact Sel.nil | with_reducible exact Del.here | with_reducible apply Del.there | with_reducible apply Sel.cons | with_reducible apply Sel.drop)); done) | (repeat (first | exact Sel.refl | exact Sel.nil | exact Del.here | apply Del.there | apply Sel.cons | apply Sel.drop)))) | exact M.rdLit' (by first | ((repeat (first | with_reducible exact Has.here | with_reducible refine Has.there ?_)); done) | (repeat (first | exact Has.here | refine Has.there ?_))) | exact M.rdLent (by first | ((repeat (first | with_reducible exact Has.here | with_reducible refine Has.there ?_)); done) | (repeat (first | exact Has.here | refine Has.there ?_))) | exact RdB.nil _ _) (by omega) | exact RdB.suf (by first | with_reducible assumption | with_reducible exact RdB.mem (by with_reducible assumption) M | exact M.rdB (by first | ((repeat (first | with_reducible exact Has.here | with_reducible refine Has.there ?_)); done) | (repeat (first | exact Has.here | refine Has.there ?_))) | exact RdH.at (by assumption) (M.sel (by first | ((repeat (first | with_reducible exact Sel.refl | with_reducible exact Sel.nil | with_reducible exact Del.here | with_reducible apply Del.there | with_reducible apply Sel.cons | with_reducible apply Sel.drop)); done) | (repeat (first | exact Sel.refl | exact Sel.nil | exact Del.here | apply Del.there | apply Sel.cons | apply Sel.drop)))) | exact M.rdLit' (by first | ((repeat (first | with_reducible exact Has.here | with_reducible refine Has.there ?_)); done) | (repeat (first | exact Has.here | refine Has.there ?_))) | exact M.rdLent (by first | ((repeat (first | with_reducible exact Has.here | with_reducible refine Has.there ?_)); done) | (repeat (first | exact Has.here | refine Has.there ?_))) | exact RdB.nil _ _) (by omega)) (by omega) (by omega)) rfl ?_
    rintro _ _ ⟨rfl, rfl⟩
    refine DG.go (G := fun j => [3, 7].contains j) (i := 8) (f' := 7) (done := [0, 1, 2, 4, 5, 6, 3, 7]) (fun h => by cases h) ?_
    apply DG.pure_ [9, 10, 11, 12, 13, 14, 15] 0 rfl (by kernel_rfl) (by kernel_rfl)
    · intro w
      refine WL.move rfl rfl ?_
      refine WL.extractL rfl rfl rfl ?_
      refine WL.extractL rfl rfl rfl ?_
      refine WL.extractL rfl rfl rfl ?_
      refine WL.assign rfl rfl ?_
      refine WL.assign rfl rfl ?_
      refine WL.assign rfl rfl ?_
      exact Chain.end_ rfl
    refine DG.end_ (by kernel_rfl) ?_
    refine WX.next ?_
    refine W.sub [(0, _), (3, _), (4, _), (5, _)] (.cons rfl (.cons rfl (.cons rfl (.cons rfl .nil)))) ?_
    refine W.seq ?_
    refine W.seq ?_
    refine W.region ?_
    refine WL.move rfl rfl ?_
    refine WL.neI rfl rfl rfl ?_
    refine WL.nil ?_
    refine WX.next ?_
    refine W.sub [(0, _), (3, _), (4, _), (5, _), (29, _)] (.cons rfl (.cons rfl (.cons rfl (.cons rfl (.cons rfl .nil))))) ?_
    refine W.ite rfl (fun c2 => ?_) (fun c2 => ?_)
    · refine W.seq ?_
      refine W.region ?_
      refine WL.move rfl rfl ?_
      refine WL.move rfl rfl ?_
      refine WL.nilCheck rfl rfl ?_
      refine WL.fieldR (off := 2) Try.underlying113 rfl rfl Try.sizeOf26 rfl rfl rfl ?_
      refine WL.storeR Try.sizeOf26 rfl rfl rfl M (by first | ((repeat (first | with_reducible exact Has.here | with_reducible refine Has.there ?_)); done) | (repeat (first | exact Has.here | refine Has.there ?_))) (by repeat (first | exact SetAt.zero | apply SetAt.succ)) (by first | ((repeat (first | with_reducible exact Upd.here | with_reducible apply Upd.there)); done) | (repeat (first | exact Upd.here | apply Upd.there))) ?_
      intro w M
      refine WL.nil ?_
      refine WX.next ?_
      refine W.sub [] .nil ?_
      refine W.seq ?_
      refine W.region ?_
      refine WL.assign rfl rfl ?_
      refine WL.nil ?_
      refine WX.next ?_
      refine W.sub [(2, _)] (.cons rfl .nil) ?_
      refine W.ret ?_
      refine WX.thenRet ?_
      refine WX.ret1 rfl rfl ?_
      exact ⟨by unfold uintV; rw [if_neg (fun h => c2 h.2)]; rfl, by unfold uintS; rw [if_neg (by omega), if_pos c2]; exact M⟩
    · refine W.skip ?_
      refine WX.next ?_
      refine W.seq ?_
      refine W.region ?_
      refine WL.move rfl rfl ?_
      refine WL.move rfl rfl ?_
      refine WL.nilCheck rfl rfl ?_
      refine WL.fieldR (off := 1) Try.underlying113 rfl rfl Try.sizeOf3 rfl rfl rfl ?_
      refine WL.storeR Try.sizeOf3 rfl rfl rfl M (by first | ((repeat (first | with_reducible exact Has.here | with_reducible refine Has.there ?_)); done) | (repeat (first | exact Has.here | refine Has.there ?_))) (by repeat (first | exact SetAt.zero | apply SetAt.succ)) (by first | ((repeat (first | with_reducible exact Upd.here | with_reducible apply Upd.there)); done) | (repeat (first | exact Upd.here | apply Upd.there))) ?_
      intro w M
      refine WL.nil ?_
      refine WX.next ?_
      refine W.sub [(3, _)] (.cons rfl .nil) ?_
      refine W.seq ?_
      refine W.region ?_
      refine WL.move rfl rfl ?_
      refine WL.assign rfl rfl ?_
      refine WL.nil ?_
      refine WX.next ?_
      refine W.sub [(2, _)] (.cons rfl .nil) ?_
      refine W.ret ?_
      refine WX.ret1 rfl rfl ?_
      exact ⟨by unfold uintV; rw [if_pos ⟨h0, by omega⟩], by unfold uintS; rw [if_neg (by omega), if_neg (by omega)]; exact M⟩
theorem rdBytes_ok (most : Int) (hmo : -9223372036854775808 ≤ most ∧ most ≤ 9223372036854775807) (M : Mem w0 w L) (hd : Del (Asr.row g 113 [.slice A r.b.length cap, .int .i64 r.at_, .int .i64 r.err]) L L') (hb : RdH w0 L' A cap r.b) :
    Fn Try.prog 41 [.pointer (some ⟨g, 0, none⟩), .int .i64 most] w fun v w' => ∃ A' cap', v = .slice A' (textV r most).length cap' ∧
      Mem w0 w' (Asr.own 5 1 A' (textV r most).length cap' (bs (textV r most)) :: Asr.row g 113 [.slice A r.b.length cap, .int .i64 (textS r most).at_, .int .i64 (textS r most).err] :: L') := by
  replace M := M.del hd
  have hlo := hr.lo
  have hhi := hr.hi
  have hln := hr.len
  refine Fn.enter Try.func41 rfl Try.ntmps41 rfl ?_
  refine W.sub [(0, _), (1, _)] (.cons rfl (.cons rfl .nil)) ?_
  refine W.seq ?_
  refine W.region ?_
  refine WL.assign rfl rfl ?_
  refine WL.nil ?_
  refine WX.next ?_
  refine W.sub [(0, _), (1, _)] (.cons rfl (.cons rfl .nil)) ?_
  refine W.seq ?_
  refine W.seq ?_
  refine W.region ?_
  refine WL.move rfl rfl ?_
  refine WL.eqNilF Try.underlying96 rfl rfl rfl ?_
  refine WL.move rfl rfl ?_
  refine WL.on rfl rfl ?_
  refine WL.move rfl rfl ?_
  refine WL.on rfl rfl ?_
  refine WL.nilCheck rfl rfl ?_
  refine WL.on rfl rfl ?_
  refine WL.fieldR (off := 2) Try.underlying113 rfl rfl Try.sizeOf26 rfl rfl rfl ?_
  refine WL.on rfl rfl ?_
  refine WL.loadR Try.isAgg26 rfl M (by first | ((repeat (first | with_reducible exact Has.here | with_reducible refine Has.there ?_)); done) | (repeat (first | exact Has.here | refine Has.there ?_))) rfl rfl ?_
  refine WL.on rfl rfl ?_
  refine WL.neI rfl rfl rfl ?_
  refine WL.pickF rfl rfl rfl ?_
  refine WL.nil ?_
  refine WX.next ?_
  refine W.sub [(0, _), (1, _), (16, _)] (.cons rfl (.cons rfl (.cons rfl .nil))) ?_
  refine W.ite rfl (fun c1 => ?_) (fun c1 => ?_)
  · refine W.seq ?_
    refine W.region ?_
    refine WL.assign rfl rfl ?_
    refine WL.nil ?_
    refine WX.next ?_
    refine W.sub [(4, _)] (.cons rfl .nil) ?_
    refine W.ret ?_
    refine WX.thenRet ?_
    refine WX.ret1 rfl rfl ?_
    have e : textV r most = [] := by unfold textV; rw [if_neg (fun h => by first | exact c1 h.1 | omega)]
    have e2 : textS r most = r := by unfold textS; rw [if_pos (by first | exact c1 | omega)]
    rw [e, e2]
    exact ⟨none, 0, rfl, M.nilOwn _ _⟩
  · have h0 : r.err = 0 := by first | exact Classical.byContradiction fun h => c1 h | omega
    refine W.skip ?_
    refine WX.next ?_
    refine W.seq ?_
    refine W.drawM (_) (by kernel_rfl) (fun j => [3, 7].contains j) M Sel.refl ?_
    clear M; intro M
    apply DG.pure_ [0, 1, 2, 4, 5, 6, 8] 10 rfl (by kernel_rfl) (by kernel_rfl)
    · intro w
      refine WL.move rfl rfl ?_
      refine WL.nilCheck rfl rfl ?_
      refine WL.fieldR (off := 0) Try.underlying113 rfl rfl Try.sizeOf32 rfl rfl rfl ?_
      refine WL.move rfl rfl ?_
      refine WL.nilCheck rfl rfl ?_
      refine WL.fieldR (off := 1) Try.underlying113 rfl rfl Try.sizeOf3 rfl rfl rfl ?_
      refine WL.move rfl rfl ?_
      exact Chain.end_ rfl
    apply DG.take [3, 7] 8 rfl (by kernel_rfl) (by kernel_rfl) (M.sel (by first | ((repeat (first | with_reducible exact Sel.refl | with_reducible exact Sel.nil | with_reducible exact Del.here | with_reducible apply Del.there | with_reducible apply Sel.cons | with_reducible apply Sel.drop)); done) | (repeat (first | exact Sel.refl | exact Sel.nil | exact Del.here | apply Del.there | apply Sel.cons | apply Sel.drop))))
    · intro w M
      refine WL.loadR Try.isAgg32 rfl M (by first | ((repeat (first | with_reducible exact Has.here | with_reducible refine Has.there ?_)); done) | (repeat (first | exact Has.here | refine Has.there ?_))) rfl rfl ?_
      refine WL.loadR Try.isAgg3 rfl M (by first | ((repeat (first | with_reducible exact Has.here | with_reducible refine Has.there ?_)); done) | (repeat (first | exact Has.here | refine Has.there ?_))) rfl rfl ?_
      exact Chain.end_ rfl
    refine DG.step 9 7 rfl (by kernel_rfl) ?_
    refine WL.call Try.call57 rfl (Bytes_ok _ _ _ _ _ _ (by first | first | with_reducible assumption | with_reducible exact RdB.mem (by with_reducible assumption) M | exact M.rdB (by first | ((repeat (first | with_reducible exact Has.here | with_reducible refine Has.there ?_)); done) | (repeat (first | exact Has.here | refine Has.there ?_))) | exact RdH.at (by assumption) (M.sel (by first | ((repeat (first | with_reducible exact Sel.refl | with_reducible exact Sel.nil | with_reducible exact Del.here | with_reducible apply Del.there | with_reducible apply Sel.cons | with_reducible apply Sel.drop)); done) | (repeat (first | exact Sel.refl | exact Sel.nil | exact Del.here | apply Del.there | apply Sel.cons | apply Sel.drop)))) | exact M.rdLit' (by first | ((repeat (first | with_reducible exact Has.here | with_reducible refine Has.there ?_)); done) | (repeat (first | exact Has.here | refine Has.there ?_))) | exact M.rdLent (by first | ((repeat (first | with_reducible exact Has.here | with_reducible refine Has.there ?_)); done) | (repeat (first | exact Has.here | refine Has.there ?_))) | exact RdB.nil _ _ | exact RdB.sub (by first | with_reducible assumption | with_reducible exact RdB.mem (by with_reducible assumption) M | exact M.rdB (by first | ((repeat (first | with_reducible exact Has.here | with_reducible refine Has.there ?_)); done) | (repeat (first | exact Has.here | refine Has.there ?_))) | exact RdH.at (by assumption) (M.sel (by first | ((repeat (first | with_reducible exact Sel.refl | with_reducible exact Sel.nil | with_reducible exact Del.here | with_reducible apply Del.there | with_reducible apply Sel.cons | with_reducible apply Sel.drop)); done) | (repeat (first | exact Sel.refl | exact Sel.nil | exact Del.here | apply Del.there | apply Sel.cons | apply Sel.drop)))) | exact M.rdLit' (by first | ((repeat (first | with_reducible exact Has.here | with_reducible refine Has.there ?_)); done) | (repeat (first | exact Has.here | refine Has.there ?_))) | exact M.rdLent (by first | ((repeat (first | with_reducible exact Has.here | with_reducible refine Has.there ?_)); done) | (repeat (first | exact Has.here | refine Has.there ?_))) | exact RdB.nil _ _) (by omega) (by omega) | exact RdB.pre' (by first | with_reducible assumption | with_reducible exact RdB.mem (by with_reducible assumption) M | exact M.rdB (by first | ((repeat (first | with_reducible exact Has.here | with_reducible refine Has.there ?_)); done) | (repeat (first | exact Has.here | refine Has.there ?_))) | exact RdH.at (by assumption) (M.sel (by first | ((repeat (first | with_reducible exact Sel.refl | with_reducible exact Sel.nil | with_reducible exact Del.here | with_reducible apply Del.there | with_reducible apply Sel.cons | with_reducible apply Sel.drop)); done) | (repeat (first | exact Sel.refl | exact Sel.nil | exact Del.here | apply Del.there | apply Sel.cons | apply Sel.drop)))) | exact M.rdLit' (by first | ((repeat (first | with_reducible exact Has.here | with_reducible refine Has.there ?_)); done) | (repeat (first | exact Has.here | refine Has.there ?_))) | exact M.rdLent (by first | ((repeat (first | with_reducible exact Has.here | with_reducible refine Has.there ?_)); done) | (repeat (first | exact Has.here | refine Has.there ?_))) | exact RdB.nil _ _) (by omega) | exact RdB.suf (by first | with_reducible assumption | with_reducible exact RdB.mem (by with_reducible assumption) M | exact M.rdB (by first | ((repeat (first | with_reducible exact Has.here | with_reducible refine Has.there ?_)); done) | (repeat (first | exact Has.here | refine Has.there ?_))) | exact RdH.at (by assumption) (M.sel (by first | ((repeat (first | with_reducible exact Sel.refl | with_reducible exact Sel.nil | with_reducible exact Del.here | with_reducible apply Del.there | with_reducible apply Sel.cons | with_reducible apply Sel.drop)); done) | (repeat (first | exact Sel.refl | exact Sel.nil | exact Del.here | apply Del.there | apply Sel.cons | apply Sel.drop)))) | exact M.rdLit' (by first | ((repeat (first | with_reducible exact Has.here | with_reducible refine Has.there ?_)); done) | (repeat (first | exact Has.here | refine Has.there ?_))) | exact M.rdLent (by first | ((repeat (first | with_reducible exact Has.here | with_reducible refine Has.there ?_)); done) | (repeat (first | exact Has.here | refine Has.there ?_))) | exact RdB.nil _ _) (by omega)) (by omega) (by omega) hmo) rfl ?_
    rintro _ w ⟨A', k', rfl, m⟩
    replace M := M.call1 m; clear m
    refine DG.go (G := fun j => [3, 7].contains j) (i := 9) (f' := 7) (done := [0, 1, 2, 4, 5, 6, 8, 3, 7]) (fun h => by cases h) ?_
    apply DG.pure_ [10, 11, 12, 13, 14, 15, 16] 0 rfl (by kernel_rfl) (by kernel_rfl)
    · intro w
      refine WL.move rfl rfl ?_
      refine WL.extractL rfl rfl rfl ?_
      refine WL.extractL rfl rfl rfl ?_
      refine WL.extractL rfl rfl rfl ?_
      refine WL.assign rfl rfl ?_
      refine WL.assign rfl rfl ?_
      refine WL.assign rfl rfl ?_
      exact Chain.end_ rfl
    refine DG.end_ (by kernel_rfl) ?_
    refine WX.next ?_
    refine W.sub [(0, _), (5, _), (6, _), (7, _)] (.cons rfl (.cons rfl (.cons rfl (.cons rfl .nil)))) ?_
    refine W.seq ?_
    refine W.seq ?_
    refine W.region ?_
    refine WL.move rfl rfl ?_
    refine WL.neI rfl rfl rfl ?_
    refine WL.nil ?_
    refine WX.next ?_
    refine W.sub [(0, _), (5, _), (6, _), (7, _), (32, _)] (.cons rfl (.cons rfl (.cons rfl (.cons rfl (.cons rfl .nil))))) ?_
    refine W.ite rfl (fun c2 => ?_) (fun c2 => ?_)
    · refine W.seq ?_
      refine W.region ?_
      refine WL.move rfl rfl ?_
      refine WL.move rfl rfl ?_
      refine WL.nilCheck rfl rfl ?_
      refine WL.fieldR (off := 2) Try.underlying113 rfl rfl Try.sizeOf26 rfl rfl rfl ?_
      refine WL.storeR Try.sizeOf26 rfl rfl rfl M (by first | ((repeat (first | with_reducible exact Has.here | with_reducible refine Has.there ?_)); done) | (repeat (first | exact Has.here | refine Has.there ?_))) (by repeat (first | exact SetAt.zero | apply SetAt.succ)) (by first | ((repeat (first | with_reducible exact Upd.here | with_reducible apply Upd.there)); done) | (repeat (first | exact Upd.here | apply Upd.there))) ?_
      intro w M
      refine WL.nil ?_
      refine WX.next ?_
      refine W.sub [] .nil ?_
      refine W.seq ?_
      refine W.region ?_
      refine WL.assign rfl rfl ?_
      refine WL.nil ?_
      refine WX.next ?_
      refine W.sub [(4, _)] (.cons rfl .nil) ?_
      refine W.ret ?_
      refine WX.thenRet ?_
      refine WX.ret1 rfl rfl ?_
      have e : textV r most = [] := by unfold textV; rw [if_neg (fun h => c2 h.2)]
      rw [e]
      refine ⟨none, 0, rfl, ?_⟩
      unfold textS
      rw [if_neg (by omega), if_pos c2]
      exact Mem.nilOwn (M.sel (by first | ((repeat (first | with_reducible exact Sel.refl | with_reducible exact Sel.nil | with_reducible exact Del.here | with_reducible apply Del.there | with_reducible apply Sel.cons | with_reducible apply Sel.drop)); done) | (repeat (first | exact Sel.refl | exact Sel.nil | exact Del.here | apply Del.there | apply Sel.cons | apply Sel.drop)))) _ _
    · refine W.skip ?_
      refine WX.next ?_
      refine W.seq ?_
      refine W.region ?_
      refine WL.move rfl rfl ?_
      refine WL.move rfl rfl ?_
      refine WL.nilCheck rfl rfl ?_
      refine WL.fieldR (off := 1) Try.underlying113 rfl rfl Try.sizeOf3 rfl rfl rfl ?_
      refine WL.storeR Try.sizeOf3 rfl rfl rfl M (by first | ((repeat (first | with_reducible exact Has.here | with_reducible refine Has.there ?_)); done) | (repeat (first | exact Has.here | refine Has.there ?_))) (by repeat (first | exact SetAt.zero | apply SetAt.succ)) (by first | ((repeat (first | with_reducible exact Upd.here | with_reducible apply Upd.there)); done) | (repeat (first | exact Upd.here | apply Upd.there))) ?_
      intro w M
      refine WL.nil ?_
      refine WX.next ?_
      refine W.sub [(5, _)] (.cons rfl .nil) ?_
      refine W.seq ?_
      refine W.region ?_
      refine WL.move rfl rfl ?_
      refine WL.assign rfl rfl ?_
      refine WL.nil ?_
      refine WX.next ?_
      refine W.sub [(4, _)] (.cons rfl .nil) ?_
      refine W.ret ?_
      refine WX.ret1 rfl rfl ?_
      have e : textV r most = (rdB r.b r.at_ most).1 := by unfold textV; rw [if_pos ⟨h0, by omega⟩]
      rw [e]
      refine ⟨A', k', rfl, ?_⟩
      unfold textS
      rw [if_neg (by omega), if_neg (by omega)]
      exact M.sel (by first | ((repeat (first | with_reducible exact Sel.refl | with_reducible exact Sel.nil | with_reducible exact Del.here | with_reducible apply Del.there | with_reducible apply Sel.cons | with_reducible apply Sel.drop)); done) | (repeat (first | exact Sel.refl | exact Sel.nil | exact Del.here | apply Del.there | apply Sel.cons | apply Sel.drop)))
theorem rdLeft_ok (M : Mem w0 w L) (hd : Del (Asr.row g 113 [.slice A r.b.length cap, .int .i64 r.at_, .int .i64 r.err]) L L') :
    Fn Try.prog 42 [.pointer (some ⟨g, 0, none⟩)] w fun v w' => v = .int .i64 (leftV r) ∧ Mem w0 w' (Asr.row g 113 [.slice A r.b.length cap, .int .i64 r.at_, .int .i64 r.err] :: L') := by
  replace M := M.del hd
  have hlo := hr.lo
  have hhi := hr.hi
  have hln := hr.len
  refine Fn.enter Try.func42 rfl Try.ntmps42 rfl ?_
  refine W.sub [(0, _)] (.cons rfl .nil) ?_
  refine W.seq ?_
  refine W.region ?_
  refine WL.assign rfl rfl ?_
  refine WL.nil ?_
  refine WX.next ?_
  refine W.sub [(0, _)] (.cons rfl .nil) ?_
  refine W.seq ?_
  refine W.seq ?_
  refine W.region ?_
  refine WL.move rfl rfl ?_
  refine WL.eqNilF Try.underlying96 rfl rfl rfl ?_
  refine WL.move rfl rfl ?_
  refine WL.on rfl rfl ?_
  refine WL.move rfl rfl ?_
  refine WL.on rfl rfl ?_
  refine WL.nilCheck rfl rfl ?_
  refine WL.on rfl rfl ?_
  refine WL.fieldR (off := 2) Try.underlying113 rfl rfl Try.sizeOf26 rfl rfl rfl ?_
  refine WL.on rfl rfl ?_
  refine WL.loadR Try.isAgg26 rfl M (by first | ((repeat (first | with_reducible exact Has.here | with_reducible refine Has.there ?_)); done) | (repeat (first | exact Has.here | refine Has.there ?_))) rfl rfl ?_
  refine WL.on rfl rfl ?_
  refine WL.neI rfl rfl rfl ?_
  refine WL.pickF rfl rfl rfl ?_
  refine WL.nil ?_
  refine WX.next ?_
  refine W.sub [(0, _), (11, _)] (.cons rfl (.cons rfl .nil)) ?_
  refine W.ite rfl (fun c1 => ?_) (fun c1 => ?_)
  · refine W.seq ?_
    refine W.region ?_
    refine WL.assign rfl rfl ?_
    refine WL.nil ?_
    refine WX.next ?_
    refine W.sub [(2, _)] (.cons rfl .nil) ?_
    refine W.ret ?_
    refine WX.thenRet ?_
    refine WX.ret1 rfl rfl ?_
    exact ⟨by unfold leftV; rw [if_pos (by first | exact c1 | omega)], M⟩
  · refine W.skip ?_
    refine WX.next ?_
    refine W.seq ?_
    refine W.drawM (_) (by kernel_rfl) (fun j => [3, 4, 8].contains j) M Sel.refl ?_
    clear M; intro M
    apply DG.pure_ [0, 1, 2, 5, 6, 7] 5 rfl (by kernel_rfl) (by kernel_rfl)
    · intro w
      refine WL.move rfl rfl ?_
      refine WL.nilCheck rfl rfl ?_
      refine WL.fieldR (off := 0) Try.underlying113 rfl rfl Try.sizeOf32 rfl rfl rfl ?_
      refine WL.move rfl rfl ?_
      refine WL.nilCheck rfl rfl ?_
      refine WL.fieldR (off := 1) Try.underlying113 rfl rfl Try.sizeOf3 rfl rfl rfl ?_
      exact Chain.end_ rfl
    apply DG.take [3, 4, 8, 9, 10] 0 rfl (by kernel_rfl) (by kernel_rfl) (M.sel (by first | ((repeat (first | with_reducible exact Sel.refl | with_reducible exact Sel.nil | with_reducible exact Del.here | with_reducible apply Del.there | with_reducible apply Sel.cons | with_reducible apply Sel.drop)); done) | (repeat (first | exact Sel.refl | exact Sel.nil | exact Del.here | apply Del.there | apply Sel.cons | apply Sel.drop))))
    · intro w M
      refine WL.loadR Try.isAgg32 rfl M (by first | ((repeat (first | with_reducible exact Has.here | with_reducible refine Has.there ?_)); done) | (repeat (first | exact Has.here | refine Has.there ?_))) rfl rfl ?_
      refine WL.len Try.underlying32 rfl rfl ?_
      refine WL.loadR Try.isAgg3 rfl M (by first | ((repeat (first | with_reducible exact Has.here | with_reducible refine Has.there ?_)); done) | (repeat (first | exact Has.here | refine Has.there ?_))) rfl rfl ?_
      refine WL.sub' rfl rfl (by first | exact wI64 (by omega) | rfl) rfl ?_
      refine WL.assign rfl rfl ?_
      exact Chain.end_ rfl
    refine DG.end_ (by kernel_rfl) ?_
    refine WX.next ?_
    refine W.sub [(2, _)] (.cons rfl .nil) ?_
    refine W.ret ?_
    refine WX.ret1 rfl rfl ?_
    exact ⟨by unfold leftV; rw [if_neg (by omega)], M⟩
theorem refRdUint_ok (M : Mem w0 w L) (hd : Del (Asr.row g 104 [.slice A r.b.length cap, .int .i64 r.at_, .int .i64 r.err]) L L') (hb : RdH w0 L' A cap r.b) :
    Fn Try.prog 48 [.pointer (some ⟨g, 0, none⟩)] w fun v w' => v = .int .u64 (uintV r : Int) ∧
      Mem w0 w' (Asr.row g 104 [.slice A r.b.length cap, .int .i64 (uintS r).at_, .int .i64 (uintS r).err] :: L') := by
  replace M := M.del hd
  have hlo := hr.lo
  have hhi := hr.hi
  have hln := hr.len
  refine Fn.enter Try.func48 rfl Try.ntmps48 rfl ?_
  refine W.sub [(0, _)] (.cons rfl .nil) ?_
  refine W.seq ?_
  refine W.region ?_
  refine WL.assign rfl rfl ?_
  refine WL.nil ?_
  refine WX.next ?_
  refine W.sub [(0, _)] (.cons rfl .nil) ?_
  refine W.seq ?_
  refine W.seq ?_
  refine W.region ?_
  refine WL.move rfl rfl ?_
  refine WL.nilCheck rfl rfl ?_
  refine WL.fieldR (off := 2) Try.underlying104 rfl rfl Try.sizeOf3 rfl rfl rfl ?_
  refine WL.loadR Try.isAgg3 rfl M (by first | ((repeat (first | with_reducible exact Has.here | with_reducible refine Has.there ?_)); done) | (repeat (first | exact Has.here | refine Has.there ?_))) rfl rfl ?_
  refine WL.neI rfl rfl rfl ?_
  refine WL.nil ?_
  refine WX.next ?_
  refine W.sub [(0, _), (10, _)] (.cons rfl (.cons rfl .nil)) ?_
  refine W.ite rfl (fun c0 => ?_) (fun c0 => ?_)
  · refine W.seq ?_
    refine W.region ?_
    refine WL.assign rfl rfl ?_
    refine WL.nil ?_
    refine WX.next ?_
    refine W.sub [(2, _)] (.cons rfl .nil) ?_
    refine W.ret ?_
    refine WX.thenRet ?_
    refine WX.ret1 rfl rfl ?_
    exact ⟨by unfold uintV; rw [if_neg (fun h => by first | exact c0 h.1 | omega)]; rfl, by unfold uintS; rw [if_pos (by first | exact c0 | omega)]; exact M⟩
  · have h0 : r.err = 0 := by first | exact Classical.byContradiction fun h => c0 h | omega
    refine W.skip ?_
    refine WX.next ?_
    refine W.seq ?_
    refine W.drawM (_) (by kernel_rfl) (fun j => [3, 7].contains j) M Sel.refl ?_
    clear M; intro M
    apply DG.pure_ [0, 1, 2, 4, 5, 6] 10 rfl (by kernel_rfl) (by kernel_rfl)
    · intro w
      refine WL.move rfl rfl ?_
      refine WL.nilCheck rfl rfl ?_
      refine WL.fieldR (off := 0) Try.underlying104 rfl rfl Try.sizeOf32 rfl rfl rfl ?_
      refine WL.move rfl rfl ?_
      refine WL.nilCheck rfl rfl ?_
      refine WL.fieldR (off := 1) Try.underlying104 rfl rfl Try.sizeOf3 rfl rfl rfl ?_
      exact Chain.end_ rfl
    apply DG.take [3, 7] 8 rfl (by kernel_rfl) (by kernel_rfl) (M.sel (by first | ((repeat (first | with_reducible exact Sel.refl | with_reducible exact Sel.nil | with_reducible exact Del.here | with_reducible apply Del.there | with_reducible apply Sel.cons | with_reducible apply Sel.drop)); done) | (repeat (first | exact Sel.refl | exact Sel.nil | exact Del.here | apply Del.there | apply Sel.cons | apply Sel.drop))))
    · intro w M
      refine WL.loadR Try.isAgg32 rfl M (by first | ((repeat (first | with_reducible exact Has.here | with_reducible refine Has.there ?_)); done) | (repeat (first | exact Has.here | refine Has.there ?_))) rfl rfl ?_
      refine WL.loadR Try.isAgg3 rfl M (by first | ((repeat (first | with_reducible exact Has.here | with_reducible refine Has.there ?_)); done) | (repeat (first | exact Has.here | refine Has.there ?_))) rfl rfl ?_
      exact Chain.end_ rfl
    refine DG.step 8 7 rfl (by kernel_rfl) ?_
    refine WL.call Try.call58 rfl (refUint_ok _ _ _ _ _ (by first | first | with_reducible assumption | with_reducible exact RdB.mem (by with_reducible assumption) M | exact M.rdB (by first | ((repeat (first | with_reducible exact Has.here | with_reducible refine Has.there ?_)); done) | (repeat (first | exact Has.here | refine Has.there ?_))) | exact RdH.at (by assumption) (M.sel (by first | ((repeat (first | with_reducible exact Sel.refl | with_reducible exact Sel.nil | with_reducible exact Del.here | with_reducible apply Del.there | with_reducible apply Sel.cons | with_reducible apply Sel.drop)); done) | (repeat (first | exact Sel.refl | exact Sel.nil | exact Del.here | apply Del.there | apply Sel.cons | apply Sel.drop)))) | exact M.rdLit' (by first | ((repeat (first | with_reducible exact Has.here | with_reducible refine Has.there ?_)); done) | (repeat (first | exact Has.here | refine Has.there ?_))) | exact M.rdLent (by first | ((repeat (first | with_reducible exact Has.here | with_reducible refine Has.there ?_)); done) | (repeat (first | exact Has.here | refine Has.there ?_))) | exact RdB.nil _ _ | exact RdB.sub (by first | with_reducible assumption | with_reducible exact RdB.mem (by with_reducible assumption) M | exact M.rdB (by first | ((repeat (first | with_reducible exact Has.here | with_reducible refine Has.there ?_)); done) | (repeat (first | exact Has.here | refine Has.there ?_))) | exact RdH.at (by assumption) (M.sel (by first | ((repeat (first | with_reducible exact Sel.refl | with_reducible exact Sel.nil | with_reducible exact Del.here | with_reducible apply Del.there | with_reducible apply Sel.cons | with_reducible apply Sel.drop)); done) | (repeat (first | exact Sel.refl | exact Sel.nil | exact Del.here | apply Del.there | apply Sel.cons | apply Sel.drop)))) | exact M.rdLit' (by first | ((repeat (first | with_reducible exact Has.here | with_reducible refine Has.there ?_)); done) | (repeat (first | exact Has.here | refine Has.there ?_))) | exact M.rdLent (by first | ((repeat (first | with_reducible exact Has.here | with_reducible refine Has.there ?_)); done) | (repeat (first | exact Has.here | refine Has.there ?_))) | exact RdB.nil _ _) (by omega) (by omega) | exact RdB.pre' (by first | with_reducible assumption | with_reducible exact RdB.mem (by with_reducible assumption) M | exact M.rdB (by first | ((repeat (first | with_reducible exact Has.here | with_reducible refine Has.there ?_)); done) | (repeat (first | exact Has.here | refine Has.there ?_))) | exact RdH.at (by assumption) (M.sel (by first | ((repeat (first | with_reducible exact Sel.refl | with_reducible exact Sel.nil | with_reducible exact Del.here | with_reducible apply Del.there | with_reducible apply Sel.cons | with_reducible apply Sel.drop)); done) | (repeat (first | exact Sel.refl | exact Sel.nil | exact Del.here | apply Del.there | apply Sel.cons | apply Sel.drop)))) | exact M.rdLit' (by first | ((repeat (first | with_reducible exact Has.here | with_reducible refine Has.there ?_)); done) | (repeat (first | exact Has.here | refine Has.there ?_))) | exact M.rdLent (by first | ((repeat (first | with_reducible exact Has.here | with_reducible refine Has.there ?_)); done) | (repeat (first | exact Has.here | refine Has.there ?_))) | exact RdB.nil _ _) (by omega) | exact RdB.suf (by first | with_reducible assumption | with_reducible exact RdB.mem (by with_reducible assumption) M | exact M.rdB (by first | ((repeat (first | with_reducible exact Has.here | with_reducible refine Has.there ?_)); done) | (repeat (first | exact Has.here | refine Has.there ?_))) | exact RdH.at (by assumption) (M.sel (by first | ((repeat (first | with_reducible exact Sel.refl | with_reducible exact Sel.nil | with_reducible exact Del.here | with_reducible apply Del.there | with_reducible apply Sel.cons | with_reducible apply Sel.drop)); done) | (repeat (first | exact Sel.refl | exact Sel.nil | exact Del.here | apply Del.there | apply Sel.cons | apply Sel.drop)))) | exact M.rdLit' (by first | ((repeat (first | with_reducible exact Has.here | with_reducible refine Has.there ?_)); done) | (repeat (first | exact Has.here | refine Has.there ?_))) | exact M.rdLent (by first | ((repeat (first | with_reducible exact Has.here | with_reducible refine Has.there ?_)); done) | (repeat (first | exact Has.here | refine Has.there ?_))) | exact RdB.nil _ _) (by omega)) (by omega) (by omega)) rfl ?_
    rintro _ _ ⟨rfl, rfl⟩
    refine DG.go (G := fun j => [3, 7].contains j) (i := 8) (f' := 7) (done := [0, 1, 2, 4, 5, 6, 3, 7]) (fun h => by cases h) ?_
    apply DG.pure_ [9, 10, 11, 12, 13, 14, 15] 0 rfl (by kernel_rfl) (by kernel_rfl)
    · intro w
      refine WL.move rfl rfl ?_
      refine WL.extractL rfl rfl rfl ?_
      refine WL.extractL rfl rfl rfl ?_
      refine WL.extractL rfl rfl rfl ?_
      refine WL.assign rfl rfl ?_
      refine WL.assign rfl rfl ?_
      refine WL.assign rfl rfl ?_
      exact Chain.end_ rfl
    refine DG.end_ (by kernel_rfl) ?_
    refine WX.next ?_
    refine W.sub [(0, _), (3, _), (4, _), (5, _)] (.cons rfl (.cons rfl (.cons rfl (.cons rfl .nil)))) ?_
    refine W.seq ?_
    refine W.seq ?_
    refine W.region ?_
    refine WL.move rfl rfl ?_
    refine WL.neI rfl rfl rfl ?_
    refine WL.nil ?_
    refine WX.next ?_
    refine W.sub [(0, _), (3, _), (4, _), (5, _), (25, _)] (.cons rfl (.cons rfl (.cons rfl (.cons rfl (.cons rfl .nil))))) ?_
    refine W.ite rfl (fun c1 => ?_) (fun c1 => ?_)
    · refine W.seq ?_
      refine W.region ?_
      refine WL.move rfl rfl ?_
      refine WL.move rfl rfl ?_
      refine WL.nilCheck rfl rfl ?_
      refine WL.fieldR (off := 2) Try.underlying104 rfl rfl Try.sizeOf3 rfl rfl rfl ?_
      refine WL.storeR Try.sizeOf3 rfl rfl rfl M (by first | ((repeat (first | with_reducible exact Has.here | with_reducible refine Has.there ?_)); done) | (repeat (first | exact Has.here | refine Has.there ?_))) (by repeat (first | exact SetAt.zero | apply SetAt.succ)) (by first | ((repeat (first | with_reducible exact Upd.here | with_reducible apply Upd.there)); done) | (repeat (first | exact Upd.here | apply Upd.there))) ?_
      intro w M
      refine WL.nil ?_
      refine WX.next ?_
      refine W.sub [] .nil ?_
      refine W.seq ?_
      refine W.region ?_
      refine WL.assign rfl rfl ?_
      refine WL.nil ?_
      refine WX.next ?_
      refine W.sub [(2, _)] (.cons rfl .nil) ?_
      refine W.ret ?_
      refine WX.thenRet ?_
      refine WX.ret1 rfl rfl ?_
      exact ⟨by unfold uintV; rw [if_neg (fun h => c1 h.2)]; rfl, by unfold uintS; rw [if_neg (by omega), if_pos c1]; exact M⟩
    · refine W.skip ?_
      refine WX.next ?_
      refine W.seq ?_
      refine W.region ?_
      refine WL.move rfl rfl ?_
      refine WL.move rfl rfl ?_
      refine WL.nilCheck rfl rfl ?_
      refine WL.fieldR (off := 1) Try.underlying104 rfl rfl Try.sizeOf3 rfl rfl rfl ?_
      refine WL.storeR Try.sizeOf3 rfl rfl rfl M (by first | ((repeat (first | with_reducible exact Has.here | with_reducible refine Has.there ?_)); done) | (repeat (first | exact Has.here | refine Has.there ?_))) (by repeat (first | exact SetAt.zero | apply SetAt.succ)) (by first | ((repeat (first | with_reducible exact Upd.here | with_reducible apply Upd.there)); done) | (repeat (first | exact Upd.here | apply Upd.there))) ?_
      intro w M
      refine WL.nil ?_
      refine WX.next ?_
      refine W.sub [(3, _)] (.cons rfl .nil) ?_
      refine W.seq ?_
      refine W.region ?_
      refine WL.move rfl rfl ?_
      refine WL.assign rfl rfl ?_
      refine WL.nil ?_
      refine WX.next ?_
      refine W.sub [(2, _)] (.cons rfl .nil) ?_
      refine W.ret ?_
      refine WX.ret1 rfl rfl ?_
      exact ⟨by unfold uintV; rw [if_pos ⟨h0, by omega⟩], by unfold uintS; rw [if_neg (by omega), if_neg (by omega)]; exact M⟩
theorem refRdBytes_ok (most : Int) (hmo : -9223372036854775808 ≤ most ∧ most ≤ 9223372036854775807) (M : Mem w0 w L) (hd : Del (Asr.row g 104 [.slice A r.b.length cap, .int .i64 r.at_, .int .i64 r.err]) L L') (hb : RdH w0 L' A cap r.b) :
    Fn Try.prog 49 [.pointer (some ⟨g, 0, none⟩), .int .i64 most] w fun v w' => ∃ A' cap', v = .slice A' (textV r most).length cap' ∧
      Mem w0 w' (Asr.own 5 1 A' (textV r most).length cap' (bs (textV r most)) :: Asr.row g 104 [.slice A r.b.length cap, .int .i64 (textS r most).at_, .int .i64 (textS r most).err] :: L') := by
  replace M := M.del hd
  have hlo := hr.lo
  have hhi := hr.hi
  have hln := hr.len
  refine Fn.enter Try.func49 rfl Try.ntmps49 rfl ?_
  refine W.sub [(0, _), (1, _)] (.cons rfl (.cons rfl .nil)) ?_
  refine W.seq ?_
  refine W.region ?_
  refine WL.assign rfl rfl ?_
  refine WL.nil ?_
  refine WX.next ?_
  refine W.sub [(0, _), (1, _)] (.cons rfl (.cons rfl .nil)) ?_
  refine W.seq ?_
  refine W.seq ?_
  refine W.region ?_
  refine WL.move rfl rfl ?_
  refine WL.nilCheck rfl rfl ?_
  refine WL.fieldR (off := 2) Try.underlying104 rfl rfl Try.sizeOf3 rfl rfl rfl ?_
  refine WL.loadR Try.isAgg3 rfl M (by first | ((repeat (first | with_reducible exact Has.here | with_reducible refine Has.there ?_)); done) | (repeat (first | exact Has.here | refine Has.there ?_))) rfl rfl ?_
  refine WL.neI rfl rfl rfl ?_
  refine WL.nil ?_
  refine WX.next ?_
  refine W.sub [(0, _), (1, _), (12, _)] (.cons rfl (.cons rfl (.cons rfl .nil))) ?_
  refine W.ite rfl (fun c0 => ?_) (fun c0 => ?_)
  · refine W.seq ?_
    refine W.region ?_
    refine WL.assign rfl rfl ?_
    refine WL.nil ?_
    refine WX.next ?_
    refine W.sub [(4, _)] (.cons rfl .nil) ?_
    refine W.ret ?_
    refine WX.thenRet ?_
    refine WX.ret1 rfl rfl ?_
    have e : textV r most = [] := by unfold textV; rw [if_neg (fun h => by first | exact c0 h.1 | omega)]
    have e2 : textS r most = r := by unfold textS; rw [if_pos (by first | exact c0 | omega)]
    rw [e, e2]
    exact ⟨none, 0, rfl, M.nilOwn _ _⟩
  · have h0 : r.err = 0 := by first | exact Classical.byContradiction fun h => c0 h | omega
    refine W.skip ?_
    refine WX.next ?_
    refine W.seq ?_
    refine W.drawM (_) (by kernel_rfl) (fun j => [3, 7].contains j) M Sel.refl ?_
    clear M; intro M
    apply DG.pure_ [0, 1, 2, 4, 5, 6, 8] 10 rfl (by kernel_rfl) (by kernel_rfl)
    · intro w
      refine WL.move rfl rfl ?_
      refine WL.nilCheck rfl rfl ?_
      refine WL.fieldR (off := 0) Try.underlying104 rfl rfl Try.sizeOf32 rfl rfl rfl ?_
      refine WL.move rfl rfl ?_
      refine WL.nilCheck rfl rfl ?_
      refine WL.fieldR (off := 1) Try.underlying104 rfl rfl Try.sizeOf3 rfl rfl rfl ?_
      refine WL.move rfl rfl ?_
      exact Chain.end_ rfl
    apply DG.take [3, 7] 8 rfl (by kernel_rfl) (by kernel_rfl) (M.sel (by first | ((repeat (first | with_reducible exact Sel.refl | with_reducible exact Sel.nil | with_reducible exact Del.here | with_reducible apply Del.there | with_reducible apply Sel.cons | with_reducible apply Sel.drop)); done) | (repeat (first | exact Sel.refl | exact Sel.nil | exact Del.here | apply Del.there | apply Sel.cons | apply Sel.drop))))
    · intro w M
      refine WL.loadR Try.isAgg32 rfl M (by first | ((repeat (first | with_reducible exact Has.here | with_reducible refine Has.there ?_)); done) | (repeat (first | exact Has.here | refine Has.there ?_))) rfl rfl ?_
      refine WL.loadR Try.isAgg3 rfl M (by first | ((repeat (first | with_reducible exact Has.here | with_reducible refine Has.there ?_)); done) | (repeat (first | exact Has.here | refine Has.there ?_))) rfl rfl ?_
      exact Chain.end_ rfl
    refine DG.step 9 7 rfl (by kernel_rfl) ?_
    refine WL.call Try.call59 rfl (refBytes_ok _ _ _ _ _ _ (by first | first | with_reducible assumption | with_reducible exact RdB.mem (by with_reducible assumption) M | exact M.rdB (by first | ((repeat (first | with_reducible exact Has.here | with_reducible refine Has.there ?_)); done) | (repeat (first | exact Has.here | refine Has.there ?_))) | exact RdH.at (by assumption) (M.sel (by first | ((repeat (first | with_reducible exact Sel.refl | with_reducible exact Sel.nil | with_reducible exact Del.here | with_reducible apply Del.there | with_reducible apply Sel.cons | with_reducible apply Sel.drop)); done) | (repeat (first | exact Sel.refl | exact Sel.nil | exact Del.here | apply Del.there | apply Sel.cons | apply Sel.drop)))) | exact M.rdLit' (by first | ((repeat (first | with_reducible exact Has.here | with_reducible refine Has.there ?_)); done) | (repeat (first | exact Has.here | refine Has.there ?_))) | exact M.rdLent (by first | ((repeat (first | with_reducible exact Has.here | with_reducible refine Has.there ?_)); done) | (repeat (first | exact Has.here | refine Has.there ?_))) | exact RdB.nil _ _ | exact RdB.sub (by first | with_reducible assumption | with_reducible exact RdB.mem (by with_reducible assumption) M | exact M.rdB (by first | ((repeat (first | with_reducible exact Has.here | with_reducible refine Has.there ?_)); done) | (repeat (first | exact Has.here | refine Has.there ?_))) | exact RdH.at (by assumption) (M.sel (by first | ((repeat (first | with_reducible exact Sel.refl | with_reducible exact Sel.nil | with_reducible exact Del.here | with_reducible apply Del.there | with_reducible apply Sel.cons | with_reducible apply Sel.drop)); done) | (repeat (first | exact Sel.refl | exact Sel.nil | exact Del.here | apply Del.there | apply Sel.cons | apply Sel.drop)))) | exact M.rdLit' (by first | ((repeat (first | with_reducible exact Has.here | with_reducible refine Has.there ?_)); done) | (repeat (first | exact Has.here | refine Has.there ?_))) | exact M.rdLent (by first | ((repeat (first | with_reducible exact Has.here | with_reducible refine Has.there ?_)); done) | (repeat (first | exact Has.here | refine Has.there ?_))) | exact RdB.nil _ _) (by omega) (by omega) | exact RdB.pre' (by first | with_reducible assumption | with_reducible exact RdB.mem (by with_reducible assumption) M | exact M.rdB (by first | ((repeat (first | with_reducible exact Has.here | with_reducible refine Has.there ?_)); done) | (repeat (first | exact Has.here | refine Has.there ?_))) | exact RdH.at (by assumption) (M.sel (by first | ((repeat (first | with_reducible exact Sel.refl | with_reducible exact Sel.nil | with_reducible exact Del.here | with_reducible apply Del.there | with_reducible apply Sel.cons | with_reducible apply Sel.drop)); done) | (repeat (first | exact Sel.refl | exact Sel.nil | exact Del.here | apply Del.there | apply Sel.cons | apply Sel.drop)))) | exact M.rdLit' (by first | ((repeat (first | with_reducible exact Has.here | with_reducible refine Has.there ?_)); done) | (repeat (first | exact Has.here | refine Has.there ?_))) | exact M.rdLent (by first | ((repeat (first | with_reducible exact Has.here | with_reducible refine Has.there ?_)); done) | (repeat (first | exact Has.here | refine Has.there ?_))) | exact RdB.nil _ _) (by omega) | exact RdB.suf (by first | with_reducible assumption | with_reducible exact RdB.mem (by with_reducible assumption) M | exact M.rdB (by first | ((repeat (first | with_reducible exact Has.here | with_reducible refine Has.there ?_)); done) | (repeat (first | exact Has.here | refine Has.there ?_))) | exact RdH.at (by assumption) (M.sel (by first | ((repeat (first | with_reducible exact Sel.refl | with_reducible exact Sel.nil | with_reducible exact Del.here | with_reducible apply Del.there | with_reducible apply Sel.cons | with_reducible apply Sel.drop)); done) | (repeat (first | exact Sel.refl | exact Sel.nil | exact Del.here | apply Del.there | apply Sel.cons | apply Sel.drop)))) | exact M.rdLit' (by first | ((repeat (first | with_reducible exact Has.here | with_reducible refine Has.there ?_)); done) | (repeat (first | exact Has.here | refine Has.there ?_))) | exact M.rdLent (by first | ((repeat (first | with_reducible exact Has.here | with_reducible refine Has.there ?_)); done) | (repeat (first | exact Has.here | refine Has.there ?_))) | exact RdB.nil _ _) (by omega)) (by omega) (by omega) hmo) rfl ?_
    rintro _ w ⟨A', k', rfl, m⟩
    replace M := M.call1 m; clear m
    refine DG.go (G := fun j => [3, 7].contains j) (i := 9) (f' := 7) (done := [0, 1, 2, 4, 5, 6, 8, 3, 7]) (fun h => by cases h) ?_
    apply DG.pure_ [10, 11, 12, 13, 14, 15, 16] 0 rfl (by kernel_rfl) (by kernel_rfl)
    · intro w
      refine WL.move rfl rfl ?_
      refine WL.extractL rfl rfl rfl ?_
      refine WL.extractL rfl rfl rfl ?_
      refine WL.extractL rfl rfl rfl ?_
      refine WL.assign rfl rfl ?_
      refine WL.assign rfl rfl ?_
      refine WL.assign rfl rfl ?_
      exact Chain.end_ rfl
    refine DG.end_ (by kernel_rfl) ?_
    refine WX.next ?_
    refine W.sub [(0, _), (5, _), (6, _), (7, _)] (.cons rfl (.cons rfl (.cons rfl (.cons rfl .nil)))) ?_
    refine W.seq ?_
    refine W.seq ?_
    refine W.region ?_
    refine WL.move rfl rfl ?_
    refine WL.neI rfl rfl rfl ?_
    refine WL.nil ?_
    refine WX.next ?_
    refine W.sub [(0, _), (5, _), (6, _), (7, _), (28, _)] (.cons rfl (.cons rfl (.cons rfl (.cons rfl (.cons rfl .nil))))) ?_
    refine W.ite rfl (fun c1 => ?_) (fun c1 => ?_)
    · refine W.seq ?_
      refine W.region ?_
      refine WL.move rfl rfl ?_
      refine WL.move rfl rfl ?_
      refine WL.nilCheck rfl rfl ?_
      refine WL.fieldR (off := 2) Try.underlying104 rfl rfl Try.sizeOf3 rfl rfl rfl ?_
      refine WL.storeR Try.sizeOf3 rfl rfl rfl M (by first | ((repeat (first | with_reducible exact Has.here | with_reducible refine Has.there ?_)); done) | (repeat (first | exact Has.here | refine Has.there ?_))) (by repeat (first | exact SetAt.zero | apply SetAt.succ)) (by first | ((repeat (first | with_reducible exact Upd.here | with_reducible apply Upd.there)); done) | (repeat (first | exact Upd.here | apply Upd.there))) ?_
      intro w M
      refine WL.nil ?_
      refine WX.next ?_
      refine W.sub [] .nil ?_
      refine W.seq ?_
      refine W.region ?_
      refine WL.assign rfl rfl ?_
      refine WL.nil ?_
      refine WX.next ?_
      refine W.sub [(4, _)] (.cons rfl .nil) ?_
      refine W.ret ?_
      refine WX.thenRet ?_
      refine WX.ret1 rfl rfl ?_
      have e : textV r most = [] := by unfold textV; rw [if_neg (fun h => c1 h.2)]
      rw [e]
      refine ⟨none, 0, rfl, ?_⟩
      unfold textS
      rw [if_neg (by omega), if_pos c1]
      exact Mem.nilOwn (M.sel (by first | ((repeat (first | with_reducible exact Sel.refl | with_reducible exact Sel.nil | with_reducible exact Del.here | with_reducible apply Del.there | with_reducible apply Sel.cons | with_reducible apply Sel.drop)); done) | (repeat (first | exact Sel.refl | exact Sel.nil | exact Del.here | apply Del.there | apply Sel.cons | apply Sel.drop)))) _ _
    · refine W.skip ?_
      refine WX.next ?_
      refine W.seq ?_
      refine W.region ?_
      refine WL.move rfl rfl ?_
      refine WL.move rfl rfl ?_
      refine WL.nilCheck rfl rfl ?_
      refine WL.fieldR (off := 1) Try.underlying104 rfl rfl Try.sizeOf3 rfl rfl rfl ?_
      refine WL.storeR Try.sizeOf3 rfl rfl rfl M (by first | ((repeat (first | with_reducible exact Has.here | with_reducible refine Has.there ?_)); done) | (repeat (first | exact Has.here | refine Has.there ?_))) (by repeat (first | exact SetAt.zero | apply SetAt.succ)) (by first | ((repeat (first | with_reducible exact Upd.here | with_reducible apply Upd.there)); done) | (repeat (first | exact Upd.here | apply Upd.there))) ?_
      intro w M
      refine WL.nil ?_
      refine WX.next ?_
      refine W.sub [(5, _)] (.cons rfl .nil) ?_
      refine W.seq ?_
      refine W.region ?_
      refine WL.move rfl rfl ?_
      refine WL.assign rfl rfl ?_
      refine WL.nil ?_
      refine WX.next ?_
      refine W.sub [(4, _)] (.cons rfl .nil) ?_
      refine W.ret ?_
      refine WX.ret1 rfl rfl ?_
      have e : textV r most = (rdB r.b r.at_ most).1 := by unfold textV; rw [if_pos ⟨h0, by omega⟩]
      rw [e]
      refine ⟨A', k', rfl, ?_⟩
      unfold textS
      rw [if_neg (by omega), if_neg (by omega)]
      exact M.sel (by first | ((repeat (first | with_reducible exact Sel.refl | with_reducible exact Sel.nil | with_reducible exact Del.here | with_reducible apply Del.there | with_reducible apply Sel.cons | with_reducible apply Sel.drop)); done) | (repeat (first | exact Sel.refl | exact Sel.nil | exact Del.here | apply Del.there | apply Sel.cons | apply Sel.drop)))
omit hr in
theorem rdErr_ok (M : Mem w0 w L) (hd : Del (Asr.row g 113 [.slice A r.b.length cap, .int .i64 r.at_, .int .i64 r.err]) L L') :
    Fn Try.prog 40 [.pointer (some ⟨g, 0, none⟩)] w fun v w' => v = .int .i64 r.err ∧ Mem w0 w' (Asr.row g 113 [.slice A r.b.length cap, .int .i64 r.at_, .int .i64 r.err] :: L') := by
  replace M := M.del hd
  refine Fn.enter Try.func40 rfl Try.ntmps40 rfl ?_
  refine W.sub [(0, _)] (.cons rfl .nil) ?_
  refine W.seq ?_
  refine W.region ?_
  refine WL.assign rfl rfl ?_
  refine WL.nil ?_
  refine WX.next ?_
  refine W.sub [(0, _)] (.cons rfl .nil) ?_
  refine W.seq ?_
  refine W.seq ?_
  refine W.region ?_
  refine WL.move rfl rfl ?_
  refine WL.eqNilF Try.underlying96 rfl rfl rfl ?_
  refine WL.nil ?_
  refine WX.next ?_
  refine W.sub [(0, _), (4, _)] (.cons rfl (.cons rfl .nil)) ?_
  refine W.condF rfl ?_
  refine W.skip ?_
  refine WX.next ?_
  refine W.seq ?_
  refine W.region ?_
  refine WL.move rfl rfl ?_
  refine WL.nilCheck rfl rfl ?_
  refine WL.fieldR (off := 2) Try.underlying113 rfl rfl Try.sizeOf26 rfl rfl rfl ?_
  refine WL.loadR Try.isAgg26 rfl M (by first | ((repeat (first | with_reducible exact Has.here | with_reducible refine Has.there ?_)); done) | (repeat (first | exact Has.here | refine Has.there ?_))) rfl rfl ?_
  refine WL.assign rfl rfl ?_
  refine WL.nil ?_
  refine WX.next ?_
  refine W.sub [(2, _)] (.cons rfl .nil) ?_
  refine W.ret ?_
  refine WX.ret1 rfl rfl ?_
  exact ⟨rfl, M⟩
end
end Go.Proofs.Ytmogpoghngmnmaa
