/-
  Walk: Load (once).
-/
import Derived.Test.YtmogpoghngmnmaaOnce6
import Derived.Test.YtmogpoghngmnmaaOnceLd
namespace Go.Proofs.Ytmogpoghngmnmaa
open Go Go.RowKit Bin

section
variable {w0 w : World} {L L' : List Asr} {g : Nat} {A : Option Addr} {cap : Nat} {r : Rs} {b : List UInt8}
def rdRow (g : Nat) (A : Option Addr) (cap : Nat) (r : Rs) : Asr := Asr.row g 113 [.slice A r.b.length cap, .int .i64 r.at_, .int .i64 r.err]
theorem rdUint2 (M : Mem w0 w L) (hd : Del (rdRow g A cap r) L L') (hr : r.ok) (hb : RdH w0 L' A cap b) (e : r.b = b) :
    Fn Try.prog 39 [.pointer (some ⟨g, 0, none⟩)] w fun v w' => v = .int .u64 (uintV r : Int) ∧ Mem w0 w' (rdRow g A cap (uintS r) :: L') := by
  subst e
  refine (rdUint_ok g A cap r hr w0 w L L' M hd hb).mono ?_
  rintro v w' ⟨rfl, M'⟩
  exact ⟨rfl, by unfold rdRow; rw [uintS_b]; exact M'⟩
theorem rdBytes2 (M : Mem w0 w L) (hd : Del (rdRow g A cap r) L L') (hr : r.ok) (hb : RdH w0 L' A cap b) (e : r.b = b) :
    Fn Try.prog 41 [.pointer (some ⟨g, 0, none⟩), .int .i64 200] w fun v w' => ∃ A' cap', v = .slice A' (textV r 200).length cap' ∧ Mem w0 w' (Asr.own 5 1 A' (textV r 200).length cap' (bs (textV r 200)) :: rdRow g A cap (textS r 200) :: L') := by
  subst e
  refine (rdBytes_ok g A cap r hr w0 w L L' 200 (by omega) M hd hb).mono ?_
  rintro v w' ⟨A', cap', rfl, M'⟩
  exact ⟨A', cap', rfl, by unfold rdRow; rw [textS_b]; exact M'⟩
def refRow (g : Nat) (A : Option Addr) (cap : Nat) (r : Rs) : Asr := Asr.row g 104 [.slice A r.b.length cap, .int .i64 r.at_, .int .i64 r.err]
theorem refRdUint2 (M : Mem w0 w L) (hd : Del (refRow g A cap r) L L') (hr : r.ok) (hb : RdH w0 L' A cap b) (e : r.b = b) :
    Fn Try.prog 48 [.pointer (some ⟨g, 0, none⟩)] w fun v w' => v = .int .u64 (uintV r : Int) ∧ Mem w0 w' (refRow g A cap (uintS r) :: L') := by
  subst e
  refine (refRdUint_ok g A cap r hr w0 w L L' M hd hb).mono ?_
  rintro v w' ⟨rfl, M'⟩
  exact ⟨rfl, by unfold refRow; rw [uintS_b]; exact M'⟩
theorem refRdBytes2 (M : Mem w0 w L) (hd : Del (refRow g A cap r) L L') (hr : r.ok) (hb : RdH w0 L' A cap b) (e : r.b = b) :
    Fn Try.prog 49 [.pointer (some ⟨g, 0, none⟩), .int .i64 200] w fun v w' => ∃ A' cap', v = .slice A' (textV r 200).length cap' ∧ Mem w0 w' (Asr.own 5 1 A' (textV r 200).length cap' (bs (textV r 200)) :: refRow g A cap (textS r 200) :: L') := by
  subst e
  refine (refRdBytes_ok g A cap r hr w0 w L L' 200 (by omega) M hd hb).mono ?_
  rintro v w' ⟨A', cap', rfl, M'⟩
  exact ⟨A', cap', rfl, by unfold refRow; rw [textS_b]; exact M'⟩
theorem rdErr2 (M : Mem w0 w L) (hd : Del (rdRow g A cap r) L L') : Fn Try.prog 40 [.pointer (some ⟨g, 0, none⟩)] w fun v w' => v = .int .i64 r.err ∧ Mem w0 w' (rdRow g A cap r :: L') :=
  rdErr_ok g A cap r w0 w L L' M hd
theorem rdLeft2 (M : Mem w0 w L) (hd : Del (rdRow g A cap r) L L') (hr : r.ok) : Fn Try.prog 42 [.pointer (some ⟨g, 0, none⟩)] w fun v w' => v = .int .i64 (leftV r) ∧ Mem w0 w' (rdRow g A cap r :: L') :=
  rdLeft_ok g A cap r hr w0 w L L' M hd
end
theorem stepS_ok {r : Rs} (h : r.ok) : (stepS r).ok := by
  unfold stepS
  split
  · exact uintS_ok (uintS_ok (uintS_ok h))
  · exact textS_ok (uintS_ok (uintS_ok (uintS_ok h))) _
theorem stepS_b (r : Rs) : (stepS r).b = r.b := by
  unfold stepS
  split
  · rw [uintS_b, uintS_b, uintS_b]
  · rw [textS_b, uintS_b, uintS_b, uintS_b]
theorem stepC_ok {r : Rs} {l : List Cl} (h : r.ok) (hb : ¬ stepBad r l) : (stepC r).ok := by
  have hb1 : (stepS r).err = 0 := Classical.byContradiction fun hc => hb (.inl hc)
  have hb2 : stepB r ≤ 1 := Nat.le_of_not_lt fun hc => hb (.inr (.inl hc))
  have hb3 : (stepC r).num ≠ 0 := fun hc => hb (.inr (.inr (.inl hc)))
  have e3 : (uintS (uintS (uintS r))).err = 0 := by
    unfold stepS at hb1
    split at hb1
    · exact hb1
    · exact text_err hb1
  have h0 : r.err = 0 := uint_err (uint_err (uint_err e3))
  have hr : r = ⟨r.b, (r.at_.toNat : Int), 0⟩ := by
    have := h.lo
    obtain ⟨b, a, e⟩ := r
    dsimp only at *
    rw [h0]
    congr 1
    omega
  have hk : r.at_.toNat ≤ r.b.length := by
    have := h.hi
    have := h.lo
    omega
  rw [hr] at hb1 hb2 hb3 ⊢
  obtain ⟨_, _, _, _, hok⟩ := step_good hk hb1 hb2 hb3
  exact hok
theorem loadN_bad {n : Nat} {r : Rs} {l : List Cl} (h : stepBad r l) : loadN (n + 1) r l = none := by unfold loadN; rw [if_pos h]
theorem loadN_on {n : Nat} {r : Rs} {l : List Cl} (h : ¬ stepBad r l) : loadN (n + 1) r l = loadN n (stepS r) (l ++ [stepC r]) := by
  rw [loadN, if_neg h]
theorem atI_ge {n p : Nat} (h : 0 ≤ atI n p) : p < n := by
  apply Classical.byContradiction
  intro hc
  rw [atI_out hc] at h
  omega
theorem atI_no {n p : Nat} (h : atI n p < 0) : ¬ p < n := by
  intro hc
  rw [atI_in hc] at h
  omega
theorem posN_lt {l : List Cl} {id : Nat} (h : id ∈ l.map Cl.id) : posN l id < l.length := by
  obtain ⟨c, hc, e⟩ := List.mem_map.1 h
  exact List.findIdx_lt_length_of_exists ⟨c, hc, by simpa using e⟩
theorem ok_snoc {t : Tb} (h : t.ok) {c : Cl} (hc : c.ok) (hn : c.id ∉ t.l.map Cl.id) (hl : t.l.length < t.most) (b w : Nat) : Tb.ok ⟨t.most, t.l ++ [c], b, w⟩ := by
  have e : t.l.eraseIdx t.l.length = t.l := List.eraseIdx_of_length_le (Nat.le_refl _)
  have := ok_last h (p := t.l.length) hc (by rw [e]; exact hn) (.inr hl) b w
  rwa [e] at this
theorem useEnd_ok (g gi most : Nat) (A : Option Addr) (cap : Nat) (cs : List ClX) (b v0 : Value) (hl : cs.length ≤ 1000000) (c : ClX) (w0 w : World) (L : List Asr)
    (M : Mem w0 w (Asr.row g 88 [.int .i64 (most : Int), .slice A cs.length cap, .pointer (some ⟨gi, 0, none⟩), b, v0] :: Asr.lst clientE A cap cs :: L)) :
    Fn Try.prog 31 [.pointer (some ⟨g, 0, none⟩), .int .i64 (-1), c.v] w fun v w' => v = .tuple #[] ∧ ∃ A' cap' gi',
      Mem w0 w' (Asr.row g 88 [.int .i64 (most : Int), .slice A' (cs ++ [c]).length cap', .pointer (some ⟨gi', 0, none⟩), b, v0] :: Asr.lst clientE A' cap' (cs ++ [c]) :: Asr.star (ixL gi' none) :: L) := by
  have h := use_ok g gi most A cap cs b v0 cs.length (Nat.le_refl _) hl c w0 w L M
  rw [atI_out (Nat.lt_irrefl _), List.eraseIdx_of_length_le (Nat.le_refl _)] at h
  exact h
/-- What Load answers. -/
def LoadAns (b : List UInt8) (w0 : World) (v : Value) (w' : World) : Prop :=
  (loadT b = none ∧ v = .tuple #[.pointer none, .int .i64 11] ∧ Mem w0 w' []) ∨
  (∃ (x : OT), loadT b = some x.s ∧ v = .tuple #[.pointer (some ⟨x.g, 0, none⟩), .int .i64 0] ∧ x.ok ∧ Mem w0 w' x.L)
theorem loadT_head {b : List UInt8} (h : headBad b) : loadT b = none := by unfold loadT; rw [if_pos h]
theorem loadT_none {b : List UInt8} (h : ¬ headBad b) (h2 : loadN (loadH b).2.1 (loadH b).2.2 [] = none) : loadT b = none := by unfold loadT; rw [if_neg h, h2]
theorem loadT_some {b : List UInt8} (h : ¬ headBad b) {r : Rs} {l : List Cl} (h2 : loadN (loadH b).2.1 (loadH b).2.2 [] = some (r, l)) : loadT b = if 0 < leftV r then none else some ⟨(loadH b).1, l, 0, 0⟩ := by unfold loadT; rw [if_neg h, h2]

set_option maxRecDepth 10000 in
set_option maxHeartbeats 2000000 in
theorem Load_ok (b : List UInt8) (A0 : Option Addr) (cap0 : Nat) (w0 : World) (h : RdB w0 A0 cap0 b) (hl : b.length ≤ 140737488351232) :
    Fn Try.prog 21 [.slice A0 b.length cap0] w0 (LoadAns b w0) := by
  have M := Mem.refl w0
  obtain ⟨w, hw⟩ : ∃ w, w = w0 := ⟨w0, rfl⟩
  have r0ok : Rs.ok ⟨b, 0, 0⟩ := ⟨hl, by dsimp only; omega, by dsimp only; omega⟩
  obtain ⟨most, hmo⟩ : ∃ m, m = uintV ⟨b, 0, 0⟩ := ⟨_, rfl⟩
  obtain ⟨n, hn⟩ : ∃ m, m = uintV (uintS ⟨b, 0, 0⟩) := ⟨_, rfl⟩
  obtain ⟨r2, hr2⟩ : ∃ r, r = uintS (uintS ⟨b, 0, 0⟩) := ⟨_, rfl⟩
  have r2ok : r2.ok := by rw [hr2]; exact uintS_ok (uintS_ok r0ok)
  have r2b : r2.b = b := by rw [hr2, uintS_b, uintS_b]
  have eH : loadH b = (most, n, r2) := by unfold loadH; rw [← hmo, ← hn, ← hr2]
  have hmlt := uintV_lt ⟨b, 0, 0⟩
  rw [← hmo] at hmlt
  have hnlt := uintV_lt (uintS ⟨b, 0, 0⟩)
  rw [← hn] at hnlt
  refine Fn.enter Try.func21 rfl Try.ntmps21 rfl ?_
  refine W.sub [(0, _)] (.cons rfl .nil) ?_
  refine W.seq ?_
  refine W.region ?_
  refine WL.assign rfl rfl ?_
  refine WL.assign rfl rfl ?_
  refine WL.nil ?_
  refine WX.next ?_
  refine W.sub [(0, _)] (.cons rfl .nil) ?_
  refine W.seq ?_
  refine W.region ?_
  refine WL.move rfl rfl ?_
  refine WL.call Try.call38 rfl (New_ok b A0 cap0 w0 h hl) rfl ?_
  rintro _ w ⟨gr, A', cap', rfl, m⟩
  replace M := M.callN m; clear m
  replace M : Mem w0 w (rdRow gr A' cap' ⟨b, 0, 0⟩ :: Asr.own 5 1 A' b.length cap' (bs b) :: []) := M
  refine WL.assign rfl rfl ?_
  refine WL.nil ?_
  refine WX.next ?_
  refine W.sub [(4, _)] (.cons rfl .nil) ?_
  refine W.seq ?_
  refine W.region ?_
  refine WL.move rfl rfl ?_
  refine WL.call Try.call39 rfl (rdUint2 M (by first | ((repeat (first | with_reducible exact Del.here | with_reducible apply Del.there)); done) | (repeat (first | exact Del.here | apply Del.there))) r0ok (b := b) (by intro w M; exact (by first | first | with_reducible assumption | with_reducible exact RdB.mem (by with_reducible assumption) M | exact M.rdB (by first | ((repeat (first | with_reducible exact Has.here | with_reducible refine Has.there ?_)); done) | (repeat (first | exact Has.here | refine Has.there ?_))) | exact RdH.at (by assumption) (M.sel (by first | ((repeat (first | with_reducible exact Sel.refl | with_reducible exact Sel.nil | with_reducible exact Del.here | with_reducible apply Del.there | with_reducible apply Sel.cons | with_reducible apply Sel.drop)); done) | (repeat (first | exact Sel.refl | exact Sel.nil | exact Del.here | apply Del.there | apply Sel.cons | apply Sel.drop)))) | exact M.rdLit' (by first | ((repeat (first | with_reducible exact Has.here | with_reducible refine Has.there ?_)); done) | (repeat (first | exact Has.here | refine Has.there ?_))) | exact M.rdLent (by first | ((repeat (first | with_reducible exact Has.here | with_reducible refine Has.there ?_)); done) | (repeat (first | exact Has.here | refine Has.there ?_))) | exact RdB.nil _ _ | exact RdB.sub (by first | with_reducible assumption | with_reducible exact RdB.mem (by with_reducible assumption) M | exact M.rdB (by first | ((repeat (first | with_reducible exact Has.here | with_reducible refine Has.there ?_)); done) | (repeat (first | exact Has.here | refine Has.there ?_))) | exact RdH.at (by assumption) (M.sel (by first | ((repeat (first | with_reducible exact Sel.refl | with_reducible exact Sel.nil | with_reducible exact Del.here | with_reducible apply Del.there | with_reducible apply Sel.cons | with_reducible apply Sel.drop)); done) | (repeat (first | exact Sel.refl | exact Sel.nil | exact Del.here | apply Del.there | apply Sel.cons | apply Sel.drop)))) | exact M.rdLit' (by first | ((repeat (first | with_reducible exact Has.here | with_reducible refine Has.there ?_)); done) | (repeat (first | exact Has.here | refine Has.there ?_))) | exact M.rdLent (by first | ((repeat (first | with_reducible exact Has.here | with_reducible refine Has.there ?_)); done) | (repeat (first | exact Has.here | refine Has.there ?_))) | exact RdB.nil _ _) (by omega) (by omega) | exact RdB.pre' (by first | with_reducible assumption | with_reducible exact RdB.mem (by with_reducible assumption) M | exact M.rdB (by first | ((repeat (first | with_reducible exact Has.here | with_reducible refine Has.there ?_)); done) | (repeat (first | exact Has.here | refine Has.there ?_))) | exact RdH.at (by assumption) (M.sel (by first | ((repeat (first | with_reducible exact Sel.refl | with_reducible exact Sel.nil | with_reducible exact Del.here | with_reducible apply Del.there | with_reducible apply Sel.cons | with_reducible apply Sel.drop)); done) | (repeat (first | exact Sel.refl | exact Sel.nil | exact Del.here | apply Del.there | apply Sel.cons | apply Sel.drop)))) | exact M.rdLit' (by first | ((repeat (first | with_reducible exact Has.here | with_reducible refine Has.there ?_)); done) | (repeat (first | exact Has.here | refine Has.there ?_))) | exact M.rdLent (by first | ((repeat (first | with_reducible exact Has.here | with_reducible refine Has.there ?_)); done) | (repeat (first | exact Has.here | refine Has.there ?_))) | exact RdB.nil _ _) (by omega) | exact RdB.suf (by first | with_reducible assumption | with_reducible exact RdB.mem (by with_reducible assumption) M | exact M.rdB (by first | ((repeat (first | with_reducible exact Has.here | with_reducible refine Has.there ?_)); done) | (repeat (first | exact Has.here | refine Has.there ?_))) | exact RdH.at (by assumption) (M.sel (by first | ((repeat (first | with_reducible exact Sel.refl | with_reducible exact Sel.nil | with_reducible exact Del.here | with_reducible apply Del.there | with_reducible apply Sel.cons | with_reducible apply Sel.drop)); done) | (repeat (first | exact Sel.refl | exact Sel.nil | exact Del.here | apply Del.there | apply Sel.cons | apply Sel.drop)))) | exact M.rdLit' (by first | ((repeat (first | with_reducible exact Has.here | with_reducible refine Has.there ?_)); done) | (repeat (first | exact Has.here | refine Has.there ?_))) | exact M.rdLent (by first | ((repeat (first | with_reducible exact Has.here | with_reducible refine Has.there ?_)); done) | (repeat (first | exact Has.here | refine Has.there ?_))) | exact RdB.nil _ _) (by omega))) rfl) rfl ?_
  rintro _ w ⟨rfl, M⟩
  rw [← hmo]
  refine WL.assign rfl rfl ?_
  refine WL.nil ?_
  refine WX.next ?_
  refine W.sub [(4, _), (5, _)] (.cons rfl (.cons rfl .nil)) ?_
  refine W.seq ?_
  refine W.region ?_
  refine WL.move rfl rfl ?_
  refine WL.call Try.call39 rfl (rdUint2 M (by first | ((repeat (first | with_reducible exact Del.here | with_reducible apply Del.there)); done) | (repeat (first | exact Del.here | apply Del.there))) (uintS_ok r0ok) (b := b) (by intro w M; exact (by first | first | with_reducible assumption | with_reducible exact RdB.mem (by with_reducible assumption) M | exact M.rdB (by first | ((repeat (first | with_reducible exact Has.here | with_reducible refine Has.there ?_)); done) | (repeat (first | exact Has.here | refine Has.there ?_))) | exact RdH.at (by assumption) (M.sel (by first | ((repeat (first | with_reducible exact Sel.refl | with_reducible exact Sel.nil | with_reducible exact Del.here | with_reducible apply Del.there | with_reducible apply Sel.cons | with_reducible apply Sel.drop)); done) | (repeat (first | exact Sel.refl | exact Sel.nil | exact Del.here | apply Del.there | apply Sel.cons | apply Sel.drop)))) | exact M.rdLit' (by first | ((repeat (first | with_reducible exact Has.here | with_reducible refine Has.there ?_)); done) | (repeat (first | exact Has.here | refine Has.there ?_))) | exact M.rdLent (by first | ((repeat (first | with_reducible exact Has.here | with_reducible refine Has.there ?_)); done) | (repeat (first | exact Has.here | refine Has.there ?_))) | exact RdB.nil _ _ | exact RdB.sub (by first | with_reducible assumption | with_reducible exact RdB.mem (by with_reducible assumption) M | exact M.rdB (by first | ((repeat (first | with_reducible exact Has.here | with_reducible refine Has.there ?_)); done) | (repeat (first | exact Has.here | refine Has.there ?_))) | exact RdH.at (by assumption) (M.sel (by first | ((repeat (first | with_reducible exact Sel.refl | with_reducible exact Sel.nil | with_reducible exact Del.here | with_reducible apply Del.there | with_reducible apply Sel.cons | with_reducible apply Sel.drop)); done) | (repeat (first | exact Sel.refl | exact Sel.nil | exact Del.here | apply Del.there | apply Sel.cons | apply Sel.drop)))) | exact M.rdLit' (by first | ((repeat (first | with_reducible exact Has.here | with_reducible refine Has.there ?_)); done) | (repeat (first | exact Has.here | refine Has.there ?_))) | exact M.rdLent (by first | ((repeat (first | with_reducible exact Has.here | with_reducible refine Has.there ?_)); done) | (repeat (first | exact Has.here | refine Has.there ?_))) | exact RdB.nil _ _) (by omega) (by omega) | exact RdB.pre' (by first | with_reducible assumption | with_reducible exact RdB.mem (by with_reducible assumption) M | exact M.rdB (by first | ((repeat (first | with_reducible exact Has.here | with_reducible refine Has.there ?_)); done) | (repeat (first | exact Has.here | refine Has.there ?_))) | exact RdH.at (by assumption) (M.sel (by first | ((repeat (first | with_reducible exact Sel.refl | with_reducible exact Sel.nil | with_reducible exact Del.here | with_reducible apply Del.there | with_reducible apply Sel.cons | with_reducible apply Sel.drop)); done) | (repeat (first | exact Sel.refl | exact Sel.nil | exact Del.here | apply Del.there | apply Sel.cons | apply Sel.drop)))) | exact M.rdLit' (by first | ((repeat (first | with_reducible exact Has.here | with_reducible refine Has.there ?_)); done) | (repeat (first | exact Has.here | refine Has.there ?_))) | exact M.rdLent (by first | ((repeat (first | with_reducible exact Has.here | with_reducible refine Has.there ?_)); done) | (repeat (first | exact Has.here | refine Has.there ?_))) | exact RdB.nil _ _) (by omega) | exact RdB.suf (by first | with_reducible assumption | with_reducible exact RdB.mem (by with_reducible assumption) M | exact M.rdB (by first | ((repeat (first | with_reducible exact Has.here | with_reducible refine Has.there ?_)); done) | (repeat (first | exact Has.here | refine Has.there ?_))) | exact RdH.at (by assumption) (M.sel (by first | ((repeat (first | with_reducible exact Sel.refl | with_reducible exact Sel.nil | with_reducible exact Del.here | with_reducible apply Del.there | with_reducible apply Sel.cons | with_reducible apply Sel.drop)); done) | (repeat (first | exact Sel.refl | exact Sel.nil | exact Del.here | apply Del.there | apply Sel.cons | apply Sel.drop)))) | exact M.rdLit' (by first | ((repeat (first | with_reducible exact Has.here | with_reducible refine Has.there ?_)); done) | (repeat (first | exact Has.here | refine Has.there ?_))) | exact M.rdLent (by first | ((repeat (first | with_reducible exact Has.here | with_reducible refine Has.there ?_)); done) | (repeat (first | exact Has.here | refine Has.there ?_))) | exact RdB.nil _ _) (by omega))) (uintS_b _)) rfl ?_
  rintro _ w ⟨rfl, M⟩
  rw [← hn]
  rw [← hr2] at M
  refine WL.assign rfl rfl ?_
  refine WL.nil ?_
  refine WX.next ?_
  refine W.sub [(4, _), (5, _), (6, _)] (.cons rfl (.cons rfl (.cons rfl .nil))) ?_
  refine W.seq ?_
  refine W.seq ?_
  refine W.region ?_
  refine WL.move rfl rfl ?_
  refine WL.call Try.call40 rfl (rdErr2 M (by first | ((repeat (first | with_reducible exact Del.here | with_reducible apply Del.there)); done) | (repeat (first | exact Del.here | apply Del.there)))) rfl ?_
  rintro _ w ⟨rfl, M⟩
  refine WL.neI rfl rfl rfl ?_
  refine WL.moveIf rfl rfl (fun c0 => ?_) (fun c0 => ?_)
  · refine WL.off rfl rfl rfl rfl ?_
    refine WL.off rfl rfl rfl rfl ?_
    refine WL.pickT rfl rfl rfl ?_
    refine WL.move rfl rfl ?_
    refine WL.off rfl rfl rfl rfl ?_
    refine WL.off rfl rfl rfl rfl ?_
    refine WL.pickT rfl rfl rfl ?_
    refine WL.move rfl rfl ?_
    refine WL.off rfl rfl rfl rfl ?_
    refine WL.off rfl rfl rfl rfl ?_
    refine WL.off rfl rfl rfl rfl ?_
    refine WL.pickT rfl rfl rfl ?_
    refine WL.nil ?_
    refine WX.next ?_
    refine W.sub [(4, _), (5, _), (6, _), (32, _)] (.cons rfl (.cons rfl (.cons rfl (.cons rfl .nil)))) ?_
    refine W.condT rfl ?_
    refine W.seq ?_
    refine W.region ?_
    refine WL.assign rfl rfl ?_
    refine WL.assign rfl rfl ?_
    refine WL.nil ?_
    refine WX.next ?_
    refine W.sub [(2, _), (3, _)] (.cons rfl (.cons rfl .nil)) ?_
    refine W.ret ?_
    refine WX.thenRet ?_
    refine WX.ret2 rfl rfl rfl ?_
    exact .inl ⟨loadT_head (by unfold headBad; rw [eH]; dsimp only; omega), rfl, M.sel (by first | ((repeat (first | with_reducible exact Sel.refl | with_reducible exact Sel.nil | with_reducible exact Del.here | with_reducible apply Del.there | with_reducible apply Sel.cons | with_reducible apply Sel.drop)); done) | (repeat (first | exact Sel.refl | exact Sel.nil | exact Del.here | apply Del.there | apply Sel.cons | apply Sel.drop)))⟩
  · refine WL.on rfl rfl ?_
    refine WL.move rfl rfl ?_
    refine WL.on rfl rfl ?_
    refine WL.lss rfl rfl rfl ?_
    refine WL.pickF rfl rfl rfl ?_
    refine WL.moveIf rfl rfl (fun c1 => ?_) (fun c1 => ?_)
    · refine WL.off rfl rfl rfl rfl ?_
      refine WL.off rfl rfl rfl rfl ?_
      refine WL.pickT rfl rfl rfl ?_
      refine WL.move rfl rfl ?_
      refine WL.off rfl rfl rfl rfl ?_
      refine WL.off rfl rfl rfl rfl ?_
      refine WL.off rfl rfl rfl rfl ?_
      refine WL.pickT rfl rfl rfl ?_
      refine WL.nil ?_
      refine WX.next ?_
      refine W.sub [(4, _), (5, _), (6, _), (32, _)] (.cons rfl (.cons rfl (.cons rfl (.cons rfl .nil)))) ?_
      refine W.condT rfl ?_
      refine W.seq ?_
      refine W.region ?_
      refine WL.assign rfl rfl ?_
      refine WL.assign rfl rfl ?_
      refine WL.nil ?_
      refine WX.next ?_
      refine W.sub [(2, _), (3, _)] (.cons rfl (.cons rfl .nil)) ?_
      refine W.ret ?_
      refine WX.thenRet ?_
      refine WX.ret2 rfl rfl rfl ?_
      exact .inl ⟨loadT_head (by unfold headBad; rw [eH]; dsimp only; omega), rfl, M.sel (by first | ((repeat (first | with_reducible exact Sel.refl | with_reducible exact Sel.nil | with_reducible exact Del.here | with_reducible apply Del.there | with_reducible apply Sel.cons | with_reducible apply Sel.drop)); done) | (repeat (first | exact Sel.refl | exact Sel.nil | exact Del.here | apply Del.there | apply Sel.cons | apply Sel.drop)))⟩
    · refine WL.on rfl rfl ?_
      refine WL.move rfl rfl ?_
      refine WL.on rfl rfl ?_
      refine WL.gtr rfl rfl rfl ?_
      refine WL.pickF rfl rfl rfl ?_
      refine WL.moveIf rfl rfl (fun c2 => ?_) (fun c2 => ?_)
      · refine WL.off rfl rfl rfl rfl ?_
        refine WL.off rfl rfl rfl rfl ?_
        refine WL.off rfl rfl rfl rfl ?_
        refine WL.pickT rfl rfl rfl ?_
        refine WL.nil ?_
        refine WX.next ?_
        refine W.sub [(4, _), (5, _), (6, _), (32, _)] (.cons rfl (.cons rfl (.cons rfl (.cons rfl .nil)))) ?_
        refine W.condT rfl ?_
        refine W.seq ?_
        refine W.region ?_
        refine WL.assign rfl rfl ?_
        refine WL.assign rfl rfl ?_
        refine WL.nil ?_
        refine WX.next ?_
        refine W.sub [(2, _), (3, _)] (.cons rfl (.cons rfl .nil)) ?_
        refine W.ret ?_
        refine WX.thenRet ?_
        refine WX.ret2 rfl rfl rfl ?_
        exact .inl ⟨loadT_head (by unfold headBad; rw [eH]; dsimp only; omega), rfl, M.sel (by first | ((repeat (first | with_reducible exact Sel.refl | with_reducible exact Sel.nil | with_reducible exact Del.here | with_reducible apply Del.there | with_reducible apply Sel.cons | with_reducible apply Sel.drop)); done) | (repeat (first | exact Sel.refl | exact Sel.nil | exact Del.here | apply Del.there | apply Sel.cons | apply Sel.drop)))⟩
      · refine WL.on rfl rfl ?_
        refine WL.move rfl rfl ?_
        refine WL.on rfl rfl ?_
        refine WL.move rfl rfl ?_
        refine WL.on rfl rfl ?_
        refine WL.gtr rfl rfl rfl ?_
        refine WL.pickF rfl rfl rfl ?_
        refine WL.nil ?_
        refine WX.next ?_
        refine W.sub [(4, _), (5, _), (6, _), (32, _)] (.cons rfl (.cons rfl (.cons rfl (.cons rfl .nil)))) ?_
        refine W.ite rfl (fun c3 => ?_) (fun c3 => ?_)
        · refine W.seq ?_
          refine W.region ?_
          refine WL.assign rfl rfl ?_
          refine WL.assign rfl rfl ?_
          refine WL.nil ?_
          refine WX.next ?_
          refine W.sub [(2, _), (3, _)] (.cons rfl (.cons rfl .nil)) ?_
          refine W.ret ?_
          refine WX.thenRet ?_
          refine WX.ret2 rfl rfl rfl ?_
          exact .inl ⟨loadT_head (by unfold headBad; rw [eH]; dsimp only; omega), rfl, M.sel (by first | ((repeat (first | with_reducible exact Sel.refl | with_reducible exact Sel.nil | with_reducible exact Del.here | with_reducible apply Del.there | with_reducible apply Sel.cons | with_reducible apply Sel.drop)); done) | (repeat (first | exact Sel.refl | exact Sel.nil | exact Del.here | apply Del.there | apply Sel.cons | apply Sel.drop)))⟩
        · have hH : ¬ headBad b := by unfold headBad; rw [eH]; dsimp only; omega
          have hmb : 1 ≤ most ∧ most ≤ 64 := by omega
          refine W.skip ?_
          refine WX.next ?_
          refine W.seq ?_
          refine W.region ?_
          refine WL.move rfl rfl ?_
          refine WL.conv Try.underlying29 Try.underlying3 rfl (by first | exact wI64 (by omega) | rfl) rfl ?_
          refine WL.call Try.call11 rfl (onceNew_ok most hmb _) rfl ?_
          rintro _ w ⟨x0, rfl, hs0, hok0, m⟩
          replace M := M.callN m; clear m
          have e0 : loadN n r2 x0.s.l = loadN (loadH b).2.1 (loadH b).2.2 [] := by rw [eH, hs0]
          refine WL.move rfl rfl ?_
          refine WL.extractL rfl rfl rfl ?_
          refine WL.extractL rfl rfl rfl ?_
          refine WL.assign rfl rfl ?_
          refine WL.assign rfl rfl ?_
          refine WL.nil ?_
          refine WX.next ?_
          refine W.sub [(4, _), (6, _), (7, _)] (.cons rfl (.cons rfl (.cons rfl .nil))) ?_
          refine W.seq ?_
          refine W.seq ?_
          refine W.region ?_
          refine WL.move rfl rfl ?_
          refine WL.move rfl rfl ?_
          refine WL.nil ?_
          refine WX.next ?_
          refine W.sub [(4, _), (7, _), (39, _), (40, _)] (.cons rfl (.cons rfl (.cons rfl (.cons rfl .nil)))) ?_
          refine W.block ?_
          refine W.loop (ι := Nat × (Rs × OT)) (fun z => [(4, .pointer (some ⟨gr, 0, none⟩)), (7, .pointer (some ⟨z.2.2.g, 0, none⟩)), (39, .int .u64 (n : Int)), (40, .int .u64 (z.1 : Int))]) (fun zz w => Mem w0 w ((fun z => rdRow gr A' cap' z.2.1 :: Asr.own 5 1 A' b.length cap' (bs b) :: z.2.2.L) zz) ∧ (fun z => (z.1 ≤ n ∧ z.2.1.ok ∧ z.2.1.b = b) ∧ (z.2.2.ok ∧ z.2.2.s = ⟨most, z.2.2.s.l, 0, 0⟩ ∧ z.2.2.s.l.length = z.1) ∧ loadN (n - z.1) z.2.1 z.2.2.s.l = loadN (loadH b).2.1 (loadH b).2.2 []) zz) (fun z => n - z.1) ((0, (r2, x0))) (by (repeat' (first | exact envSub.nil | refine envSub.cons ?_ ?_)) <;> first | rfl | (refine congrArg some ?_; refine congrArg (Value.int _) ?_; first | omega | (dsimp only; omega)) | (simp; done) | (refine congrArg some ?_; dsimp only; congr 1; omega) | (simp; omega)) ⟨M.sel (by first | ((repeat (first | with_reducible exact Sel.refl | with_reducible exact Sel.nil | with_reducible exact Del.here | with_reducible apply Del.there | with_reducible apply Sel.cons | with_reducible apply Sel.drop)); done) | (repeat (first | exact Sel.refl | exact Sel.nil | exact Del.here | apply Del.there | apply Sel.cons | apply Sel.drop))), ⟨⟨Nat.zero_le _, r2ok, r2b⟩, ⟨hok0, by dsimp only; rw [hs0], by dsimp only; rw [hs0]; rfl⟩, e0⟩⟩ ?_
          clear M; rintro (⟨k, r, ⟨g, most2, A, cap, cs, gi, made, begun, was⟩⟩) w ⟨M, ⟨⟨hk, hrok, hrb⟩, ⟨hok, hxs, hxl⟩, hN⟩⟩; dsimp only at M hk hrok hrb hok hxs hxl hN ⊢
          obtain ⟨rfl, hbg, hwas⟩ : most2 = most ∧ begun = 0 ∧ was = 0 := ⟨congrArg Tb.most hxs, congrArg Tb.begun hxs, congrArg Tb.was hxs⟩
          have hlen := hok.s.len
          have hU := uniq_of hok.s.nodup
          have hcl : cs.length = k := by rw [← hxl]; exact (List.length_map ..).symm
          have hTL : OT.s ⟨g, most2, A, cap, cs, gi, made, begun, was⟩ = ⟨most2, cs.map ClX.key, begun, was⟩ := rfl
          unfold OT.L OT.row at M
          (try dsimp only at M)
          refine W.sub [(4, _), (7, _), (39, _), (40, _)] (.cons rfl (.cons rfl (.cons rfl (.cons rfl .nil)))) ?_
          refine W.seq ?_
          refine W.region ?_
          refine WL.lss rfl rfl rfl ?_
          refine WL.nil ?_
          refine WX.next ?_
          refine W.sub [(4, _), (7, _), (39, _), (40, _), (41, _)] (.cons rfl (.cons rfl (.cons rfl (.cons rfl (.cons rfl .nil))))) ?_
          refine W.seq ?_
          refine W.ite rfl (fun c4 => ?_) (fun c4 => ?_)
          · have hnk : n - k = (n - (k + 1)) + 1 := by omega
            refine W.skip ?_
            refine WX.next ?_
            refine W.seq ?_
            refine W.block ?_
            refine W.seq ?_
            refine W.region ?_
            refine WL.move rfl rfl ?_
            refine WL.call Try.call39 rfl (rdUint2 M (by first | ((repeat (first | with_reducible exact Del.here | with_reducible apply Del.there)); done) | (repeat (first | exact Del.here | apply Del.there))) hrok (b := b) (by intro w M; exact (by first | first | with_reducible assumption | with_reducible exact RdB.mem (by with_reducible assumption) M | exact M.rdB (by first | ((repeat (first | with_reducible exact Has.here | with_reducible refine Has.there ?_)); done) | (repeat (first | exact Has.here | refine Has.there ?_))) | exact RdH.at (by assumption) (M.sel (by first | ((repeat (first | with_reducible exact Sel.refl | with_reducible exact Sel.nil | with_reducible exact Del.here | with_reducible apply Del.there | with_reducible apply Sel.cons | with_reducible apply Sel.drop)); done) | (repeat (first | exact Sel.refl | exact Sel.nil | exact Del.here | apply Del.there | apply Sel.cons | apply Sel.drop)))) | exact M.rdLit' (by first | ((repeat (first | with_reducible exact Has.here | with_reducible refine Has.there ?_)); done) | (repeat (first | exact Has.here | refine Has.there ?_))) | exact M.rdLent (by first | ((repeat (first | with_reducible exact Has.here | with_reducible refine Has.there ?_)); done) | (repeat (first | exact Has.here | refine Has.there ?_))) | exact RdB.nil _ _ | exact RdB.sub (by first | with_reducible assumption | with_reducible exact RdB.mem (by with_reducible assumption) M | exact M.rdB (by first | ((repeat (first | with_reducible exact Has.here | with_reducible refine Has.there ?_)); done) | (repeat (first | exact Has.here | refine Has.there ?_))) | exact RdH.at (by assumption) (M.sel (by first | ((repeat (first | with_reducible exact Sel.refl | with_reducible exact Sel.nil | with_reducible exact Del.here | with_reducible apply Del.there | with_reducible apply Sel.cons | with_reducible apply Sel.drop)); done) | (repeat (first | exact Sel.refl | exact Sel.nil | exact Del.here | apply Del.there | apply Sel.cons | apply Sel.drop)))) | exact M.rdLit' (by first | ((repeat (first | with_reducible exact Has.here | with_reducible refine Has.there ?_)); done) | (repeat (first | exact Has.here | refine Has.there ?_))) | exact M.rdLent (by first | ((repeat (first | with_reducible exact Has.here | with_reducible refine Has.there ?_)); done) | (repeat (first | exact Has.here | refine Has.there ?_))) | exact RdB.nil _ _) (by omega) (by omega) | exact RdB.pre' (by first | with_reducible assumption | with_reducible exact RdB.mem (by with_reducible assumption) M | exact M.rdB (by first | ((repeat (first | with_reducible exact Has.here | with_reducible refine Has.there ?_)); done) | (repeat (first | exact Has.here | refine Has.there ?_))) | exact RdH.at (by assumption) (M.sel (by first | ((repeat (first | with_reducible exact Sel.refl | with_reducible exact Sel.nil | with_reducible exact Del.here | with_reducible apply Del.there | with_reducible apply Sel.cons | with_reducible apply Sel.drop)); done) | (repeat (first | exact Sel.refl | exact Sel.nil | exact Del.here | apply Del.there | apply Sel.cons | apply Sel.drop)))) | exact M.rdLit' (by first | ((repeat (first | with_reducible exact Has.here | with_reducible refine Has.there ?_)); done) | (repeat (first | exact Has.here | refine Has.there ?_))) | exact M.rdLent (by first | ((repeat (first | with_reducible exact Has.here | with_reducible refine Has.there ?_)); done) | (repeat (first | exact Has.here | refine Has.there ?_))) | exact RdB.nil _ _) (by omega) | exact RdB.suf (by first | with_reducible assumption | with_reducible exact RdB.mem (by with_reducible assumption) M | exact M.rdB (by first | ((repeat (first | with_reducible exact Has.here | with_reducible refine Has.there ?_)); done) | (repeat (first | exact Has.here | refine Has.there ?_))) | exact RdH.at (by assumption) (M.sel (by first | ((repeat (first | with_reducible exact Sel.refl | with_reducible exact Sel.nil | with_reducible exact Del.here | with_reducible apply Del.there | with_reducible apply Sel.cons | with_reducible apply Sel.drop)); done) | (repeat (first | exact Sel.refl | exact Sel.nil | exact Del.here | apply Del.there | apply Sel.cons | apply Sel.drop)))) | exact M.rdLit' (by first | ((repeat (first | with_reducible exact Has.here | with_reducible refine Has.there ?_)); done) | (repeat (first | exact Has.here | refine Has.there ?_))) | exact M.rdLent (by first | ((repeat (first | with_reducible exact Has.here | with_reducible refine Has.there ?_)); done) | (repeat (first | exact Has.here | refine Has.there ?_))) | exact RdB.nil _ _) (by omega))) hrb) rfl ?_
            rintro _ w ⟨rfl, M⟩
            refine WL.buildP (places := #[(0, 1), (1, 1), (2, 1), (3, 1)]) Try.underlying45 Try.zeroValue45 (fun _ => by simp [Try.sizeOf29, Try.sizeOf29, Try.sizeOf4, Try.sizeOf32]) rfl (by repeat (first | exact Puts.nil | exact SetAt.zero | apply SetAt.succ | apply Puts.cons rfl rfl)) rfl ?_
            refine WL.alloc Try.zeroValue45 M rfl ?_
            intro g9_3 w M
            try simp only [Value.cells] at M
            try simp only [List.toList_toArray] at M
            refine WL.storeWA Try.sizeOf45 rfl rfl (by repeat (first | exact oneNil | refine oneCons rfl ?_)) rfl rfl M (by first | ((repeat (first | with_reducible exact Upd.here | with_reducible apply Upd.there)); done) | (repeat (first | exact Upd.here | apply Upd.there))) ?_
            intro w M
            refine WL.nil ?_
            refine WX.next ?_
            refine W.sub [(4, _), (7, _), (9, _), (39, _), (40, _)] (.cons rfl (.cons rfl (.cons rfl (.cons rfl (.cons rfl .nil))))) ?_
            refine W.seq ?_
            refine W.region ?_
            refine WL.move rfl rfl ?_
            refine WL.call Try.call39 rfl (rdUint2 M (by first | ((repeat (first | with_reducible exact Del.here | with_reducible apply Del.there)); done) | (repeat (first | exact Del.here | apply Del.there))) (uintS_ok hrok) (b := b) (by intro w M; exact (by first | first | with_reducible assumption | with_reducible exact RdB.mem (by with_reducible assumption) M | exact M.rdB (by first | ((repeat (first | with_reducible exact Has.here | with_reducible refine Has.there ?_)); done) | (repeat (first | exact Has.here | refine Has.there ?_))) | exact RdH.at (by assumption) (M.sel (by first | ((repeat (first | with_reducible exact Sel.refl | with_reducible exact Sel.nil | with_reducible exact Del.here | with_reducible apply Del.there | with_reducible apply Sel.cons | with_reducible apply Sel.drop)); done) | (repeat (first | exact Sel.refl | exact Sel.nil | exact Del.here | apply Del.there | apply Sel.cons | apply Sel.drop)))) | exact M.rdLit' (by first | ((repeat (first | with_reducible exact Has.here | with_reducible refine Has.there ?_)); done) | (repeat (first | exact Has.here | refine Has.there ?_))) | exact M.rdLent (by first | ((repeat (first | with_reducible exact Has.here | with_reducible refine Has.there ?_)); done) | (repeat (first | exact Has.here | refine Has.there ?_))) | exact RdB.nil _ _ | exact RdB.sub (by first | with_reducible assumption | with_reducible exact RdB.mem (by with_reducible assumption) M | exact M.rdB (by first | ((repeat (first | with_reducible exact Has.here | with_reducible refine Has.there ?_)); done) | (repeat (first | exact Has.here | refine Has.there ?_))) | exact RdH.at (by assumption) (M.sel (by first | ((repeat (first | with_reducible exact Sel.refl | with_reducible exact Sel.nil | with_reducible exact Del.here | with_reducible apply Del.there | with_reducible apply Sel.cons | with_reducible apply Sel.drop)); done) | (repeat (first | exact Sel.refl | exact Sel.nil | exact Del.here | apply Del.there | apply Sel.cons | apply Sel.drop)))) | exact M.rdLit' (by first | ((repeat (first | with_reducible exact Has.here | with_reducible refine Has.there ?_)); done) | (repeat (first | exact Has.here | refine Has.there ?_))) | exact M.rdLent (by first | ((repeat (first | with_reducible exact Has.here | with_reducible refine Has.there ?_)); done) | (repeat (first | exact Has.here | refine Has.there ?_))) | exact RdB.nil _ _) (by omega) (by omega) | exact RdB.pre' (by first | with_reducible assumption | with_reducible exact RdB.mem (by with_reducible assumption) M | exact M.rdB (by first | ((repeat (first | with_reducible exact Has.here | with_reducible refine Has.there ?_)); done) | (repeat (first | exact Has.here | refine Has.there ?_))) | exact RdH.at (by assumption) (M.sel (by first | ((repeat (first | with_reducible exact Sel.refl | with_reducible exact Sel.nil | with_reducible exact Del.here | with_reducible apply Del.there | with_reducible apply Sel.cons | with_reducible apply Sel.drop)); done) | (repeat (first | exact Sel.refl | exact Sel.nil | exact Del.here | apply Del.there | apply Sel.cons | apply Sel.drop)))) | exact M.rdLit' (by first | ((repeat (first | with_reducible exact Has.here | with_reducible refine Has.there ?_)); done) | (repeat (first | exact Has.here | refine Has.there ?_))) | exact M.rdLent (by first | ((repeat (first | with_reducible exact Has.here | with_reducible refine Has.there ?_)); done) | (repeat (first | exact Has.here | refine Has.there ?_))) | exact RdB.nil _ _) (by omega) | exact RdB.suf (by first | with_reducible assumption | with_reducible exact RdB.mem (by with_reducible assumption) M | exact M.rdB (by first | ((repeat (first | with_reducible exact Has.here | with_reducible refine Has.there ?_)); done) | (repeat (first | exact Has.here | refine Has.there ?_))) | exact RdH.at (by assumption) (M.sel (by first | ((repeat (first | with_reducible exact Sel.refl | with_reducible exact Sel.nil | with_reducible exact Del.here | with_reducible apply Del.there | with_reducible apply Sel.cons | with_reducible apply Sel.drop)); done) | (repeat (first | exact Sel.refl | exact Sel.nil | exact Del.here | apply Del.there | apply Sel.cons | apply Sel.drop)))) | exact M.rdLit' (by first | ((repeat (first | with_reducible exact Has.here | with_reducible refine Has.there ?_)); done) | (repeat (first | exact Has.here | refine Has.there ?_))) | exact M.rdLent (by first | ((repeat (first | with_reducible exact Has.here | with_reducible refine Has.there ?_)); done) | (repeat (first | exact Has.here | refine Has.there ?_))) | exact RdB.nil _ _) (by omega))) ((uintS_b _).trans hrb)) rfl ?_
            rintro _ w ⟨rfl, M⟩
            refine WL.fieldR (off := 1) Try.underlying45 rfl rfl Try.sizeOf29 rfl rfl rfl ?_
            refine WL.storeR Try.sizeOf29 rfl rfl rfl M (by first | ((repeat (first | with_reducible exact Has.here | with_reducible refine Has.there ?_)); done) | (repeat (first | exact Has.here | refine Has.there ?_))) (by repeat (first | exact SetAt.zero | apply SetAt.succ)) (by first | ((repeat (first | with_reducible exact Upd.here | with_reducible apply Upd.there)); done) | (repeat (first | exact Upd.here | apply Upd.there))) ?_
            intro w M
            refine WL.nil ?_
            refine WX.next ?_
            refine W.sub [(4, _), (7, _), (9, _), (39, _), (40, _)] (.cons rfl (.cons rfl (.cons rfl (.cons rfl (.cons rfl .nil))))) ?_
            refine W.seq ?_
            refine W.region ?_
            refine WL.move rfl rfl ?_
            refine WL.call Try.call39 rfl (rdUint2 M (by first | ((repeat (first | with_reducible exact Del.here | with_reducible apply Del.there)); done) | (repeat (first | exact Del.here | apply Del.there))) (uintS_ok (uintS_ok hrok)) (b := b) (by intro w M; exact (by first | first | with_reducible assumption | with_reducible exact RdB.mem (by with_reducible assumption) M | exact M.rdB (by first | ((repeat (first | with_reducible exact Has.here | with_reducible refine Has.there ?_)); done) | (repeat (first | exact Has.here | refine Has.there ?_))) | exact RdH.at (by assumption) (M.sel (by first | ((repeat (first | with_reducible exact Sel.refl | with_reducible exact Sel.nil | with_reducible exact Del.here | with_reducible apply Del.there | with_reducible apply Sel.cons | with_reducible apply Sel.drop)); done) | (repeat (first | exact Sel.refl | exact Sel.nil | exact Del.here | apply Del.there | apply Sel.cons | apply Sel.drop)))) | exact M.rdLit' (by first | ((repeat (first | with_reducible exact Has.here | with_reducible refine Has.there ?_)); done) | (repeat (first | exact Has.here | refine Has.there ?_))) | exact M.rdLent (by first | ((repeat (first | with_reducible exact Has.here | with_reducible refine Has.there ?_)); done) | (repeat (first | exact Has.here | refine Has.there ?_))) | exact RdB.nil _ _ | exact RdB.sub (by first | with_reducible assumption | with_reducible exact RdB.mem (by with_reducible assumption) M | exact M.rdB (by first | ((repeat (first | with_reducible exact Has.here | with_reducible refine Has.there ?_)); done) | (repeat (first | exact Has.here | refine Has.there ?_))) | exact RdH.at (by assumption) (M.sel (by first | ((repeat (first | with_reducible exact Sel.refl | with_reducible exact Sel.nil | with_reducible exact Del.here | with_reducible apply Del.there | with_reducible apply Sel.cons | with_reducible apply Sel.drop)); done) | (repeat (first | exact Sel.refl | exact Sel.nil | exact Del.here | apply Del.there | apply Sel.cons | apply Sel.drop)))) | exact M.rdLit' (by first | ((repeat (first | with_reducible exact Has.here | with_reducible refine Has.there ?_)); done) | (repeat (first | exact Has.here | refine Has.there ?_))) | exact M.rdLent (by first | ((repeat (first | with_reducible exact Has.here | with_reducible refine Has.there ?_)); done) | (repeat (first | exact Has.here | refine Has.there ?_))) | exact RdB.nil _ _) (by omega) (by omega) | exact RdB.pre' (by first | with_reducible assumption | with_reducible exact RdB.mem (by with_reducible assumption) M | exact M.rdB (by first | ((repeat (first | with_reducible exact Has.here | with_reducible refine Has.there ?_)); done) | (repeat (first | exact Has.here | refine Has.there ?_))) | exact RdH.at (by assumption) (M.sel (by first | ((repeat (first | with_reducible exact Sel.refl | with_reducible exact Sel.nil | with_reducible exact Del.here | with_reducible apply Del.there | with_reducible apply Sel.cons | with_reducible apply Sel.drop)); done) | (repeat (first | exact Sel.refl | exact Sel.nil | exact Del.here | apply Del.there | apply Sel.cons | apply Sel.drop)))) | exact M.rdLit' (by first | ((repeat (first | with_reducible exact Has.here | with_reducible refine Has.there ?_)); done) | (repeat (first | exact Has.here | refine Has.there ?_))) | exact M.rdLent (by first | ((repeat (first | with_reducible exact Has.here | with_reducible refine Has.there ?_)); done) | (repeat (first | exact Has.here | refine Has.there ?_))) | exact RdB.nil _ _) (by omega) | exact RdB.suf (by first | with_reducible assumption | with_reducible exact RdB.mem (by with_reducible assumption) M | exact M.rdB (by first | ((repeat (first | with_reducible exact Has.here | with_reducible refine Has.there ?_)); done) | (repeat (first | exact Has.here | refine Has.there ?_))) | exact RdH.at (by assumption) (M.sel (by first | ((repeat (first | with_reducible exact Sel.refl | with_reducible exact Sel.nil | with_reducible exact Del.here | with_reducible apply Del.there | with_reducible apply Sel.cons | with_reducible apply Sel.drop)); done) | (repeat (first | exact Sel.refl | exact Sel.nil | exact Del.here | apply Del.there | apply Sel.cons | apply Sel.drop)))) | exact M.rdLit' (by first | ((repeat (first | with_reducible exact Has.here | with_reducible refine Has.there ?_)); done) | (repeat (first | exact Has.here | refine Has.there ?_))) | exact M.rdLent (by first | ((repeat (first | with_reducible exact Has.here | with_reducible refine Has.there ?_)); done) | (repeat (first | exact Has.here | refine Has.there ?_))) | exact RdB.nil _ _) (by omega))) ((uintS_b _).trans ((uintS_b _).trans hrb))) rfl ?_
            rintro _ w ⟨rfl, M⟩
            refine WL.assign rfl rfl ?_
            refine WL.nil ?_
            refine WX.next ?_
            refine W.sub [(4, _), (7, _), (9, _), (10, _), (39, _), (40, _)] (.cons rfl (.cons rfl (.cons rfl (.cons rfl (.cons rfl (.cons rfl .nil)))))) ?_
            refine W.joint (fun (z : Option Addr × Nat) => [(4, .pointer (some ⟨gr, 0, none⟩)), (7, .pointer (some ⟨g, 0, none⟩)), (9, .pointer (some ⟨g9_3, 0, none⟩)), (10, .int .u64 (stepB r : Int)), (39, .int .u64 (n : Int)), (40, .int .u64 (k : Int))]) (fun j w => Mem w0 w ((fun z => rdRow gr A' cap' (stepS r) :: Asr.own 5 1 z.1 (stepC r).rep.length z.2 (bs (stepC r).rep) :: Asr.row g9_3 45 [.int .u64 ((stepC r).id : Int), .int .u64 ((stepC r).num : Int), .bool (stepC r).busy, .slice z.1 (stepC r).rep.length z.2] :: Asr.own 5 1 A' b.length cap' (bs b) :: OT.L ⟨g, most2, A, cap, cs, gi, made, begun, was⟩) j) ∧ (fun _ => True) j) ?_ ?_
            · refine W.seq ?_
              refine W.region ?_
              refine WL.move rfl rfl ?_
              refine WL.eqI rfl rfl rfl ?_
              refine WL.fieldR (off := 2) Try.underlying45 rfl rfl Try.sizeOf4 rfl rfl rfl ?_
              refine WL.storeR Try.sizeOf4 rfl rfl rfl M (by first | ((repeat (first | with_reducible exact Has.here | with_reducible refine Has.there ?_)); done) | (repeat (first | exact Has.here | refine Has.there ?_))) (by repeat (first | exact SetAt.zero | apply SetAt.succ)) (by first | ((repeat (first | with_reducible exact Upd.here | with_reducible apply Upd.there)); done) | (repeat (first | exact Upd.here | apply Upd.there))) ?_
              intro w M
              refine WL.nil ?_
              refine WX.next ?_
              refine W.sub [(4, _), (7, _), (9, _), (10, _), (39, _), (40, _)] (.cons rfl (.cons rfl (.cons rfl (.cons rfl (.cons rfl (.cons rfl .nil)))))) ?_
              refine W.seq ?_
              have hbz : decide (((uintV (uintS (uintS r)) : Nat) : Int) = 1) = (stepC r).busy := by
                unfold stepC stepB
                exact decide_eq_decide.2 (by omega)
              have hbz2 : (stepC r).busy = decide (stepB r = 1) := rfl
              rw [hbz] at M
              refine W.region ?_
              refine WL.fieldR (off := 2) Try.underlying45 rfl rfl Try.sizeOf4 rfl rfl rfl ?_
              refine WL.loadR Try.isAgg4 rfl M (by first | ((repeat (first | with_reducible exact Has.here | with_reducible refine Has.there ?_)); done) | (repeat (first | exact Has.here | refine Has.there ?_))) rfl rfl ?_
              refine WL.not rfl rfl ?_
              refine WL.nil ?_
              refine WX.next ?_
              refine W.sub [(4, _), (7, _), (9, _), (10, _), (39, _), (40, _), (55, _)] (.cons rfl (.cons rfl (.cons rfl (.cons rfl (.cons rfl (.cons rfl (.cons rfl .nil))))))) ?_
              refine W.cond rfl (fun c5 => ?_) (fun c5 => ?_)
              · (try simp only [Bool.not_eq_true'] at c5); (try simp only [Bool.not_eq_false'] at c5); (try simp only [decide_eq_true_eq] at c5); (try simp only [decide_eq_false_iff_not] at c5)
                have hb : stepB r ≠ 1 := by
                  intro h
                  rw [hbz2, h] at c5
                  simp at c5
                have e1 : textS (uintS (uintS (uintS r))) 200 = stepS r := by unfold stepS; rw [if_neg hb]
                have e2 : textV (uintS (uintS (uintS r))) 200 = (stepC r).rep := by unfold stepC; rw [if_neg hb]
                refine W.region ?_
                refine WL.move rfl rfl ?_
                refine WL.call Try.call41 rfl (rdBytes2 M (by first | ((repeat (first | with_reducible exact Del.here | with_reducible apply Del.there)); done) | (repeat (first | exact Del.here | apply Del.there))) (uintS_ok (uintS_ok (uintS_ok hrok))) (b := b) (by intro w M; exact (by first | first | with_reducible assumption | with_reducible exact RdB.mem (by with_reducible assumption) M | exact M.rdB (by first | ((repeat (first | with_reducible exact Has.here | with_reducible refine Has.there ?_)); done) | (repeat (first | exact Has.here | refine Has.there ?_))) | exact RdH.at (by assumption) (M.sel (by first | ((repeat (first | with_reducible exact Sel.refl | with_reducible exact Sel.nil | with_reducible exact Del.here | with_reducible apply Del.there | with_reducible apply Sel.cons | with_reducible apply Sel.drop)); done) | (repeat (first | exact Sel.refl | exact Sel.nil | exact Del.here | apply Del.there | apply Sel.cons | apply Sel.drop)))) | exact M.rdLit' (by first | ((repeat (first | with_reducible exact Has.here | with_reducible refine Has.there ?_)); done) | (repeat (first | exact Has.here | refine Has.there ?_))) | exact M.rdLent (by first | ((repeat (first | with_reducible exact Has.here | with_reducible refine Has.there ?_)); done) | (repeat (first | exact Has.here | refine Has.there ?_))) | exact RdB.nil _ _ | exact RdB.sub (by first | with_reducible assumption | with_reducible exact RdB.mem (by with_reducible assumption) M | exact M.rdB (by first | ((repeat (first | with_reducible exact Has.here | with_reducible refine Has.there ?_)); done) | (repeat (first | exact Has.here | refine Has.there ?_))) | exact RdH.at (by assumption) (M.sel (by first | ((repeat (first | with_reducible exact Sel.refl | with_reducible exact Sel.nil | with_reducible exact Del.here | with_reducible apply Del.there | with_reducible apply Sel.cons | with_reducible apply Sel.drop)); done) | (repeat (first | exact Sel.refl | exact Sel.nil | exact Del.here | apply Del.there | apply Sel.cons | apply Sel.drop)))) | exact M.rdLit' (by first | ((repeat (first | with_reducible exact Has.here | with_reducible refine Has.there ?_)); done) | (repeat (first | exact Has.here | refine Has.there ?_))) | exact M.rdLent (by first | ((repeat (first | with_reducible exact Has.here | with_reducible refine Has.there ?_)); done) | (repeat (first | exact Has.here | refine Has.there ?_))) | exact RdB.nil _ _) (by omega) (by omega) | exact RdB.pre' (by first | with_reducible assumption | with_reducible exact RdB.mem (by with_reducible assumption) M | exact M.rdB (by first | ((repeat (first | with_reducible exact Has.here | with_reducible refine Has.there ?_)); done) | (repeat (first | exact Has.here | refine Has.there ?_))) | exact RdH.at (by assumption) (M.sel (by first | ((repeat (first | with_reducible exact Sel.refl | with_reducible exact Sel.nil | with_reducible exact Del.here | with_reducible apply Del.there | with_reducible apply Sel.cons | with_reducible apply Sel.drop)); done) | (repeat (first | exact Sel.refl | exact Sel.nil | exact Del.here | apply Del.there | apply Sel.cons | apply Sel.drop)))) | exact M.rdLit' (by first | ((repeat (first | with_reducible exact Has.here | with_reducible refine Has.there ?_)); done) | (repeat (first | exact Has.here | refine Has.there ?_))) | exact M.rdLent (by first | ((repeat (first | with_reducible exact Has.here | with_reducible refine Has.there ?_)); done) | (repeat (first | exact Has.here | refine Has.there ?_))) | exact RdB.nil _ _) (by omega) | exact RdB.suf (by first | with_reducible assumption | with_reducible exact RdB.mem (by with_reducible assumption) M | exact M.rdB (by first | ((repeat (first | with_reducible exact Has.here | with_reducible refine Has.there ?_)); done) | (repeat (first | exact Has.here | refine Has.there ?_))) | exact RdH.at (by assumption) (M.sel (by first | ((repeat (first | with_reducible exact Sel.refl | with_reducible exact Sel.nil | with_reducible exact Del.here | with_reducible apply Del.there | with_reducible apply Sel.cons | with_reducible apply Sel.drop)); done) | (repeat (first | exact Sel.refl | exact Sel.nil | exact Del.here | apply Del.there | apply Sel.cons | apply Sel.drop)))) | exact M.rdLit' (by first | ((repeat (first | with_reducible exact Has.here | with_reducible refine Has.there ?_)); done) | (repeat (first | exact Has.here | refine Has.there ?_))) | exact M.rdLent (by first | ((repeat (first | with_reducible exact Has.here | with_reducible refine Has.there ?_)); done) | (repeat (first | exact Has.here | refine Has.there ?_))) | exact RdB.nil _ _) (by omega))) ((uintS_b _).trans ((uintS_b _).trans ((uintS_b _).trans hrb)))) rfl ?_
                rintro _ w ⟨A14, cap14, rfl, M⟩
                refine WL.fieldR (off := 3) Try.underlying45 rfl rfl Try.sizeOf32 rfl rfl rfl ?_
                refine WL.storeR Try.sizeOf32 rfl rfl rfl M (by first | ((repeat (first | with_reducible exact Has.here | with_reducible refine Has.there ?_)); done) | (repeat (first | exact Has.here | refine Has.there ?_))) (by repeat (first | exact SetAt.zero | apply SetAt.succ)) (by first | ((repeat (first | with_reducible exact Upd.here | with_reducible apply Upd.there)); done) | (repeat (first | exact Upd.here | apply Upd.there))) ?_
                intro w M
                refine WL.nil ?_
                skip
                rw [e1, e2] at M
                refine WX.join ((A14, cap14)) (by (repeat' (first | exact envSub.nil | refine envSub.cons ?_ ?_)) <;> first | rfl | (refine congrArg some ?_; refine congrArg (Value.int _) ?_; first | omega | (dsimp only; omega)) | (simp; done) | (refine congrArg some ?_; dsimp only; congr 1; omega) | (simp; omega)) ⟨M.sel (by first | ((repeat (first | with_reducible exact Sel.refl | with_reducible exact Sel.nil | with_reducible exact Del.here | with_reducible apply Del.there | with_reducible apply Sel.cons | with_reducible apply Sel.drop)); done) | (repeat (first | exact Sel.refl | exact Sel.nil | exact Del.here | apply Del.there | apply Sel.cons | apply Sel.drop))), (by first | trivial | omega | (dsimp only; omega) | (simp; done))⟩
              · (try simp only [Bool.not_eq_true'] at c5); (try simp only [Bool.not_eq_false'] at c5); (try simp only [decide_eq_true_eq] at c5); (try simp only [decide_eq_false_iff_not] at c5)
                have hb : stepB r = 1 := by
                  apply Classical.byContradiction
                  intro h
                  rw [hbz2] at c5
                  simp [h] at c5
                have e1 : uintS (uintS (uintS r)) = stepS r := by unfold stepS; rw [if_pos hb]
                have e2 : (stepC r).rep = [] := by unfold stepC; rw [if_pos hb]
                refine W.skip ?_
                skip
                rw [e1] at M
                refine WX.join ((none, 0)) (by (repeat' (first | exact envSub.nil | refine envSub.cons ?_ ?_)) <;> first | rfl | (refine congrArg some ?_; refine congrArg (Value.int _) ?_; first | omega | (dsimp only; omega)) | (simp; done) | (refine congrArg some ?_; dsimp only; congr 1; omega) | (simp; omega)) ⟨(by rw [e2]; exact (Mem.nilOwn M 5 1).sel (by first | ((repeat (first | with_reducible exact Sel.refl | with_reducible exact Sel.nil | with_reducible exact Del.here | with_reducible apply Del.there | with_reducible apply Sel.cons | with_reducible apply Sel.drop)); done) | (repeat (first | exact Sel.refl | exact Sel.nil | exact Del.here | apply Del.there | apply Sel.cons | apply Sel.drop)))), trivial⟩
            clear M; rintro (⟨A5, k5⟩) w ⟨M, -⟩; dsimp only at M ⊢
            refine W.sub [(4, _), (7, _), (9, _), (10, _), (39, _), (40, _)] (.cons rfl (.cons rfl (.cons rfl (.cons rfl (.cons rfl (.cons rfl .nil)))))) ?_
            unfold OT.L OT.row at M
            (try dsimp only at M)
            have hP : posN (OT.s ⟨g, most2, A, cap, cs, gi, made, begun, was⟩).l (stepC r).id = posC cs (stepC r).id := (posC_key ..).symm
            have hbad : stepBad r (OT.s ⟨g, most2, A, cap, cs, gi, made, begun, was⟩).l → loadT b = none := fun hb => loadT_none hH (by rw [← hN, hnk]; exact loadN_bad hb)
            refine W.seq ?_
            refine W.seq ?_
            refine W.region ?_
            refine WL.move rfl rfl ?_
            refine WL.call Try.call40 rfl (rdErr2 M (by first | ((repeat (first | with_reducible exact Del.here | with_reducible apply Del.there)); done) | (repeat (first | exact Del.here | apply Del.there)))) rfl ?_
            rintro _ w ⟨rfl, M⟩
            refine WL.neI rfl rfl rfl ?_
            refine WL.moveIf rfl rfl (fun c6 => ?_) (fun c6 => ?_)
            · refine WL.off rfl rfl rfl rfl ?_
              refine WL.off rfl rfl rfl rfl ?_
              refine WL.pickT rfl rfl rfl ?_
              refine WL.move rfl rfl ?_
              refine WL.off rfl rfl rfl rfl ?_
              refine WL.off rfl rfl rfl rfl ?_
              refine WL.off rfl rfl rfl rfl ?_
              refine WL.pickT rfl rfl rfl ?_
              refine WL.move rfl rfl ?_
              refine WL.off rfl rfl rfl rfl ?_
              refine WL.off rfl rfl rfl rfl ?_
              refine WL.off rfl rfl rfl rfl ?_
              refine WL.off rfl rfl rfl rfl ?_
              refine WL.off rfl rfl rfl rfl ?_
              refine WL.pickT rfl rfl rfl ?_
              refine WL.nil ?_
              refine WX.next ?_
              refine W.sub [(4, _), (7, _), (9, _), (39, _), (40, _), (77, _)] (.cons rfl (.cons rfl (.cons rfl (.cons rfl (.cons rfl (.cons rfl .nil)))))) ?_
              refine W.condT rfl ?_
              refine W.seq ?_
              refine W.region ?_
              refine WL.assign rfl rfl ?_
              refine WL.assign rfl rfl ?_
              refine WL.nil ?_
              refine WX.next ?_
              refine W.sub [(2, _), (3, _)] (.cons rfl (.cons rfl .nil)) ?_
              refine W.ret ?_
              refine WX.thenRet ?_
              refine WX.blockRet ?_
              refine WX.thenRet ?_
              refine WX.thenRet ?_
              refine WX.blockRet ?_
              refine WX.thenRet ?_
              refine WX.ret2 rfl rfl rfl ?_
              have hbd : stepBad r (OT.s ⟨g, most2, A, cap, cs, gi, made, begun, was⟩).l := by
                unfold stepBad
                first
                | exact .inl c6
                | omega
                | (have h7 := atI_ge (by omega : 0 ≤ atI cs.length (posC cs (stepC r).id)); omega)
              exact .inl ⟨hbad hbd, rfl, M.sel (by first | ((repeat (first | with_reducible exact Sel.refl | with_reducible exact Sel.nil | with_reducible exact Del.here | with_reducible apply Del.there | with_reducible apply Sel.cons | with_reducible apply Sel.drop)); done) | (repeat (first | exact Sel.refl | exact Sel.nil | exact Del.here | apply Del.there | apply Sel.cons | apply Sel.drop)))⟩
            · refine WL.on rfl rfl ?_
              refine WL.move rfl rfl ?_
              refine WL.on rfl rfl ?_
              refine WL.gtr rfl rfl rfl ?_
              refine WL.pickF rfl rfl rfl ?_
              refine WL.moveIf rfl rfl (fun c7 => ?_) (fun c7 => ?_)
              · refine WL.off rfl rfl rfl rfl ?_
                refine WL.off rfl rfl rfl rfl ?_
                refine WL.off rfl rfl rfl rfl ?_
                refine WL.pickT rfl rfl rfl ?_
                refine WL.move rfl rfl ?_
                refine WL.off rfl rfl rfl rfl ?_
                refine WL.off rfl rfl rfl rfl ?_
                refine WL.off rfl rfl rfl rfl ?_
                refine WL.off rfl rfl rfl rfl ?_
                refine WL.off rfl rfl rfl rfl ?_
                refine WL.pickT rfl rfl rfl ?_
                refine WL.nil ?_
                refine WX.next ?_
                refine W.sub [(4, _), (7, _), (9, _), (39, _), (40, _), (77, _)] (.cons rfl (.cons rfl (.cons rfl (.cons rfl (.cons rfl (.cons rfl .nil)))))) ?_
                refine W.condT rfl ?_
                refine W.seq ?_
                refine W.region ?_
                refine WL.assign rfl rfl ?_
                refine WL.assign rfl rfl ?_
                refine WL.nil ?_
                refine WX.next ?_
                refine W.sub [(2, _), (3, _)] (.cons rfl (.cons rfl .nil)) ?_
                refine W.ret ?_
                refine WX.thenRet ?_
                refine WX.blockRet ?_
                refine WX.thenRet ?_
                refine WX.thenRet ?_
                refine WX.blockRet ?_
                refine WX.thenRet ?_
                refine WX.ret2 rfl rfl rfl ?_
                have hbd : stepBad r (OT.s ⟨g, most2, A, cap, cs, gi, made, begun, was⟩).l := by
                  unfold stepBad
                  first
                  | exact .inl c6
                  | omega
                  | (have h7 := atI_ge (by omega : 0 ≤ atI cs.length (posC cs (stepC r).id)); omega)
                exact .inl ⟨hbad hbd, rfl, M.sel (by first | ((repeat (first | with_reducible exact Sel.refl | with_reducible exact Sel.nil | with_reducible exact Del.here | with_reducible apply Del.there | with_reducible apply Sel.cons | with_reducible apply Sel.drop)); done) | (repeat (first | exact Sel.refl | exact Sel.nil | exact Del.here | apply Del.there | apply Sel.cons | apply Sel.drop)))⟩
              · refine WL.on rfl rfl ?_
                refine WL.fieldR (off := 1) Try.underlying45 rfl rfl Try.sizeOf29 rfl rfl rfl ?_
                refine WL.on rfl rfl ?_
                refine WL.loadR Try.isAgg29 rfl M (by first | ((repeat (first | with_reducible exact Has.here | with_reducible refine Has.there ?_)); done) | (repeat (first | exact Has.here | refine Has.there ?_))) rfl rfl ?_
                refine WL.on rfl rfl ?_
                refine WL.eqI rfl rfl rfl ?_
                refine WL.pickF rfl rfl rfl ?_
                refine WL.moveIf rfl rfl (fun c8 => ?_) (fun c8 => ?_)
                · refine WL.off rfl rfl rfl rfl ?_
                  refine WL.off rfl rfl rfl rfl ?_
                  refine WL.off rfl rfl rfl rfl ?_
                  refine WL.off rfl rfl rfl rfl ?_
                  refine WL.off rfl rfl rfl rfl ?_
                  refine WL.pickT rfl rfl rfl ?_
                  refine WL.nil ?_
                  refine WX.next ?_
                  refine W.sub [(4, _), (7, _), (9, _), (39, _), (40, _), (77, _)] (.cons rfl (.cons rfl (.cons rfl (.cons rfl (.cons rfl (.cons rfl .nil)))))) ?_
                  refine W.condT rfl ?_
                  refine W.seq ?_
                  refine W.region ?_
                  refine WL.assign rfl rfl ?_
                  refine WL.assign rfl rfl ?_
                  refine WL.nil ?_
                  refine WX.next ?_
                  refine W.sub [(2, _), (3, _)] (.cons rfl (.cons rfl .nil)) ?_
                  refine W.ret ?_
                  refine WX.thenRet ?_
                  refine WX.blockRet ?_
                  refine WX.thenRet ?_
                  refine WX.thenRet ?_
                  refine WX.blockRet ?_
                  refine WX.thenRet ?_
                  refine WX.ret2 rfl rfl rfl ?_
                  have hbd : stepBad r (OT.s ⟨g, most2, A, cap, cs, gi, made, begun, was⟩).l := by
                    unfold stepBad
                    first
                    | exact .inl c6
                    | omega
                    | (have h7 := atI_ge (by omega : 0 ≤ atI cs.length (posC cs (stepC r).id)); omega)
                  exact .inl ⟨hbad hbd, rfl, M.sel (by first | ((repeat (first | with_reducible exact Sel.refl | with_reducible exact Sel.nil | with_reducible exact Del.here | with_reducible apply Del.there | with_reducible apply Sel.cons | with_reducible apply Sel.drop)); done) | (repeat (first | exact Sel.refl | exact Sel.nil | exact Del.here | apply Del.there | apply Sel.cons | apply Sel.drop)))⟩
                · refine WL.on rfl rfl ?_
                  refine WL.move rfl rfl ?_
                  refine WL.on rfl rfl ?_
                  refine WL.fieldR (off := 0) Try.underlying45 rfl rfl Try.sizeOf29 rfl rfl rfl ?_
                  refine WL.on rfl rfl ?_
                  refine WL.loadR Try.isAgg29 rfl M (by first | ((repeat (first | with_reducible exact Has.here | with_reducible refine Has.there ?_)); done) | (repeat (first | exact Has.here | refine Has.there ?_))) rfl rfl ?_
                  refine WL.on rfl rfl ?_
                  refine WL.call Try.call30 rfl (find_ok ⟨g, most2, A, cap, cs, gi, made, begun, was⟩ (by dsimp only; omega) hU hok.made (stepC r).id w0 w _ (M.sel (K := OT.L ⟨g, most2, A, cap, cs, gi, made, begun, was⟩ ++ [rdRow gr A' cap' (stepS r), Asr.own 5 1 A5 (stepC r).rep.length k5 (bs (stepC r).rep), Asr.row g9_3 45 [.int .u64 ((stepC r).id : Int), .int .u64 ((stepC r).num : Int), .bool (stepC r).busy, .slice A5 (stepC r).rep.length k5], Asr.own 5 1 A' b.length cap' (bs b)]) (by first | ((repeat (first | with_reducible exact Sel.refl | with_reducible exact Sel.nil | with_reducible exact Del.here | with_reducible apply Del.there | with_reducible apply Sel.cons | with_reducible apply Sel.drop)); done) | (repeat (first | exact Sel.refl | exact Sel.nil | exact Del.here | apply Del.there | apply Sel.cons | apply Sel.drop))))) rfl ?_
                  rintro _ w ⟨rfl, ⟨pm, hpm⟩, M⟩
                  dsimp only
                  unfold OT.L OT.row at M
                  simp only [List.cons_append, List.nil_append] at M
                  (try dsimp only at M)
                  refine WL.on rfl rfl ?_
                  refine WL.geq rfl rfl rfl ?_
                  refine WL.pickF rfl rfl rfl ?_
                  refine WL.nil ?_
                  refine WX.next ?_
                  refine W.sub [(4, _), (7, _), (9, _), (39, _), (40, _), (77, _)] (.cons rfl (.cons rfl (.cons rfl (.cons rfl (.cons rfl (.cons rfl .nil)))))) ?_
                  refine W.ite rfl (fun c9 => ?_) (fun c9 => ?_)
                  · refine W.seq ?_
                    refine W.region ?_
                    refine WL.assign rfl rfl ?_
                    refine WL.assign rfl rfl ?_
                    refine WL.nil ?_
                    refine WX.next ?_
                    refine W.sub [(2, _), (3, _)] (.cons rfl (.cons rfl .nil)) ?_
                    refine W.ret ?_
                    refine WX.thenRet ?_
                    refine WX.blockRet ?_
                    refine WX.thenRet ?_
                    refine WX.thenRet ?_
                    refine WX.blockRet ?_
                    refine WX.thenRet ?_
                    refine WX.ret2 rfl rfl rfl ?_
                    have hbd : stepBad r (OT.s ⟨g, most2, A, cap, cs, gi, made, begun, was⟩).l := by
                      unfold stepBad
                      first
                      | exact .inl c6
                      | omega
                      | (have h7 := atI_ge (by omega : 0 ≤ atI cs.length (posC cs (stepC r).id)); omega)
                    exact .inl ⟨hbad hbd, rfl, M.sel (by first | ((repeat (first | with_reducible exact Sel.refl | with_reducible exact Sel.nil | with_reducible exact Del.here | with_reducible apply Del.there | with_reducible apply Sel.cons | with_reducible apply Sel.drop)); done) | (repeat (first | exact Sel.refl | exact Sel.nil | exact Del.here | apply Del.there | apply Sel.cons | apply Sel.drop)))⟩
                  · have h7 : ¬ posC cs (stepC r).id < cs.length := atI_no (by omega)
                    have hnb : ¬ stepBad r (OT.s ⟨g, most2, A, cap, cs, gi, made, begun, was⟩).l := by
                      unfold stepBad
                      omega
                    have hCok := stepC_ok hrok hnb
                    refine W.skip ?_
                    refine WX.next ?_
                    refine W.region ?_
                    refine WL.move rfl rfl ?_
                    refine WL.loadW Try.isAgg45 Try.sizeOf45 rfl M (by first | ((repeat (first | with_reducible exact Has.here | with_reducible refine Has.there ?_)); done) | (repeat (first | exact Has.here | refine Has.there ?_))) rfl rfl ?_
                    refine WL.call Try.call31 rfl (useEnd_ok g gi most2 A cap cs _ _ (by omega) ⟨(stepC r).id, (stepC r).num, (stepC r).busy, A5, k5, (stepC r).rep⟩ w0 w _ (M.sel (K := Asr.row g 88 [.int .i64 (most2 : Int), .slice A cs.length cap, .pointer (some ⟨gi, 0, none⟩), .int .i64 (begun : Int), .int .i64 (was : Int)] :: Asr.lst clientE A cap cs :: Asr.star (cs.map ClX.O) :: Asr.own 5 1 A5 (stepC r).rep.length k5 (bs (stepC r).rep) :: rdRow gr A' cap' (stepS r) :: Asr.own 5 1 A' b.length cap' (bs b) :: []) (by first | ((repeat (first | with_reducible exact Sel.refl | with_reducible exact Sel.nil | with_reducible exact Del.here | with_reducible apply Del.there | with_reducible apply Sel.cons | with_reducible apply Sel.drop)); done) | (repeat (first | exact Sel.refl | exact Sel.nil | exact Del.here | apply Del.there | apply Sel.cons | apply Sel.drop))))) rfl ?_
                    rintro _ w ⟨rfl, A2, cap2, gi2, M⟩
                    refine WL.nil ?_
                    refine WX.blockNormal ?_
                    refine WX.next ?_
                    refine W.sub [(4, _), (7, _), (39, _), (40, _)] (.cons rfl (.cons rfl (.cons rfl (.cons rfl .nil)))) ?_
                    refine W.region ?_
                    refine WL.add rfl rfl (by first | exact wU64 (by omega) | exact mU64 _ | rfl) rfl ?_
                    refine WL.move rfl rfl ?_
                    refine WL.nil ?_
                    skip
                    obtain ⟨c9x, hc9⟩ : ∃ c : ClX, c = ⟨(stepC r).id, (stepC r).num, (stepC r).busy, A5, k5, (stepC r).rep⟩ := ⟨_, rfl⟩
                    rw [← hc9] at M
                    have hkey : c9x.key = stepC r := by rw [hc9]; rfl
                    have hmap : (cs ++ [c9x]).map ClX.key = cs.map ClX.key ++ [stepC r] := by rw [List.map_append, List.map_cons, hkey]; rfl
                    have M5 := Mem.starSnoc (M.sel (K := Asr.own 5 1 A5 (stepC r).rep.length k5 (bs (stepC r).rep) :: Asr.star (cs.map ClX.O) :: Asr.row g 88 [.int .i64 (most2 : Int), .slice A2 (cs ++ [c9x]).length cap2, .pointer (some ⟨gi2, 0, none⟩), .int .i64 (begun : Int), .int .i64 (was : Int)] :: Asr.lst clientE A2 cap2 (cs ++ [c9x]) :: Asr.star (ixL gi2 none) :: rdRow gr A' cap' (stepS r) :: Asr.own 5 1 A' b.length cap' (bs b) :: []) (by first | ((repeat (first | with_reducible exact Sel.refl | with_reducible exact Sel.nil | with_reducible exact Del.here | with_reducible apply Del.there | with_reducible apply Sel.cons | with_reducible apply Sel.drop)); done) | (repeat (first | exact Sel.refl | exact Sel.nil | exact Del.here | apply Del.there | apply Sel.cons | apply Sel.drop))))
                    rw [show cs.map ClX.O ++ [Asr.own 5 1 A5 (stepC r).rep.length k5 (bs (stepC r).rep)] = (cs ++ [c9x]).map ClX.O by rw [List.map_append, hc9]; rfl] at M5
                    have hT2 : OT.s ⟨g, most2, A2, cap2, cs ++ [c9x], gi2, none, begun, was⟩ = ⟨most2, cs.map ClX.key ++ [stepC r], begun, was⟩ := by unfold OT.s; rw [hmap]
                    have hokt : Tb.ok ⟨most2, cs.map ClX.key ++ [stepC r], begun, was⟩ := ok_snoc hok.s hCok (fun hm => by have h9 := posN_lt hm; rw [hP] at h9; rw [show (OT.s ⟨g, most2, A, cap, cs, gi, made, begun, was⟩).l.length = cs.length from List.length_map ..] at h9; omega) (by rw [hxl]; show k < most2; omega) _ _
                    refine WX.round ((k + 1, (stepS r, ⟨g, most2, A2, cap2, cs ++ [c9x], gi2, none, begun, was⟩))) (by (repeat' (first | exact envSub.nil | refine envSub.cons ?_ ?_)) <;> first | rfl | (refine congrArg some ?_; refine congrArg (Value.int _) ?_; first | omega | (dsimp only; omega)) | (simp; done) | (refine congrArg some ?_; dsimp only; congr 1; omega) | (simp; omega)) ⟨(by unfold OT.L OT.row; exact M5.sel (by first | ((repeat (first | with_reducible exact Sel.refl | with_reducible exact Sel.nil | with_reducible exact Del.here | with_reducible apply Del.there | with_reducible apply Sel.cons | with_reducible apply Sel.drop)); done) | (repeat (first | exact Sel.refl | exact Sel.nil | exact Del.here | apply Del.there | apply Sel.cons | apply Sel.drop)))), ⟨⟨by dsimp only; omega, stepS_ok hrok, (stepS_b r).trans hrb⟩, ⟨⟨by rw [hT2]; exact hokt, fun q hq => by cases hq⟩, by dsimp only; rw [hT2, hbg, hwas], by dsimp only; rw [hT2]; simp; omega⟩, by dsimp only; rw [hT2, ← hN, hnk, loadN_on hnb]; rfl⟩⟩ (by first | omega | (dsimp only; omega))
          · refine W.exit ?_
            refine WX.thenExit ?_
            refine WX.thenExit ?_
            refine WX.blockHere ?_
            refine WX.next ?_
            refine W.seq ?_
            refine W.seq ?_
            refine W.region ?_
            refine WL.move rfl rfl ?_
            refine WL.call Try.call42 rfl (rdLeft2 M (by first | ((repeat (first | with_reducible exact Del.here | with_reducible apply Del.there)); done) | (repeat (first | exact Del.here | apply Del.there))) hrok) rfl ?_
            rintro _ w ⟨rfl, M⟩
            obtain rfl : k = n := by omega
            have hS := loadT_some hH (r := r) (l := (OT.s ⟨g, most2, A, cap, cs, gi, made, begun, was⟩).l) (by rw [← hN, Nat.sub_self]; rfl)
            refine WL.gtr rfl rfl rfl ?_
            refine WL.nil ?_
            refine WX.next ?_
            refine W.sub [(7, _), (84, _)] (.cons rfl (.cons rfl .nil)) ?_
            refine W.ite rfl (fun c10 => ?_) (fun c10 => ?_)
            · refine W.seq ?_
              refine W.region ?_
              refine WL.assign rfl rfl ?_
              refine WL.assign rfl rfl ?_
              refine WL.nil ?_
              refine WX.next ?_
              refine W.sub [(2, _), (3, _)] (.cons rfl (.cons rfl .nil)) ?_
              refine W.ret ?_
              refine WX.thenRet ?_
              refine WX.ret2 rfl rfl rfl ?_
              exact .inl ⟨by rw [hS, if_pos (by omega)], rfl, M.sel (by first | ((repeat (first | with_reducible exact Sel.refl | with_reducible exact Sel.nil | with_reducible exact Del.here | with_reducible apply Del.there | with_reducible apply Sel.cons | with_reducible apply Sel.drop)); done) | (repeat (first | exact Sel.refl | exact Sel.nil | exact Del.here | apply Del.there | apply Sel.cons | apply Sel.drop)))⟩
            · refine W.skip ?_
              refine WX.next ?_
              refine W.seq ?_
              refine W.region ?_
              refine WL.move rfl rfl ?_
              refine WL.assign rfl rfl ?_
              refine WL.assign rfl rfl ?_
              refine WL.nil ?_
              refine WX.next ?_
              refine W.sub [(2, _), (3, _)] (.cons rfl (.cons rfl .nil)) ?_
              refine W.ret ?_
              refine WX.ret2 rfl rfl rfl ?_
              refine .inr ⟨⟨g, most2, A, cap, cs, gi, made, begun, was⟩, ?_, rfl, hok, ?_⟩
              · rw [hS, if_neg (by omega), eH, hxs]
              · unfold OT.L OT.row
                exact M.sel (by first | ((repeat (first | with_reducible exact Sel.refl | with_reducible exact Sel.nil | with_reducible exact Del.here | with_reducible apply Del.there | with_reducible apply Sel.cons | with_reducible apply Sel.drop)); done) | (repeat (first | exact Sel.refl | exact Sel.nil | exact Del.here | apply Del.there | apply Sel.cons | apply Sel.drop)))
end Go.Proofs.Ytmogpoghngmnmaa
