/-
  Law: five nodes with copies of four chunks of six blocks; what was written last; nodes go and come, copies are made.
-/
import Derived.Test.YtcmlehggfkjagaaHeal4
namespace Go.Proofs.Ytcmlehggfkjagaa
open Go Go.RowKit

def cOf (b : Nat) : Nat := b / 12 * 2 + b % 12 / 3 % 2
def aOf (b : Nat) : Nat := b % 12 / 3 / 2 * 3 + b % 12 % 3
theorem cOf_lt {b : Nat} (h : b < 24) : cOf b < 4 := by unfold cOf; omega
theorem aOf_lt (b : Nat) : aOf b < 6 := by unfold aOf; omega
theorem where_one {a b : Nat} (ha : a < 24) (hb : b < 24) (hc : cOf a = cOf b) (h : aOf a = aOf b) : a = b := by unfold cOf aOf at *; omega
/-- Where a copy's block stands. -/
def cAt (x c a : Nat) : Nat := 24 * x + 6 * c + a
theorem cAt_lt {x c a : Nat} (hx : x < 5) (hc : c < 4) (ha : a < 6) : cAt x c a < 120 := by unfold cAt; omega
theorem cAt_one {x c a y d b : Nat} (hc : c < 4) (ha : a < 6) (hd : d < 4) (hb : b < 6) (h : cAt x c a = cAt y d b) : x = y ∧ c = d ∧ a = b := by unfold cAt at h; omega

/-- The farm: each copy has what was written last. -/
structure Farm (up : Nat) (ps : List Pl) (cp want : List UInt8) (lost : List Bool) : Prop where
  ups : up < 32
  cpl : cp.length = 120
  wl : want.length = 24
  ll : lost.length = 4
  pl : ps.length = 4
  chunk : ∀ c, c < 4 → (el ps c).chunk = (c : Int)
  sorted : ∀ c, c < 4 → (el ps c).nodes.Pairwise (· < ·)
  nodes : ∀ c, c < 4 → ∀ x ∈ (el ps c).nodes, 0 ≤ x ∧ x < 5 ∧ hUp up x = true
  gone : ∀ c, c < 4 → (el lost c = true ↔ (el ps c).nodes = [])
  same : ∀ b, b < 24 → ∀ x ∈ (el ps (cOf b)).nodes, el cp (cAt x.toNat (cOf b) (aOf b)) = el want b

section
variable {up : Nat} {ps : List Pl} {cp want : List UInt8} {lost : List Bool}
theorem Farm.formed (F : Farm up ps cp want lost) : Formed ps ((5 : Nat) : Int) := by
  have hmem : ∀ p ∈ ps, ∃ k, k < 4 ∧ el ps k = p := by
    intro q hq
    obtain ⟨k, hk, e⟩ := List.getElem_of_mem hq
    exact ⟨k, by have := F.pl; omega, by simp [el, hk, e]⟩
  refine ⟨fun p hp => ?_, ?_, fun p hp => ?_, by have := F.pl; omega⟩
  · obtain ⟨k, hk, rfl⟩ := hmem p hp
    exact ⟨F.sorted k hk, fun x hx => ⟨(F.nodes k hk x hx).1, (F.nodes k hk x hx).2.1⟩⟩
  · rw [List.pairwise_iff_getElem]
    intro i j hi hj hij
    rw [List.getElem_map, List.getElem_map]
    have hpl := F.pl
    rw [List.length_map] at hi hj
    have h1 := F.chunk i (by omega)
    have h2 := F.chunk j (by omega)
    rw [show el ps i = ps[i] by simp [el, hi]] at h1
    rw [show el ps j = ps[j] by simp [el, hj]] at h2
    omega
  · obtain ⟨k, hk, rfl⟩ := hmem p hp
    rw [F.chunk k hk]
    omega

/-- A move's copy. -/
def cpMove (cp : List UInt8) (f t c : Nat) : List UInt8 := cp.take (cAt t c 0) ++ (cp.drop (cAt f c 0)).take 6 ++ cp.drop (cAt t c 0 + 6)
theorem cpMove_length {f t c : Nat} (h : cp.length = 120) (hf : f < 5) (ht : t < 5) (hc : c < 4) : (cpMove cp f t c).length = 120 := by
  have h1 := cAt_lt hf hc (a := 5) (by omega)
  have h2 := cAt_lt ht hc (a := 5) (by omega)
  unfold cpMove cAt at *
  simp
  omega
theorem el_cpMove {f t c : Nat} (h : cp.length = 120) (hf : f < 5) (ht : t < 5) (hc : c < 4) (i : Nat) :
    el (cpMove cp f t c) i = if cAt t c 0 ≤ i ∧ i < cAt t c 0 + 6 then el cp (cAt f c (i - cAt t c 0)) else el cp i := by
  have h1 := cAt_lt hf hc (a := 5) (by omega)
  have h2 := cAt_lt ht hc (a := 5) (by omega)
  have l1 : (cp.take (cAt t c 0)).length = cAt t c 0 := by rw [List.length_take]; unfold cAt at *; omega
  have l2 : ((cp.drop (cAt f c 0)).take 6).length = 6 := by rw [List.length_take, List.length_drop]; unfold cAt at *; omega
  unfold cpMove el
  split
  · rename_i hi
    rw [List.append_assoc, List.getElem?_append_right (by omega), l1, List.getElem?_append_left (by omega), List.getElem?_take, if_pos (by omega), List.getElem?_drop]
    congr 2
  · rename_i hi
    congr 1
    rcases Nat.lt_or_ge i (cAt t c 0) with h3 | h3
    · rw [List.append_assoc, List.getElem?_append_left (by omega), List.getElem?_take, if_pos h3]
    · rw [List.getElem?_append_right (by rw [List.length_append]; omega), List.length_append, l1, l2, List.getElem?_drop]
      congr 1
      omega
theorem Farm.at_ (F : Farm up ps cp want lost) {m : Mv} (hm : mayM ps m) : ∃ c : Nat, c < 4 ∧ m.chunk = (c : Int) ∧ atP ps m.chunk = c := by
  have h1 := atP_chunk hm.1
  have hpl := F.pl
  have h2 := hm.1
  refine ⟨atP ps m.chunk, by omega, ?_, rfl⟩
  rw [← F.chunk _ (by omega)]
  exact h1.symm
theorem Farm.from_ (F : Farm up ps cp want lost) {m : Mv} (hm : mayM ps m) : ∃ f : Nat, f < 5 ∧ m.from_ = (f : Int) := by
  obtain ⟨c, hc, e1, e2⟩ := F.at_ hm
  have h := hm.2.2.2.2.1
  rw [e2] at h
  have := F.nodes c hc _ h
  exact ⟨m.from_.toNat, by omega, by omega⟩
theorem Farm.move (F : Farm up ps cp want lost) {m : Mv} (hm : mayM ps m) (ht : 0 ≤ m.to_ ∧ m.to_ < 5 ∧ hUp up m.to_ = true) : Farm up (doM ps m) (cpMove cp m.from_.toNat m.to_.toNat m.chunk.toNat) want lost := by
  obtain ⟨k, hk, e1, e2⟩ := F.at_ hm
  obtain ⟨f, hf, ef⟩ := F.from_ hm
  obtain ⟨t, et⟩ : ∃ t : Nat, m.to_ = (t : Int) := ⟨m.to_.toNat, by omega⟩
  have hpl := F.pl
  obtain ⟨hat, _, _, _, hfm, htn⟩ := hm
  rw [e2] at hat hfm htn
  have hch := F.chunk k hk
  have hmv : doM ps m = ps.set k ⟨(k : Int), insI m.to_ (el ps k).nodes⟩ := by
    unfold doM
    rw [e2]
    unfold moveP
    rw [if_neg (by omega), hch]
  have hel : ∀ c, el (ps.set k ⟨(k : Int), insI m.to_ (el ps k).nodes⟩) c = if c = k then ⟨(k : Int), insI m.to_ (el ps k).nodes⟩ else el ps c := fun c => by
    rw [el_set _ _ _ _ hat]
    by_cases e : c = k
    · rw [if_pos e, if_pos e.symm]
    · rw [if_neg e, if_neg (fun h => e h.symm)]
  have h5 : t < 5 := by omega
  rw [hmv, e1, ef, et]
  simp only [Int.toNat_natCast]
  rw [et] at hel htn ht
  refine ⟨F.ups, cpMove_length F.cpl hf h5 hk, F.wl, F.ll, by rw [List.length_set]; exact hpl, fun c hc => ?_, fun c hc => ?_, fun c hc x hx => ?_, fun c hc => ?_, fun b hb x hx => ?_⟩
  · rw [hel]
    split
    · rename_i e; rw [e]
    · exact F.chunk c hc
  · rw [hel]
    split
    · exact insI_sorted (F.sorted k hk) htn
    · exact F.sorted c hc
  · rw [hel] at hx
    split at hx
    · rcases insI_mem.1 hx with rfl | hx
      · exact ht
      · exact F.nodes k hk x hx
    · exact F.nodes c hc x hx
  · rw [hel]
    split
    · rename_i e
      subst e
      have h1 : (el ps c).nodes ≠ [] := by intro e; rw [e] at hfm; cases hfm
      have h2 : insI (t : Int) (el ps c).nodes ≠ [] := by
        intro e
        have : (t : Int) ∈ insI (t : Int) (el ps c).nodes := insI_mem.2 (.inl rfl)
        rw [e] at this
        cases this
      have := F.gone c hc
      simp only [h1, iff_false] at this
      simp [h2, this]
    · exact F.gone c hc
  · have hb4 := cOf_lt hb
    have ha6 := aOf_lt b
    rw [hel] at hx
    rw [el_cpMove F.cpl hf h5 hk]
    split at hx
    · rename_i e
      rw [e] at hb4 ⊢
      rcases insI_mem.1 hx with rfl | hx
      · rw [Int.toNat_natCast, if_pos (by unfold cAt; omega)]
        have := F.same b hb m.from_ (by rw [e]; exact hfm)
        rw [ef, Int.toNat_natCast, e] at this
        rw [← this]
        congr 2
        unfold cAt
        omega
      · have hx2 := F.nodes k hk x hx
        have hxt : x ≠ (t : Int) := fun e => htn (e ▸ hx)
        rw [if_neg (by unfold cAt; omega)]
        have := F.same b hb x (by rw [e]; exact hx)
        rwa [e] at this
    · rename_i e
      have hx2 := F.nodes _ hb4 x hx
      rw [if_neg (by unfold cAt; omega)]
      exact F.same b hb x hx
/-- All are healed. -/
theorem twoUp : ∀ up : Fin 32, up.val &&& ((up.val + 4294967295) % 4294967296) ≠ 0 → ∃ a : Fin 5, ∃ b : Fin 5, a < b ∧ up.val / 2 ^ a.val % 2 = 1 ∧ up.val / 2 ^ b.val % 2 = 1 := by decide +kernel
theorem Farm.healed (F : Farm up ps cp want lost) (h : ∀ c, c < 4 → Full up 5 2 (el ps c).nodes) (h2 : up &&& ((up + 4294967295) % 4294967296) ≠ 0) {c : Nat} (hc : c < 4) (hl : el lost c = false) : 2 ≤ (el ps c).nodes.length := by
  have hlive : hLive up (el ps c).nodes = (el ps c).nodes := List.filter_eq_self.2 fun x hx => (F.nodes c hc x hx).2.2
  have hne : (el ps c).nodes ≠ [] := fun e => by
    have := (F.gone c hc).2 e
    rw [hl] at this
    cases this
  have h3 := h c hc
  unfold Full at h3
  rw [hlive] at h3
  rcases h3 with h3 | h3 | h3
  · exact absurd (List.eq_nil_of_length_eq_zero h3) hne
  · exact h3
  · obtain ⟨a, b, hab, ha, hb⟩ := twoUp ⟨up, F.ups⟩ h2
    have ma := h3 (a.val : Int) (by omega) (by omega) (by unfold hUp; rw [Int.toNat_natCast]; exact decide_eq_true ha)
    have mb := h3 (b.val : Int) (by omega) (by omega) (by unfold hUp; rw [Int.toNat_natCast]; exact decide_eq_true hb)
    have hab' : (a.val : Int) ≠ (b.val : Int) := by have : a.val < b.val := hab; omega
    match hn : (el ps c).nodes with
    | [] => exact absurd hn hne
    | [x] =>
      rw [hn] at ma mb
      simp only [List.mem_singleton] at ma mb
      omega
    | _ :: _ :: _ => simp
/-- A node is gone, with all that it had. -/
def goneP (ps : List Pl) (n : Int) : List Pl := ps.map fun p => ⟨p.chunk, p.nodes.filter fun x => decide (x ≠ n)⟩
def cpGone (cp : List UInt8) (n : Nat) : List UInt8 := cp.take (24 * n) ++ List.replicate 24 0 ++ cp.drop (24 * n + 24)
def upGone (up n : Nat) : Nat := if up / 2 ^ n % 2 = 1 then up - 2 ^ n else up
theorem upGone_is : ∀ up : Fin 32, ∀ n : Fin 5, upGone up.val n.val < 32 ∧ ∀ x : Fin 5, x ≠ n → up.val / 2 ^ x.val % 2 = 1 → upGone up.val n.val / 2 ^ x.val % 2 = 1 := by decide +kernel
theorem el_goneP (F : Farm up ps cp want lost) (n : Int) {c : Nat} (hc : c < 4) : el (goneP ps n) c = ⟨(el ps c).chunk, (el ps c).nodes.filter fun x => decide (x ≠ n)⟩ := by
  have hpl := F.pl
  have h1 : c < ps.length := by omega
  simp [goneP, el, h1]
theorem cpGone_length {n : Nat} (h : cp.length = 120) (hn : n < 5) : (cpGone cp n).length = 120 := by unfold cpGone; simp; omega
theorem Farm.goneNow (F : Farm up ps cp want lost) {n : Nat} (hn : n < 5) {lost' : List Bool} (hl : lost'.length = 4) (hg : ∀ c, c < 4 → (el lost' c = true ↔ (el (goneP ps n) c).nodes = [])) : Farm (upGone up n) (goneP ps n) (cpGone cp n) want lost' := by
  obtain ⟨u1, u2⟩ := upGone_is ⟨up, F.ups⟩ ⟨n, hn⟩
  have hmem : ∀ {c : Nat}, c < 4 → ∀ {x : Int}, x ∈ (el (goneP ps n) c).nodes → x ∈ (el ps c).nodes ∧ x ≠ (n : Int) := fun {c} hc {x} hx => by
    rw [el_goneP F n hc] at hx
    have := List.mem_filter.1 hx
    exact ⟨this.1, of_decide_eq_true this.2⟩
  refine ⟨u1, cpGone_length F.cpl hn, F.wl, hl, by unfold goneP; rw [List.length_map]; exact F.pl, fun c hc => by rw [el_goneP F n hc]; exact F.chunk c hc, fun c hc => by rw [el_goneP F n hc]; exact (F.sorted c hc).filter _, fun c hc x hx => ?_, hg, fun b hb x hx => ?_⟩
  · obtain ⟨h1, h2⟩ := hmem hc hx
    obtain ⟨a1, a2, a3⟩ := F.nodes c hc x h1
    refine ⟨a1, a2, ?_⟩
    obtain ⟨y, rfl⟩ : ∃ y : Nat, x = (y : Int) := ⟨x.toNat, by omega⟩
    unfold hUp at a3 ⊢
    rw [Int.toNat_natCast] at a3 ⊢
    exact decide_eq_true (u2 ⟨y, by omega⟩ (by intro e; have := congrArg Fin.val e; dsimp only at this; omega) (of_decide_eq_true a3))
  · obtain ⟨h1, h2⟩ := hmem (cOf_lt hb) hx
    obtain ⟨a1, a2, a3⟩ := F.nodes _ (cOf_lt hb) x h1
    rw [← F.same b hb x h1]
    have hc4 := cOf_lt hb
    have ha6 := aOf_lt b
    obtain ⟨y, rfl⟩ : ∃ y : Nat, x = (y : Int) := ⟨x.toNat, by omega⟩
    rw [Int.toNat_natCast]
    obtain ⟨i, hi⟩ : ∃ i, i = cAt y (cOf b) (aOf b) := ⟨_, rfl⟩
    rw [← hi]
    have hi2 : i < 24 * n ∨ 24 * n + 24 ≤ i := by unfold cAt at hi; omega
    have hcl := F.cpl
    unfold cpGone el
    congr 1
    rcases hi2 with h3 | h3
    · rw [List.append_assoc, List.getElem?_append_left (by rw [List.length_take]; omega), List.getElem?_take, if_pos h3]
    · rw [List.getElem?_append_right (by simp; omega), List.getElem?_drop]
      congr 1
      simp
      omega
/-- What is lost now had one copy at most. -/
theorem Farm.lostOne (F : Farm up ps cp want lost) (n : Int) {c : Nat} (hc : c < 4) (h : (el (goneP ps n) c).nodes = []) : (el ps c).nodes.length ≤ 1 := by
  rw [el_goneP F n hc] at h
  dsimp only at h
  have hs := F.sorted c hc
  match hn : (el ps c).nodes with
  | [] => simp
  | [_] => simp
  | x :: y :: r =>
    rw [hn] at h hs
    rw [List.filter_eq_nil_iff] at h
    have h1 := h x (by simp)
    have h2 := h y (by simp)
    have h3 := (List.pairwise_cons.1 hs).1 y (by simp)
    simp at h1 h2
    omega
/-- A node is there again. -/
theorem upCome_is : ∀ up : Fin 32, ∀ n : Fin 5, (up.val ||| 2 ^ n.val) < 32 ∧ ∀ x : Fin 5, up.val / 2 ^ x.val % 2 = 1 → (up.val ||| 2 ^ n.val) / 2 ^ x.val % 2 = 1 := by decide +kernel
theorem Farm.come (F : Farm up ps cp want lost) {n : Nat} (hn : n < 5) : Farm (up ||| 2 ^ n) ps cp want lost := by
  obtain ⟨u1, u2⟩ := upCome_is ⟨up, F.ups⟩ ⟨n, hn⟩
  refine ⟨u1, F.cpl, F.wl, F.ll, F.pl, F.chunk, F.sorted, fun c hc x hx => ?_, F.gone, F.same⟩
  obtain ⟨a1, a2, a3⟩ := F.nodes c hc x hx
  refine ⟨a1, a2, ?_⟩
  obtain ⟨y, rfl⟩ : ∃ y : Nat, x = (y : Int) := ⟨x.toNat, by omega⟩
  unfold hUp at a3 ⊢
  rw [Int.toNat_natCast] at a3 ⊢
  exact decide_eq_true (u2 ⟨y, by omega⟩ (of_decide_eq_true a3))
/-- A block is written. -/
theorem Farm.write (F : Farm up ps cp want lost) {b : Nat} (hb : b < 24) {v : UInt8} {cp' : List UInt8} (hl : cp'.length = 120) (h1 : ∀ x ∈ (el ps (cOf b)).nodes, el cp' (cAt x.toNat (cOf b) (aOf b)) = v)
    (h2 : ∀ i, (∀ x, x < 5 → i ≠ cAt x (cOf b) (aOf b)) → el cp' i = el cp i) : Farm up ps cp' (if el lost (cOf b) = true then want else want.set b v) lost := by
  refine ⟨F.ups, hl, by split; exact F.wl; rw [List.length_set]; exact F.wl, F.ll, F.pl, F.chunk, F.sorted, F.nodes, F.gone, fun d hd x hx => ?_⟩
  have hwl := F.wl
  have hx2 := F.nodes _ (cOf_lt hd) x hx
  by_cases e : d = b
  · subst e
    rw [if_neg (fun h => by rw [(F.gone _ (cOf_lt hd)).1 h] at hx; cases hx), el_set _ _ _ _ (by omega), if_pos rfl]
    exact h1 x hx
  · rw [h2 _ (fun y hy e2 => e (by
      obtain ⟨_, e3, e4⟩ := cAt_one (cOf_lt hd) (aOf_lt d) (cOf_lt hb) (aOf_lt b) e2
      exact where_one hd hb e3 e4))]
    rw [F.same d hd x hx]
    split
    · rfl
    · rw [el_set _ _ _ _ (by omega), if_neg (fun h => e h.symm)]
end
theorem Seg.to_up {up N copies : Nat} {c : Int} {has : List Int} {ms : List Mv} (h : Seg up N copies c has ms) : ∀ m ∈ ms, 0 ≤ m.to_ ∧ m.to_ < (N : Int) ∧ hUp up m.to_ = true := by
  induction h with
  | stop _ => intro m hm; cases hm
  | step h0 h1 ht hf h ih =>
    intro m hm
    rcases List.mem_cons.1 hm with rfl | hm
    · exact ⟨ht.1, ht.2.1, ht.2.2.1⟩
    · exact ih m hm
theorem PlanR.to_up {up N copies : Nat} : ∀ {ps : List Pl} {ms : List Mv}, PlanR up N copies ps ms → ∀ m ∈ ms, 0 ≤ m.to_ ∧ m.to_ < (N : Int) ∧ hUp up m.to_ = true
  | _, _, .nil, m, hm => by cases hm
  | _, _, .cons h1 h2, m, hm => by
    rcases List.mem_append.1 hm with hm | hm
    · exact h1.to_up m hm
    · exact h2.to_up m hm
end Go.Proofs.Ytcmlehggfkjagaa
