/-
  Law: plans and moves (heal), in plain terms.
-/
import Derived.Test.YtkdkdaljgoibaaaWalk
namespace Go.Proofs.Ytkdkdaljgoibaaa
open Go Go.RowKit

/-- Where copies of a chunk are. -/
structure Pl where
  chunk : Int
  nodes : List Int
instance : Inhabited Pl := ⟨⟨0, []⟩⟩
structure Mv where
  chunk : Int
  from_ : Int
  to_ : Int
instance : Inhabited Mv := ⟨⟨0, 0, 0⟩⟩
/-- Places that may be, of nodes below n. -/
structure Formed (ps : List Pl) (n : Int) : Prop where
  nodes : ∀ p ∈ ps, p.nodes.Pairwise (· < ·) ∧ ∀ x ∈ p.nodes, 0 ≤ x ∧ x < n
  chunks : (ps.map Pl.chunk).Pairwise (· < ·)
  low : ∀ p ∈ ps, 0 ≤ p.chunk
  few : ps.length ≤ 256
/-- A number into a sorted list. -/
def insI (x : Int) : List Int → List Int
  | [] => [x]
  | y :: r => if x < y then x :: y :: r else y :: insI x r
theorem insI_perm (x : Int) : ∀ l, (insI x l).Perm (x :: l)
  | [] => List.Perm.refl _
  | y :: r => by
    unfold insI
    split
    · exact List.Perm.refl _
    · exact ((insI_perm x r).cons y).trans (List.Perm.swap x y r)
theorem insI_sorted {x : Int} : ∀ {l : List Int}, l.Pairwise (· < ·) → x ∉ l → (insI x l).Pairwise (· < ·)
  | [], _, _ => by simp [insI]
  | y :: r, h, hx => by
    unfold insI
    obtain ⟨h1, h2⟩ := List.pairwise_cons.1 h
    split
    · rename_i hlt
      refine List.pairwise_cons.2 ⟨fun z hz => ?_, h⟩
      rcases List.mem_cons.1 hz with rfl | hz
      · exact hlt
      · have := h1 z hz; omega
    · rename_i hlt
      have hxy : x ≠ y := fun e => hx (by simp [e])
      refine List.pairwise_cons.2 ⟨fun z hz => ?_, insI_sorted h2 fun hm => hx (List.mem_cons_of_mem _ hm)⟩
      rcases List.mem_cons.1 ((insI_perm x r).mem_iff.1 hz) with rfl | hz
      · omega
      · exact h1 z hz
theorem sorted_one {l m : List Int} (hp : l.Perm m) (hl : l.Pairwise (· < ·)) (hm : m.Pairwise (· < ·)) : l = m :=
  List.Perm.eq_of_pairwise (le := fun a b : Int => decide (a ≤ b)) (fun a b _ _ h1 h2 => by simp at h1 h2; omega) (hl.imp fun h => by simp; omega) (hm.imp fun h => by simp; omega) hp
theorem insI_mem {x y : Int} {l : List Int} : y ∈ insI x l ↔ y = x ∨ y ∈ l := by rw [(insI_perm x l).mem_iff, List.mem_cons]

/-- A move, done. -/
def moveP (p : Pl) (m : Mv) : Pl := if m.to_ < 0 then ⟨p.chunk, p.nodes.erase m.from_⟩ else ⟨p.chunk, insI m.to_ p.nodes⟩
def atP (ps : List Pl) (c : Int) : Nat := ps.findIdx fun p => p.chunk == c
/-- May it be done? -/
def mayM (ps : List Pl) (m : Mv) : Prop := atP ps m.chunk < ps.length ∧ 0 ≤ m.from_ ∧ -1 ≤ m.to_ ∧ m.to_ < 4611686018427387904 ∧ m.from_ ∈ (el ps (atP ps m.chunk)).nodes ∧ m.to_ ∉ (el ps (atP ps m.chunk)).nodes
def doM (ps : List Pl) (m : Mv) : List Pl := ps.set (atP ps m.chunk) (moveP (el ps (atP ps m.chunk)) m)
/-- Moves that may be done, one behind the other. -/
def Moves : List Pl → List Mv → List Pl → Prop
  | ps, [], qs => ps = qs
  | ps, m :: r, qs => mayM ps m ∧ Moves (doM ps m) r qs
theorem Moves.append : ∀ {ms : List Mv} {ps : List Pl} {ns : List Mv} {qs : List Pl}, Moves ps (ms ++ ns) qs ↔ ∃ rs, Moves ps ms rs ∧ Moves rs ns qs
  | [], ps, ns, qs => ⟨fun h => ⟨ps, rfl, h⟩, fun ⟨rs, h1, h2⟩ => by cases h1; exact h2⟩
  | m :: ms, ps, ns, qs => by
    show mayM ps m ∧ Moves (doM ps m) (ms ++ ns) qs ↔ ∃ rs, (mayM ps m ∧ Moves (doM ps m) ms rs) ∧ Moves rs ns qs
    rw [Moves.append (ms := ms)]
    exact ⟨fun ⟨h1, rs, h2, h3⟩ => ⟨rs, ⟨h1, h2⟩, h3⟩, fun ⟨rs, ⟨h1, h2⟩, h3⟩ => ⟨h1, rs, h2, h3⟩⟩
theorem Moves.one {ms : List Mv} {ps qs qs' : List Pl} (h : Moves ps ms qs) (h' : Moves ps ms qs') : qs = qs' := by
  induction ms generalizing ps with
  | nil => exact h.symm.trans h'
  | cons m r ih => exact ih h.2 h'.2

/-- Is a node up? -/
def hUp (up : Nat) (n : Int) : Bool := decide (up / 2 ^ n.toNat % 2 = 1)
/-- The copies that are up. -/
def hLive (up : Nat) (has : List Int) : List Int := has.filter (hUp up)
/-- No more copies are made: there is none, enough, or no node is left. -/
def Full (up : Nat) (N : Nat) (copies : Nat) (has : List Int) : Prop := (hLive up has).length = 0 ∨ copies ≤ (hLive up has).length ∨ ∀ n : Int, 0 ≤ n → n < N → hUp up n = true → n ∈ has
/-- The copies that are made of a chunk. -/
inductive Seg (up : Nat) (N : Nat) (copies : Nat) (chunk : Int) : List Int → List Mv → Prop
  | stop {has : List Int} (h : Full up N copies has) : Seg up N copies chunk has []
  | step {has : List Int} {f t : Int} {ms : List Mv} (h0 : (hLive up has).length ≠ 0) (h1 : (hLive up has).length < copies) (ht : 0 ≤ t ∧ t < N ∧ hUp up t = true ∧ t ∉ has) (hf : f ∈ hLive up has)
      (h : Seg up N copies chunk (has ++ [t]) ms) : Seg up N copies chunk has (⟨chunk, f, t⟩ :: ms)
/-- A plan. -/
inductive PlanR (up : Nat) (N : Nat) (copies : Nat) : List Pl → List Mv → Prop
  | nil : PlanR up N copies [] []
  | cons {p : Pl} {ps : List Pl} {m1 m2 : List Mv} (h1 : Seg up N copies p.chunk p.nodes m1) (h2 : PlanR up N copies ps m2) : PlanR up N copies (p :: ps) (m1 ++ m2)
section
variable {up N copies : Nat}
theorem Seg.perm {chunk : Int} {has has' : List Int} {ms : List Mv} (h : Seg up N copies chunk has ms) (hp : has.Perm has') : Seg up N copies chunk has' ms := by
  induction h generalizing has' with
  | stop h =>
    have hl := (hp.filter (hUp up)).length_eq
    refine .stop ?_
    rcases h with h | h | h
    · exact .inl (by unfold hLive at *; omega)
    · exact .inr (.inl (by unfold hLive at *; omega))
    · exact .inr (.inr fun n h1 h2 h3 => hp.mem_iff.1 (h n h1 h2 h3))
  | step h0 h1 ht hf h ih =>
    have hl := (hp.filter (hUp up)).length_eq
    refine .step (by unfold hLive at *; omega) (by unfold hLive at *; omega) ⟨ht.1, ht.2.1, ht.2.2.1, fun hm => ht.2.2.2 (hp.mem_iff.2 hm)⟩ ((hp.filter (hUp up)).mem_iff.1 hf) (ih (hp.append_right _))
theorem Seg.full {chunk : Int} {has : List Int} {ms : List Mv} (h : Seg up N copies chunk has ms) (hf : Full up N copies has) : ms = [] := by
  cases h with
  | stop _ => rfl
  | step h0 h1 ht hf' h =>
    rcases hf with hf | hf | hf
    · exact absurd hf h0
    · omega
    · exact absurd (hf _ ht.1 ht.2.1 ht.2.2.1) ht.2.2.2
theorem Full.perm {has has' : List Int} (h : Full up N copies has) (hp : has.Perm has') : Full up N copies has' := by
  have hl := (hp.filter (hUp up)).length_eq
  rcases h with h | h | h
  · exact .inl (by unfold hLive at *; omega)
  · exact .inr (.inl (by unfold hLive at *; omega))
  · exact .inr (.inr fun n h1 h2 h3 => hp.mem_iff.1 (h n h1 h2 h3))
theorem PlanR.full : ∀ {ps : List Pl} {ms : List Mv}, PlanR up N copies ps ms → (∀ p ∈ ps, Full up N copies p.nodes) → ms = []
  | _, _, .nil, _ => rfl
  | _, _, .cons h1 h2, h => by
    rw [h1.full (h _ (by simp)), PlanR.full h2 fun p hp => h p (by simp [hp])]
    rfl
/-- A chunk's moves, done: only its place turns; it is full then. -/
theorem Seg.moves {c : Int} : ∀ {ms : List Mv} {has : List Int} {ps : List Pl}, Seg up N copies c has ms → N ≤ 1000 → Formed ps N → atP ps c < ps.length → (el ps (atP ps c)).nodes.Perm has →
    ∃ nodes, Moves ps ms (ps.set (atP ps c) ⟨c, nodes⟩) ∧ Full up N copies nodes ∧ nodes.Pairwise (· < ·) ∧ (∀ x ∈ nodes, 0 ≤ x ∧ x < (N : Int)) ∧ (∀ x ∈ (el ps (atP ps c)).nodes, x ∈ nodes) := by
  intro ms
  induction ms with
  | nil =>
    intro has ps h hN hF hat hp
    cases h with
    | stop hf =>
      have hc : (el ps (atP ps c)).chunk = c := by
        have h1 := List.findIdx_getElem (xs := ps) (p := fun p : Pl => p.chunk == c) (w := hat)
        have e : el ps (atP ps c) = ps[atP ps c] := by simp [el, hat]
        rw [e]
        exact eq_of_beq h1
      have hm := hF.nodes _ (el_mem hat)
      refine ⟨(el ps (atP ps c)).nodes, ?_, hf.perm hp.symm, hm.1, hm.2, fun x hx => hx⟩
      show ps = ps.set (atP ps c) ⟨c, (el ps (atP ps c)).nodes⟩
      have e0 : ∀ q : Pl, q.chunk = c → (⟨c, q.nodes⟩ : Pl) = q := by rintro ⟨_, _⟩ rfl; rfl
      have e : (⟨c, (el ps (atP ps c)).nodes⟩ : Pl) = el ps (atP ps c) := e0 _ hc
      rw [show ps.set (atP ps c) ⟨c, (el ps (atP ps c)).nodes⟩ = ps.set (atP ps c) (el ps (atP ps c)) from congrArg _ e]
      have e2 : el ps (atP ps c) = ps[atP ps c] := by simp [el, hat]
      rw [e2, List.set_getElem_self]
  | cons m r ih =>
    intro has ps h hN hF hat hp
    cases h with
    | step h0 h1 ht hf h =>
      rename_i f t
      have hm := hF.nodes _ (el_mem hat)
      have hc : (el ps (atP ps c)).chunk = c := by
        have h1 := List.findIdx_getElem (xs := ps) (p := fun p : Pl => p.chunk == c) (w := hat)
        have e : el ps (atP ps c) = ps[atP ps c] := by simp [el, hat]
        rw [e]
        exact eq_of_beq h1
      have hfm : f ∈ (el ps (atP ps c)).nodes := hp.mem_iff.2 (List.mem_filter.1 hf).1
      have htn : t ∉ (el ps (atP ps c)).nodes := fun hx => ht.2.2.2 (hp.mem_iff.1 hx)
      have hmay : mayM ps ⟨c, f, t⟩ := ⟨hat, (hm.2 f hfm).1, by dsimp only; omega, by dsimp only; omega, hfm, htn⟩
      have hmv : moveP (el ps (atP ps c)) ⟨c, f, t⟩ = ⟨c, insI t (el ps (atP ps c)).nodes⟩ := by unfold moveP; rw [if_neg (by dsimp only; omega), hc]
      have hdo : doM ps ⟨c, f, t⟩ = ps.set (atP ps c) ⟨c, insI t (el ps (atP ps c)).nodes⟩ := by unfold doM; dsimp only; rw [hmv]
      have hchunks : (ps.set (atP ps c) ⟨c, insI t (el ps (atP ps c)).nodes⟩).map Pl.chunk = ps.map Pl.chunk := by
        rw [List.map_set]
        have e2 : (ps.map Pl.chunk)[atP ps c]'(by simpa using hat) = c := by
          rw [List.getElem_map]
          have e : el ps (atP ps c) = ps[atP ps c] := by simp [el, hat]
          rw [← e, hc]
        conv => lhs; rw [show (⟨c, insI t (el ps (atP ps c)).nodes⟩ : Pl).chunk = (ps.map Pl.chunk)[atP ps c]'(by simpa using hat) from e2.symm]
        exact List.set_getElem_self _
      have hF2 : Formed (ps.set (atP ps c) ⟨c, insI t (el ps (atP ps c)).nodes⟩) N := by
        refine ⟨fun p hp' => ?_, by rw [hchunks]; exact hF.chunks, fun p hp' => ?_, by rw [List.length_set]; exact hF.few⟩
        · rcases List.mem_or_eq_of_mem_set hp' with hp' | rfl
          · exact hF.nodes p hp'
          · refine ⟨insI_sorted hm.1 htn, fun x hx => ?_⟩
            rcases insI_mem.1 hx with rfl | hx
            · exact ⟨ht.1, ht.2.1⟩
            · exact hm.2 x hx
        · rcases List.mem_or_eq_of_mem_set hp' with hp' | rfl
          · exact hF.low p hp'
          · have := hF.low _ (el_mem hat)
            rw [hc] at this
            exact this
      have hat2 : atP (ps.set (atP ps c) ⟨c, insI t (el ps (atP ps c)).nodes⟩) c = atP ps c := by
        have e : ∀ qs : List Pl, atP qs c = (qs.map Pl.chunk).findIdx fun k => k == c := fun qs => by unfold atP; rw [List.findIdx_map]; rfl
        rw [e, hchunks, ← e]
      have hel2 : el (ps.set (atP ps c) ⟨c, insI t (el ps (atP ps c)).nodes⟩) (atP ps c) = ⟨c, insI t (el ps (atP ps c)).nodes⟩ := by rw [el_set _ _ _ _ hat, if_pos rfl]
      have hp2 : (el (ps.set (atP ps c) ⟨c, insI t (el ps (atP ps c)).nodes⟩) (atP (ps.set (atP ps c) ⟨c, insI t (el ps (atP ps c)).nodes⟩) c)).nodes.Perm (has ++ [t]) := by
        rw [hat2, hel2]
        exact (insI_perm t _).trans ((hp.cons t).trans (List.perm_append_comm (l₁ := [t])))
      obtain ⟨nodes, a1, a2, a3, a4, a5⟩ := ih h hN hF2 (by rw [hat2, List.length_set]; exact hat) hp2
      rw [hat2, List.set_set] at a1
      rw [hat2, hel2] at a5
      refine ⟨nodes, ⟨hmay, by rw [hdo]; exact a1⟩, a2, a3, a4, fun x hx => a5 x (insI_mem.2 (.inr hx))⟩
theorem atP_mid {pre suf : List Pl} {p : Pl} (h : ((pre ++ p :: suf).map Pl.chunk).Pairwise (· < ·)) : atP (pre ++ p :: suf) p.chunk = pre.length := by
  unfold atP
  rw [List.findIdx_append]
  have hno : pre.findIdx (fun q => q.chunk == p.chunk) = pre.length := by
    rw [List.findIdx_eq_length]
    intro q hq
    rw [List.map_append, List.pairwise_append] at h
    have := h.2.2 q.chunk (List.mem_map.2 ⟨q, hq, rfl⟩) p.chunk (by simp)
    simp
    omega
  rw [hno, if_neg (by omega)]
  simp [List.findIdx_cons]
theorem el_mid {pre suf : List Pl} {p : Pl} : el (pre ++ p :: suf) pre.length = p := by
  rw [el_append_right (Nat.le_refl _), Nat.sub_self]
  rfl
theorem set_mid {pre suf : List Pl} {p q : Pl} : (pre ++ p :: suf).set pre.length q = pre ++ q :: suf := by
  rw [List.set_append, if_neg (by omega), Nat.sub_self]
  rfl
/-- What stands behind a plan's moves, place by place. -/
structure Healed (up N copies : Nat) (p q : Pl) : Prop where
  chunk : q.chunk = p.chunk
  full : Full up N copies q.nodes
  sorted : q.nodes.Pairwise (· < ·)
  range : ∀ x ∈ q.nodes, 0 ≤ x ∧ x < (N : Int)
  keeps : ∀ x ∈ p.nodes, x ∈ q.nodes
theorem PlanR.moves_aux : ∀ (suf pre : List Pl) (ms : List Mv), PlanR up N copies suf ms → N ≤ 1000 → Formed (pre ++ suf) N →
    ∃ suf', Moves (pre ++ suf) ms (pre ++ suf') ∧ suf'.length = suf.length ∧ (∀ k, k < suf.length → Healed up N copies (el suf k) (el suf' k))
  | [], pre, ms, h, hN, hF => by
    cases h
    exact ⟨[], rfl, rfl, fun k hk => absurd hk (by simp)⟩
  | p :: suf, pre, ms, h, hN, hF => by
    cases h with
    | cons h1 h2 =>
      rename_i m1 m2
      have hat := atP_mid hF.chunks
      obtain ⟨nodes, a1, a2, a3, a4, a5⟩ := h1.moves (ps := pre ++ p :: suf) hN hF (by rw [hat]; simp) (by rw [hat, el_mid])
      rw [hat, set_mid] at a1
      rw [hat, el_mid] at a5
      have hF2 : Formed ((pre ++ [(⟨p.chunk, nodes⟩ : Pl)]) ++ suf) N := by
        have e : ((pre ++ [(⟨p.chunk, nodes⟩ : Pl)]) ++ suf).map Pl.chunk = (pre ++ p :: suf).map Pl.chunk := by simp
        refine ⟨fun q hq => ?_, by rw [e]; exact hF.chunks, fun q hq => ?_, ?_⟩
        · simp only [List.mem_append, List.mem_singleton] at hq
          rcases hq with (hq | rfl) | hq
          · exact hF.nodes q (by simp [hq])
          · exact ⟨a3, a4⟩
          · exact hF.nodes q (by simp [hq])
        · simp only [List.mem_append, List.mem_singleton] at hq
          rcases hq with (hq | rfl) | hq
          · exact hF.low q (by simp [hq])
          · exact hF.low p (by simp)
          · exact hF.low q (by simp [hq])
        · have := hF.few
          simp at this ⊢
          omega
      obtain ⟨suf', b1, b2, b3⟩ := PlanR.moves_aux suf (pre ++ [⟨p.chunk, nodes⟩]) m2 h2 hN hF2
      refine ⟨⟨p.chunk, nodes⟩ :: suf', ?_, by simp [b2], fun k hk => ?_⟩
      · refine Moves.append.2 ⟨_, a1, ?_⟩
        simpa using b1
      · cases k with
        | zero => exact ⟨rfl, a2, a3, a4, a5⟩
        | succ k => exact b3 k (by simpa using hk)
theorem PlanR.moves {ps : List Pl} {ms : List Mv} (h : PlanR up N copies ps ms) (hN : N ≤ 1000) (hF : Formed ps N) :
    ∃ qs, Moves ps ms qs ∧ Formed qs N ∧ qs.length = ps.length ∧ (∀ k, k < ps.length → Healed up N copies (el ps k) (el qs k)) := by
  obtain ⟨qs, a1, a2, a3⟩ := PlanR.moves_aux ps [] ms h hN hF
  have e : qs.map Pl.chunk = ps.map Pl.chunk := by
    apply List.ext_getElem?
    intro k
    rw [List.getElem?_map, List.getElem?_map]
    rcases Nat.lt_or_ge k ps.length with hk | hk
    · rw [el_get hk, el_get (by omega)]
      exact congrArg some (a3 k hk).chunk
    · rw [List.getElem?_eq_none hk, List.getElem?_eq_none (by omega)]
  have hmem : ∀ q ∈ qs, ∃ k, k < ps.length ∧ el qs k = q := by
    intro q hq
    obtain ⟨k, hk, e⟩ := List.getElem_of_mem hq
    exact ⟨k, by omega, by simp [el, hk, e]⟩
  refine ⟨qs, a1, ⟨fun q hq => ?_, by rw [e]; exact hF.chunks, fun q hq => ?_, by rw [a2]; exact hF.few⟩, a2, a3⟩
  · obtain ⟨k, hk, rfl⟩ := hmem q hq
    exact ⟨(a3 k hk).sorted, (a3 k hk).range⟩
  · obtain ⟨k, hk, rfl⟩ := hmem q hq
    rw [(a3 k hk).chunk]
    exact hF.low _ (el_mem hk)
/-- Behind a plan's moves nothing is to be done. -/
theorem PlanR.again {ps qs : List Pl} {ms ms' : List Mv} (h : ∀ k, k < ps.length → Healed up N copies (el ps k) (el qs k)) (hl : qs.length = ps.length) (h' : PlanR up N copies qs ms') : ms' = [] := by
  refine h'.full fun q hq => ?_
  obtain ⟨k, hk, e⟩ := List.getElem_of_mem hq
  have e2 : el qs k = q := by simp [el, hk, e]
  rw [← e2]
  exact (h k (by omega)).full
end
end Go.Proofs.Ytkdkdaljgoibaaa
