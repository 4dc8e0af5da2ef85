/-
  Law: what clients were answered, in plain terms (once).
-/
import Derived.Test.YtmogpoghngmnmaaOnce2
namespace Go.Proofs.Ytmogpoghngmnmaa
open Go Go.RowKit

/-- A table: how many may be, clients, the longest unused first; counts. -/
structure Tb where
  most : Nat
  l : List Cl
  begun : Nat
  was : Nat
deriving DecidableEq
def posN (l : List Cl) (id : Nat) : Nat := l.findIdx fun c => c.id == id
def freeL (l : List Cl) : Nat := l.findIdx fun c => !c.busy
structure Cl.ok (c : Cl) : Prop where
  id : c.id < 18446744073709551616
  num : 1 ≤ c.num ∧ c.num < 18446744073709551616
  rep : c.rep.length ≤ 200
  busy : c.busy = true → c.rep = []
structure Tb.ok (t : Tb) : Prop where
  most : 1 ≤ t.most ∧ t.most ≤ 64
  len : t.l.length ≤ t.most
  nodup : (t.l.map Cl.id).Nodup
  each : ∀ c ∈ t.l, c.ok
/-- Which way a request goes. -/
def begK (t : Tb) (id num : Nat) : Nat :=
  if num = 0 then 0
  else if posN t.l id < t.l.length ∧ num ≤ (el t.l (posN t.l id)).num then
    if num < (el t.l (posN t.l id)).num then 1 else if (el t.l (posN t.l id)).busy = true then 2 else 3
  else if ¬ posN t.l id < t.l.length ∧ t.most ≤ t.l.length ∧ ¬ freeL t.l < t.l.length then 4 else 5
/-- Who goes. -/
def begQ (t : Tb) (id : Nat) : Nat := if posN t.l id < t.l.length then posN t.l id else if t.most ≤ t.l.length then freeL t.l else t.l.length
def begA (t : Tb) (id num : Nat) : Int := if begK t id num = 2 then 3 else if begK t id num = 3 then 2 else if begK t id num = 5 then 1 else 0
def begR (t : Tb) (id num : Nat) : List UInt8 := if begK t id num = 3 then (el t.l (posN t.l id)).rep else []
def begE (t : Tb) (id num : Nat) : Int := if begK t id num = 0 then 2 else if begK t id num = 1 then 70 else if begK t id num = 4 then 130 else 0
def begS (t : Tb) (id num : Nat) : Tb :=
  if begK t id num = 2 then { t with l := t.l.eraseIdx (posN t.l id) ++ [el t.l (posN t.l id)] }
  else if begK t id num = 3 then { t with l := t.l.eraseIdx (posN t.l id) ++ [el t.l (posN t.l id)], was := t.was + 1 }
  else if begK t id num = 5 then { t with l := t.l.eraseIdx (begQ t id) ++ [⟨id, num, true, []⟩], begun := t.begun + 1 }
  else t
/-- May an answer come? -/
def endOk (t : Tb) (id num : Nat) : Prop := posN t.l id < t.l.length ∧ (el t.l (posN t.l id)).num = num ∧ (el t.l (posN t.l id)).busy = true
instance (t : Tb) (id num : Nat) : Decidable (endOk t id num) := by unfold endOk; infer_instance
def endE (t : Tb) (id num : Nat) (rep : List UInt8) : Int := if 200 < rep.length then 3 else if endOk t id num then 0 else 4
def endS (t : Tb) (id num : Nat) (rep : List UInt8) : Tb := if endE t id num rep = 0 then { t with l := t.l.eraseIdx (posN t.l id) ++ [⟨id, num, false, rep⟩] } else t

theorem el_map {α β : Type} [Inhabited α] [Inhabited β] (f : α → β) (l : List α) (k : Nat) (hk : k < l.length) : el (l.map f) k = f (el l k) := by simp [el, hk]
theorem pos_at {l : List Cl} {id : Nat} (h : posN l id < l.length) : (el l (posN l id)).id = id := by
  have h1 := List.findIdx_getElem (xs := l) (p := fun c : Cl => c.id == id) (w := h)
  have : el l (posN l id) = l[posN l id]'h := by simp [el, h]
  rw [this]
  exact eq_of_beq h1
theorem pos_le (l : List Cl) (id : Nat) : posN l id ≤ l.length := List.findIdx_le_length
theorem pos_no {l : List Cl} {id : Nat} (h : ¬ posN l id < l.length) : id ∉ l.map Cl.id := by
  intro hm
  obtain ⟨c, hc, e⟩ := List.mem_map.1 hm
  exact h (List.findIdx_lt_length_of_exists ⟨c, hc, by simpa using e⟩)
theorem nodup_el {l : List Cl} (h : (l.map Cl.id).Nodup) {j k : Nat} (hj : j < l.length) (hk : k < l.length) (e : (el l j).id = (el l k).id) : j = k := by
  have e1 : el l j = l[j] := by simp [el, hj]
  have e2 : el l k = l[k] := by simp [el, hk]
  rw [e1, e2] at e
  refine (List.getElem_inj (xs := l.map Cl.id) (h₀ := by simpa using hj) (h₁ := by simpa using hk) h).1 ?_
  simpa using e
theorem perm_eraseC {α : Type} : ∀ (l : List α) (k : Nat) (hk : k < l.length), (l[k] :: l.eraseIdx k).Perm l
  | a :: l, 0, _ => .refl _
  | a :: l, k + 1, hk => by
    have := perm_eraseC l k (by simpa using hk)
    rw [List.eraseIdx_cons_succ, List.getElem_cons_succ]
    exact (List.Perm.swap _ _ _).trans (this.cons a)
theorem pos_of {l : List Cl} (h : (l.map Cl.id).Nodup) {k : Nat} (hk : k < l.length) : posN l (el l k).id = k := by
  have h0 : posN l (el l k).id < l.length := List.findIdx_lt_length_of_exists ⟨el l k, el_mem hk, by simp⟩
  exact nodup_el h h0 hk (pos_at h0)
theorem nodup_erase {l : List Cl} (h : (l.map Cl.id).Nodup) (p : Nat) : ((l.eraseIdx p).map Cl.id).Nodup := h.sublist ((List.eraseIdx_sublist l p).map _)
theorem erase_notin {l : List Cl} (h : (l.map Cl.id).Nodup) {p : Nat} (hp : p < l.length) : (el l p).id ∉ (l.eraseIdx p).map Cl.id := by
  have h1 : (l.map Cl.id).Perm ((el l p).id :: (l.eraseIdx p).map Cl.id) := by
    have e : el l p = l[p] := by simp [el, hp]
    rw [e, ← List.map_cons]
    exact (perm_eraseC _ _ hp).symm.map _
  exact (List.nodup_cons.1 (h1.nodup_iff.1 h)).1
theorem ok_last {t : Tb} (h : t.ok) {p : Nat} {c : Cl} (hc : c.ok) (hn : c.id ∉ (t.l.eraseIdx p).map Cl.id) (hl : p < t.l.length ∨ t.l.length < t.most) (b w : Nat) : Tb.ok ⟨t.most, t.l.eraseIdx p ++ [c], b, w⟩ := by
  have hlen := h.len
  refine ⟨h.most, ?_, ?_, ?_⟩
  · dsimp only
    rw [List.length_append, List.length_eraseIdx, List.length_singleton]
    split <;> omega
  · dsimp only
    rw [List.map_append, List.nodup_append]
    refine ⟨nodup_erase h.nodup p, by simp, ?_⟩
    intro a ha b hb
    simp only [List.map_cons, List.map_nil, List.mem_singleton] at hb
    subst hb
    exact fun e => hn (e ▸ ha)
  · intro x hx
    rcases List.mem_append.1 hx with hx | hx
    · exact h.each x (List.mem_of_mem_eraseIdx hx)
    · rw [List.mem_singleton.1 hx]
      exact hc
theorem mem_erase {l : List Cl} {p : Nat} {c : Cl} (h : c ∈ l.eraseIdx p) : c ∈ l := List.mem_of_mem_eraseIdx h
theorem begK_mid {t : Tb} {id num : Nat} (h : begK t id num = 2 ∨ begK t id num = 3) : posN t.l id < t.l.length ∧ num = (el t.l (posN t.l id)).num ∧ num ≠ 0 := by
  unfold begK at h
  by_cases h0 : num = 0
  · rw [if_pos h0] at h; omega
  · rw [if_neg h0] at h
    by_cases h1 : posN t.l id < t.l.length ∧ num ≤ (el t.l (posN t.l id)).num
    · rw [if_pos h1] at h
      by_cases h2 : num < (el t.l (posN t.l id)).num
      · rw [if_pos h2] at h; omega
      · exact ⟨h1.1, by omega, h0⟩
    · rw [if_neg h1] at h
      split at h <;> omega
theorem begS_ok {t : Tb} (h : t.ok) {id num : Nat} (hi : id < 18446744073709551616) (hn : num < 18446744073709551616) : (begS t id num).ok := by
  unfold begS
  split
  · rename_i hk
    have hp := (begK_mid (.inl hk)).1
    exact ok_last h (h.each _ (el_mem hp)) (erase_notin h.nodup hp) (.inl hp) _ _
  · split
    · rename_i hk
      have hp := (begK_mid (.inr hk)).1
      exact ok_last h (h.each _ (el_mem hp)) (erase_notin h.nodup hp) (.inl hp) _ _
    · split
      · rename_i hk
        have h0 : num ≠ 0 := by intro h0; unfold begK at hk; rw [if_pos h0] at hk; omega
        have h4 : ¬ (¬ posN t.l id < t.l.length ∧ t.most ≤ t.l.length ∧ ¬ freeL t.l < t.l.length) := by
          intro h4
          unfold begK at hk
          rw [if_neg h0, if_neg (fun h => h4.1 h.1), if_pos h4] at hk
          omega
        refine ok_last h ⟨hi, ⟨by dsimp only; omega, hn⟩, by simp, fun _ => rfl⟩ ?_ ?_ _ _
        · dsimp only
          unfold begQ
          split
          · rename_i hp
            have := erase_notin h.nodup hp
            rwa [pos_at hp] at this
          · rename_i hp
            intro hm
            obtain ⟨c, hc, e⟩ := List.mem_map.1 hm
            exact pos_no hp (List.mem_map.2 ⟨c, mem_erase hc, e⟩)
        · unfold begQ
          split
          · exact .inl (by assumption)
          · split
            · exact .inl (by omega)
            · exact .inr (by omega)
      · exact h
theorem endS_ok {t : Tb} (h : t.ok) {id num : Nat} {rep : List UInt8} (hi : id < 18446744073709551616) (hn : num < 18446744073709551616) : (endS t id num rep).ok := by
  unfold endS
  split
  · rename_i he
    unfold endE at he
    split at he
    · omega
    · split at he
      · rename_i h1 h2
        obtain ⟨hp, h3, h4⟩ := h2
        have h5 := (h.each _ (el_mem hp)).num
        refine ok_last h ⟨hi, ⟨by dsimp only; omega, hn⟩, by dsimp only; omega, fun hb => by cases hb⟩ ?_ (.inl hp) _ _
        have := erase_notin h.nodup hp
        rwa [pos_at hp] at this
      · omega
  · exact h
theorem posC_key (cs : List ClX) (id : Nat) : posC cs id = posN (cs.map ClX.key) id := by
  unfold posC posN
  rw [List.findIdx_map]
  rfl
theorem freeN_key (cs : List ClX) : freeN cs = freeL (cs.map ClX.key) := by
  unfold freeN freeL
  rw [List.findIdx_map]
  rfl
def OT.s (x : OT) : Tb := ⟨x.most, x.cs.map ClX.key, x.begun, x.was⟩
structure OT.ok (x : OT) : Prop where
  s : x.s.ok
  made : x.madeOk
theorem uniq_of {cs : List ClX} (h : ((cs.map ClX.key).map Cl.id).Nodup) : Uniq cs := by
  intro j k hj hk e
  refine nodup_el h (by simpa using hj) (by simpa using hk) ?_
  rw [el_map _ _ _ hj, el_map _ _ _ hk]
  exact e
section
variable {α : Type} [Inhabited α] {f : α → Asr} {l : List α} {w0 w : World} {L : List Asr}
omit [Inhabited α] in
theorem Mem.starSub {l' : List α} (M : Mem w0 w (Asr.star (l.map f) :: L)) (h : l'.Sublist l) : Mem w0 w (Asr.star (l'.map f) :: L) := by
  obtain ⟨m, hm⟩ := h.exists_perm_append
  have h1 : (l.map f).Perm (m.map f ++ l'.map f) := by
    rw [← List.map_append]
    exact (hm.trans List.perm_append_comm).map f
  exact (M.starPerm h1).starDrop
omit [Inhabited α] in
theorem Mem.starErase (M : Mem w0 w (Asr.star (l.map f) :: L)) (p : Nat) : Mem w0 w (Asr.star ((l.eraseIdx p).map f) :: L) := M.starSub (List.eraseIdx_sublist l p)
theorem Mem.starMove (M : Mem w0 w (Asr.star (l.map f) :: L)) (p : Nat) (hp : p < l.length) : Mem w0 w (Asr.star ((l.eraseIdx p ++ [el l p]).map f) :: L) := by
  refine M.starPerm (List.Perm.map f ?_)
  have e : el l p = l[p] := by simp [el, hp]
  rw [e]
  exact (perm_eraseC _ _ hp).symm.trans (List.perm_append_comm (l₁ := [l[p]]))
end
end Go.Proofs.Ytmogpoghngmnmaa
