/-
  Law: who is remembered, by number of client (once).
-/
import Derived.Test.YtmogpoghngmnmaaOnceSaves
namespace Go.Proofs.Ytmogpoghngmnmaa
open Go Go.RowKit Bin

/-- The client of a number. -/
def look (l : List Cl) (id : Nat) : Option Cl := if posN l id < l.length then some (el l (posN l id)) else none
theorem look_iff {l : List Cl} (h : (l.map Cl.id).Nodup) (id : Nat) (c : Cl) : look l id = some c ↔ c ∈ l ∧ c.id = id := by
  unfold look
  constructor
  · intro h1
    split at h1
    · rename_i hp
      obtain rfl := Option.some.inj h1
      exact ⟨el_mem hp, pos_at hp⟩
    · cases h1
  · rintro ⟨h1, rfl⟩
    obtain ⟨k, hk, e⟩ := List.getElem_of_mem h1
    have e2 : el l k = c := by simp [el, hk, e]
    have hp : posN l c.id = k := by rw [← e2]; exact pos_of h hk
    rw [hp, if_pos hk, e2]
theorem look_none {l : List Cl} (id : Nat) : look l id = none ↔ id ∉ l.map Cl.id := by
  unfold look
  constructor
  · intro h
    split at h
    · cases h
    · rename_i hp
      exact pos_no hp
  · intro h
    rw [if_neg fun hp => h (by have := pos_at hp; exact this ▸ List.mem_map.2 ⟨_, el_mem hp, rfl⟩)]
theorem mem_erase_of {l : List Cl} {p : Nat} {d : Cl} (h : d ∈ l) (hd : p < l.length → d ≠ el l p) : d ∈ l.eraseIdx p := by
  by_cases hp : p < l.length
  · have h1 := (perm_eraseC l p hp).mem_iff.2 h
    rcases List.mem_cons.1 h1 with h1 | h1
    · exact absurd (h1.trans (by simp [el, hp])) (hd hp)
    · exact h1
  · rw [List.eraseIdx_of_length_le (by omega)]
    exact h
theorem look_last {l : List Cl} (h : (l.map Cl.id).Nodup) {p : Nat} {c : Cl} (hn : ((l.eraseIdx p ++ [c]).map Cl.id).Nodup) (hp : p < l.length → (el l p).id = c.id) (id : Nat) :
    look (l.eraseIdx p ++ [c]) id = if c.id = id then some c else look l id := by
  by_cases e : c.id = id
  · rw [if_pos e]
    exact (look_iff hn id c).2 ⟨by simp, e⟩
  · rw [if_neg e]
    cases hl : look l id with
    | some d =>
      obtain ⟨h1, h2⟩ := (look_iff h id d).1 hl
      refine (look_iff hn id d).2 ⟨List.mem_append_left _ (mem_erase_of h1 fun hpl e2 => e ?_), h2⟩
      rw [← hp hpl, ← e2, h2]
    | none =>
      rw [look_none] at hl ⊢
      intro hm
      obtain ⟨d, hd, e2⟩ := List.mem_map.1 hm
      rcases List.mem_append.1 hd with hd | hd
      · exact hl (List.mem_map.2 ⟨d, mem_erase hd, e2⟩)
      · rw [List.mem_singleton.1 hd] at e2
        exact e e2
theorem look_some {l : List Cl} {id : Nat} {c : Cl} (h : look l id = some c) : posN l id < l.length ∧ el l (posN l id) = c := by
  unfold look at h
  split at h
  · exact ⟨by assumption, Option.some.inj h⟩
  · cases h
theorem look_no {l : List Cl} {id : Nat} (h : look l id = none) : ¬ posN l id < l.length := by
  unfold look at h
  split at h
  · cases h
  · assumption
theorem begK_cases {t : Tb} {id num : Nat} : begK t id num ≤ 5 := by
  unfold begK
  repeat' split
  all_goals omega
theorem nodup_le : ∀ (N : Nat) (l : List Nat), l.Nodup → (∀ x ∈ l, x < N) → l.length ≤ N
  | 0, l, _, h => by
    cases l with
    | nil => exact Nat.le_refl _
    | cons x l => exact absurd (h x (by simp)) (by omega)
  | N + 1, l, hn, h => by
    have h1 := nodup_le N (l.erase N) (hn.erase N) (fun x hx => by
      have h2 := (hn.mem_erase_iff).1 hx
      have h3 := h x h2.2
      have h4 := h2.1
      omega)
    by_cases hm : N ∈ l
    · rw [List.length_erase_of_mem hm] at h1
      omega
    · rw [List.erase_of_not_mem hm] at h1
      omega
/-- What is known of each client. -/
structure SameI (t : Tb) (G : List Nat) (D : List Bool) (R : List (List UInt8)) : Prop where
  ok : t.ok
  most : t.most = 64
  gl : G.length = 9
  dl : D.length = 9
  rl : R.length = 9
  ids : ∀ c ∈ t.l, c.id < 9
  st : ∀ k, k < 9 → look t.l k = if el G k = 0 then none else some ⟨k, el G k, !el D k, if el D k then el R k else []⟩
section
variable {t : Tb} {G : List Nat} {D : List Bool} {R : List (List UInt8)}
theorem SameI.len (h : SameI t G D R) : t.l.length ≤ 9 := by
  have := nodup_le 9 (t.l.map Cl.id) h.ok.nodup (fun x hx => by
    obtain ⟨c, hc, rfl⟩ := List.mem_map.1 hx
    exact h.ids c hc)
  simpa using this
theorem SameI.zero (h : SameI t G D R) {k num : Nat} (hn : num = 0) : begE t k num = 2 ∧ begS t k num = t := by
  have hk := begK_0 (t := t) (id := k) hn
  exact ⟨by unfold begE; rw [hk]; rfl, by unfold begS; rw [hk]; rfl⟩
theorem SameI.old (h : SameI t G D R) {k num : Nat} (hk : k < 9) (hn : num ≠ 0) (hl : num < el G k) : begE t k num = 70 ∧ begS t k num = t := by
  have hs := h.st k hk
  rw [if_neg (by omega)] at hs
  obtain ⟨h1, h2⟩ := look_some hs
  have hK := begK_1 (t := t) (id := k) hn h1 (by rw [h2]; exact hl)
  exact ⟨by unfold begE; rw [hK]; rfl, by unfold begS; rw [hK]; rfl⟩
theorem SameI.move (h : SameI t G D R) {k : Nat} (hk : k < 9) (hp : posN t.l k < t.l.length) (b w : Nat) : SameI ⟨t.most, t.l.eraseIdx (posN t.l k) ++ [el t.l (posN t.l k)], b, w⟩ G D R := by
  have hid := pos_at hp
  have hok : Tb.ok ⟨t.most, t.l.eraseIdx (posN t.l k) ++ [el t.l (posN t.l k)], b, w⟩ := ok_last h.ok (h.ok.each _ (el_mem hp)) (erase_notin h.ok.nodup hp) (.inl hp) b w
  refine ⟨hok, h.most, h.gl, h.dl, h.rl, ?_, ?_⟩
  · intro c hc
    rcases List.mem_append.1 hc with hc | hc
    · exact h.ids c (mem_erase hc)
    · rw [List.mem_singleton.1 hc]
      exact h.ids _ (el_mem hp)
  · intro j hj
    rw [← h.st j hj]
    dsimp only
    rw [look_last h.ok.nodup hok.nodup (fun _ => rfl)]
    split
    · rename_i e
      rw [← e, hid]
      unfold look
      rw [if_pos hp]
    · rfl
theorem SameI.again (h : SameI t G D R) {k num : Nat} (hk : k < 9) (hn : num ≠ 0) (hl : num = el G k) (hd : el D k = true) : begA t k num = 2 ∧ begE t k num = 0 ∧ begR t k num = el R k ∧ SameI (begS t k num) G D R := by
  have hs := h.st k hk
  rw [if_neg (by omega), hd] at hs
  obtain ⟨h1, h2⟩ := look_some hs
  have hK := begK_3 (t := t) (id := k) hn h1 (by rw [h2]; exact hl) (by rw [h2]; rfl)
  refine ⟨by unfold begA; rw [hK]; rfl, by unfold begE; rw [hK]; rfl, by unfold begR; rw [hK, h2]; rfl, ?_⟩
  unfold begS
  rw [hK]
  exact h.move hk h1 _ _
theorem SameI.busy (h : SameI t G D R) {k num : Nat} (hk : k < 9) (hn : num ≠ 0) (hl : num = el G k) (hd : el D k = false) : begA t k num = 3 ∧ begE t k num = 0 ∧ SameI (begS t k num) G D R := by
  have hs := h.st k hk
  rw [if_neg (by omega), hd] at hs
  obtain ⟨h1, h2⟩ := look_some hs
  have hK := begK_2 (t := t) (id := k) hn h1 (by rw [h2]; exact hl) (by rw [h2]; rfl)
  refine ⟨by unfold begA; rw [hK]; rfl, by unfold begE; rw [hK]; rfl, ?_⟩
  unfold begS
  rw [hK]
  exact h.move hk h1 _ _
theorem SameI.new (h : SameI t G D R) {k num : Nat} (hk : k < 9) (hnl : num < 18446744073709551616) (hl : el G k < num) : begA t k num = 1 ∧ begE t k num = 0 ∧ SameI (begS t k num) (G.set k num) (D.set k false) R := by
  have hs := h.st k hk
  have hlen := h.len
  have hm := h.most
  have hno : ¬ (posN t.l k < t.l.length ∧ num ≤ (el t.l (posN t.l k)).num) := by
    rintro ⟨h1, h2⟩
    unfold look at hs
    rw [if_pos h1] at hs
    split at hs
    · cases hs
    · rw [Option.some.inj hs] at h2
      dsimp only at h2
      omega
  have hK : begK t k num = 5 := begK_5 (by omega) hno (by omega)
  refine ⟨by unfold begA; rw [hK]; rfl, by unfold begE; rw [hK]; rfl, ?_⟩
  have hok := begS_ok h.ok (id := k) (num := num) (by omega) hnl
  have e : begS t k num = ⟨t.most, t.l.eraseIdx (begQ t k) ++ [⟨k, num, true, []⟩], t.begun + 1, t.was⟩ := by unfold begS; rw [hK]; rfl
  rw [e] at hok ⊢
  have hq : begQ t k < t.l.length → (el t.l (begQ t k)).id = k := by
    unfold begQ
    split
    · rename_i hp
      intro _
      exact pos_at hp
    · rw [if_neg (by omega)]
      intro h9
      omega
  refine ⟨hok, h.most, by simp [h.gl], by simp [h.dl], h.rl, ?_, ?_⟩
  · intro c hc
    rcases List.mem_append.1 hc with hc | hc
    · exact h.ids c (mem_erase hc)
    · rw [List.mem_singleton.1 hc]
      exact hk
  · intro j hj
    dsimp only
    rw [look_last h.ok.nodup hok.nodup hq, el_set _ _ _ _ (by rw [h.gl]; exact hk), el_set _ _ _ _ (by rw [h.dl]; exact hk)]
    by_cases e2 : k = j
    · subst e2
      rw [if_pos rfl, if_pos rfl, if_pos rfl, if_neg (by omega)]
      rfl
    · rw [if_neg e2, if_neg e2, if_neg e2]
      exact h.st j hj
theorem SameI.end_ (h : SameI t G D R) {k num : Nat} {rep : List UInt8} (hk : k < 9) (hnl : num < 18446744073709551616) (h1 : 0 < el G k) (h2 : num = el G k) (h3 : el D k = false) (h4 : rep.length ≤ 200) :
    endE t k num rep = 0 ∧ SameI (endS t k num rep) G (D.set k true) (R.set k rep) := by
  have hs := h.st k hk
  rw [if_neg (by omega), h3] at hs
  obtain ⟨p1, p2⟩ := look_some hs
  have hy : endOk t k num := ⟨p1, by rw [p2]; exact h2.symm, by rw [p2]; rfl⟩
  have he : endE t k num rep = 0 := by unfold endE; rw [if_neg (by omega), if_pos hy]
  refine ⟨he, ?_⟩
  have hok := endS_ok (rep := rep) h.ok (id := k) (num := num) (by omega) hnl
  have e : endS t k num rep = ⟨t.most, t.l.eraseIdx (posN t.l k) ++ [⟨k, num, false, rep⟩], t.begun, t.was⟩ := by unfold endS; rw [if_pos he]
  rw [e] at hok ⊢
  refine ⟨hok, h.most, h.gl, by simp [h.dl], by simp [h.rl], ?_, ?_⟩
  · intro c hc
    rcases List.mem_append.1 hc with hc | hc
    · exact h.ids c (mem_erase hc)
    · rw [List.mem_singleton.1 hc]
      exact hk
  · intro j hj
    dsimp only
    rw [look_last h.ok.nodup hok.nodup (fun hp => pos_at hp), el_set _ _ _ _ (by rw [h.dl]; exact hk), el_set _ _ _ _ (by rw [h.rl]; exact hk)]
    by_cases e2 : k = j
    · subst e2
      rw [if_pos rfl, if_pos rfl, if_neg (by omega), h2]
      simp
    · rw [if_neg e2, if_neg e2, if_neg e2]
      exact h.st j hj
theorem SameI.endNo (h : SameI t G D R) {k num : Nat} {rep : List UInt8} (hk : k < 9) (hn : ¬ (0 < el G k ∧ num = el G k ∧ el D k = false ∧ rep.length ≤ 200)) : endE t k num rep ≠ 0 ∧ endS t k num rep = t := by
  have he : endE t k num rep ≠ 0 := by
    unfold endE
    split
    · decide
    · rename_i hl
      split
      · rename_i hy
        obtain ⟨h1, h2, h3⟩ := hy
        have hs := h.st k hk
        unfold look at hs
        rw [if_pos h1] at hs
        split at hs
        · cases hs
        · rename_i hg
          have hs' := Option.some.inj hs
          rw [hs'] at h2 h3
          dsimp only at h2 h3
          exact absurd ⟨by omega, h2.symm, by simpa using h3, by omega⟩ hn
      · decide
  exact ⟨he, by unfold endS; rw [if_neg he]⟩
end
theorem SameI.start : SameI ⟨64, [], 0, 0⟩ (List.replicate 9 0) (List.replicate 9 false) (List.replicate 9 []) := by
  refine ⟨newT_ok (by omega), rfl, rfl, rfl, rfl, by simp, ?_⟩
  intro k hk
  have : el (List.replicate 9 0) k = 0 := by
    unfold el
    rw [List.getElem?_replicate]
    split <;> rfl
  rw [this]
  rfl
end Go.Proofs.Ytmogpoghngmnmaa
