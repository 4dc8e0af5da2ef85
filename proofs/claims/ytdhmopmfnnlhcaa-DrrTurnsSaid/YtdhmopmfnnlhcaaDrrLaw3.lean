/-
  Law: how often each flow's turn came, and what it was given (drr).
-/
import Derived.Test.YtdhmopmfnnlhcaaDrrLaw2
namespace Go.Proofs.Ytdhmopmfnnlhcaa
open Go Go.RowKit

/-- x stands ahead of y. -/
def ahead (l : List Nat) (x y : Nat) : Prop := ∃ l1 l2, l = l1 ++ y :: l2 ∧ x ∈ l1
/-- b: how often each flow's turn began; got: what it was given. -/
structure Turns (s : Sd) (b got : Nat → Nat) : Prop where
  ok : Ok s
  one : ∀ x y, y ∈ s.round → x ≠ y → b x ≤ b y + 1
  ord : ∀ x y, y ∈ s.round → x ≠ y → ahead s.round x y → ¬ (s.on = true ∧ s.hd = x) → b x ≤ b y
  cur : ∀ x y, y ∈ s.round → x ≠ y → s.on = true → s.hd = y → b x ≤ b y
  money : ∀ k, k < s.fl.length → (got k : Int) + (el s.fl k).credit ≤ (b k : Int) * (el s.fl k).share
  just : ∀ k, k < s.fl.length → (el s.fl k).jobs ≠ [] → (got k : Int) + (el s.fl k).credit = (b k : Int) * (el s.fl k).share
theorem ahead_tail {h x y : Nat} {t : List Nat} (h1 : ahead t x y) : ahead (h :: t) x y := by
  obtain ⟨l1, l2, rfl, hx⟩ := h1
  exact ⟨h :: l1, l2, rfl, by simp [hx]⟩
theorem ahead_head {h y : Nat} {t : List Nat} (hy : y ∈ t) : ahead (h :: t) h y := by
  obtain ⟨l1, l2, rfl⟩ := List.append_of_mem hy
  exact ⟨h :: l1, l2, rfl, by simp⟩
theorem not_ahead_head {h x : Nat} {t : List Nat} (hn : (h :: t).Nodup) : ¬ ahead (h :: t) x h := by
  rintro ⟨l1, l2, e, hx⟩
  cases l1 with
  | nil => cases hx
  | cons a l1 =>
    injection e with e1 e2
    subst e2
    have := (List.nodup_cons.1 hn).1
    simp at this
theorem ahead_rot {h x y : Nat} {t : List Nat} (hn : (h :: t).Nodup) (h1 : ahead (t ++ [h]) x y) : (y = h ∧ x ∈ t) ∨ (y ≠ h ∧ y ∈ t ∧ x ≠ h ∧ ahead t x y) := by
  obtain ⟨l1, l2, e, hx⟩ := h1
  have hh := (List.nodup_cons.1 hn).1
  rcases List.eq_nil_or_concat l2 with rfl | ⟨l3, z, rfl⟩
  · have e2 : t ++ [h] = l1 ++ [y] := e
    obtain ⟨e3, e4⟩ := List.append_inj' e2 rfl
    injection e4 with e5
    subst e3
    exact .inl ⟨e5.symm, hx⟩
  · rw [List.concat_eq_append] at e
    have e2 : t ++ [h] = (l1 ++ y :: l3) ++ [z] := by rw [e]; simp
    obtain ⟨e3, e4⟩ := List.append_inj' e2 rfl
    subst e3
    refine .inr ⟨?_, by simp, ?_, l1, l3, rfl, hx⟩
    · rintro rfl; exact hh (by simp)
    · rintro rfl; exact hh (by simp [hx])

/-- A turn begins. -/
theorem Turns.begin {s : Sd} {b got : Nat → Nat} (h : Turns s b got) (hr : s.round ≠ []) (ho : s.on = false) : Turns (beginS s) (fun k => if k = s.hd then b k + 1 else b k) got := by
  obtain ⟨h1, h2, h3⟩ := h.ok.hd hr
  have hl := h.ok.less _ h2 h3 (fun hh => by rw [ho] at hh; cases hh.1)
  have hB := h.ok.begin hr hl
  have hel : ∀ i, el (beginS s).fl i = if s.hd = i then { s.f with credit := s.f.credit + s.f.share } else el s.fl i := by
    intro i
    unfold beginS
    try dsimp only
    rw [el_set _ _ _ _ h2]
  have hlen : (beginS s).fl.length = s.fl.length := by unfold beginS; simp
  have hmem : s.hd ∈ s.round := by rw [h1]; simp
  have hnd := h.ok.nodup
  rw [h1] at hnd
  refine ⟨hB, ?_, ?_, ?_, ?_, ?_⟩
  · intro x y hy hxy
    try dsimp only
    have o := h.one x y hy hxy
    by_cases e1 : x = s.hd
    · subst e1
      rw [if_pos rfl, if_neg (fun e => hxy e.symm)]
      have hyt : y ∈ s.round.tail := by
        have hy' : y ∈ s.round := hy
        rw [h1] at hy'
        exact (List.mem_cons.1 hy').resolve_left (fun e => hxy e.symm)
      have := h.ord s.hd y hy hxy (by rw [h1]; exact ahead_head hyt) (fun hh => by rw [ho] at hh; cases hh.1)
      omega
    · rw [if_neg e1]
      split <;> omega
  · intro x y hy hxy ha hn
    have e1 : x ≠ s.hd := fun e => hn ⟨rfl, e.symm⟩
    try dsimp only
    rw [if_neg e1]
    have o := h.ord x y hy hxy ha (fun hh => by rw [ho] at hh; cases hh.1)
    split <;> omega
  · intro x y hy hxy _ he
    have he' : s.hd = y := he
    try dsimp only
    rw [if_neg (fun e => hxy (e.trans he')), if_pos he'.symm]
    exact h.one x y hy hxy
  · intro k hk
    rw [hlen] at hk
    rw [hel]
    by_cases e : s.hd = k
    · subst e
      rw [if_pos rfl]
      try dsimp only
      rw [if_pos rfl]
      have := h.money _ hk
      show (got s.hd : Int) + (s.f.credit + s.f.share) ≤ ((b s.hd + 1 : Nat) : Int) * s.f.share
      have e2 : ((b s.hd + 1 : Nat) : Int) * s.f.share = (b s.hd : Int) * s.f.share + s.f.share := by rw [Int.natCast_add, Int.add_mul]; simp
      rw [e2]
      change (got s.hd : Int) + s.f.credit ≤ (b s.hd : Int) * s.f.share at this
      omega
    · rw [if_neg e]
      try dsimp only
      rw [if_neg (fun e2 => e e2.symm)]
      exact h.money k hk
  · intro k hk hj
    rw [hlen] at hk
    rw [hel] at hj ⊢
    by_cases e : s.hd = k
    · subst e
      rw [if_pos rfl]
      try dsimp only
      rw [if_pos rfl]
      have := h.just _ hk h3
      show (got s.hd : Int) + (s.f.credit + s.f.share) = ((b s.hd + 1 : Nat) : Int) * s.f.share
      have e2 : ((b s.hd + 1 : Nat) : Int) * s.f.share = (b s.hd : Int) * s.f.share + s.f.share := by rw [Int.natCast_add, Int.add_mul]; simp
      rw [e2]
      change (got s.hd : Int) + s.f.credit = (b s.hd : Int) * s.f.share at this
      omega
    · rw [if_neg e] at hj ⊢
      try dsimp only
      rw [if_neg (fun e2 => e e2.symm)]
      exact h.just k hk hj
/-- The round is turned. -/
theorem Turns.rot {s : Sd} {b got : Nat → Nat} (h : Turns s b got) (hr : s.round ≠ []) (hg : goes s) (ho : s.on = true) : Turns ⟨s.fl, (rotS s).round, false⟩ b got := by
  obtain ⟨h1, h2, h3⟩ := h.ok.hd hr
  have hR := h.ok.rot hr hg ho
  have hnd := h.ok.nodup
  rw [h1] at hnd
  have hp : ∀ y, y ∈ (rotS s).round ↔ y ∈ s.round := by
    intro y
    unfold rotS
    try dsimp only
    conv => rhs; rw [h1]
    simp [or_comm]
  refine ⟨hR, fun x y hy hxy => h.one x y ((hp y).1 hy) hxy, ?_, (fun _ _ _ _ h => by cases h), h.money, h.just⟩
  intro x y hy hxy ha _
  have hy' := (hp y).1 hy
  unfold rotS at ha
  dsimp only at ha
  rcases ahead_rot hnd ha with ⟨e, hx⟩ | ⟨e, hyt, hx, ha'⟩
  · exact h.cur x y hy' hxy ho e.symm
  · exact h.ord x y hy' hxy (by rw [h1]; exact ahead_tail ha') (fun hh => hx hh.2.symm)
theorem Turns.step {s : Sd} {b got : Nat → Nat} (h : Turns s b got) (hr : s.round ≠ []) (hg : goes s) (ho : s.on = true) : ∃ b', Turns (stepS s) b' got := by
  obtain ⟨h1, _, _⟩ := h.ok.hd hr
  exact ⟨_, (h.rot hr hg ho).begin (s := ⟨s.fl, (rotS s).round, false⟩) (hd_rot h1) rfl⟩
theorem Turns.ends : ∀ (n : Nat) (s : Sd) (b got : Nat → Nat), phi s.fl < n → Turns s b got → s.round ≠ [] → s.on = true → ∃ b', Turns (popEnd s) b' got
  | 0, _, _, _, h, _, _, _ => absurd h (Nat.not_lt_zero _)
  | n + 1, s, b, got, hp, hs, hr, ho => by
    by_cases hg : goes s
    · rw [popEnd_step hs.ok hr hg ho]
      obtain ⟨a, b1, c, d⟩ := hs.ok.step hr hg ho
      obtain ⟨b', hb⟩ := hs.step hr hg ho
      exact Turns.ends n (stepS s) b' got (by omega) hb b1 c
    · rw [popEnd_stop hg]
      exact ⟨b, hs⟩
theorem Turns.search {s : Sd} {b got : Nat → Nat} (h : Turns s b got) (hn : nJ s.fl ≠ 0) : ∃ b', Turns (pop1 s) b' got := by
  have hr : s.round ≠ [] := fun e => hn (h.ok.round.1 e)
  unfold pop1
  by_cases ho : s.on = true
  · rw [if_pos ho]
    exact Turns.ends _ s b got (Nat.lt_succ_self _) h hr ho
  · rw [if_neg ho]
    exact Turns.ends _ (beginS s) _ got (Nat.lt_succ_self _) (h.begin hr (by simpa using ho)) hr rfl
/-- A job is taken. -/
theorem Turns.take {s : Sd} {b got : Nat → Nat} (h : Turns s b got) (hr : s.round ≠ []) (ho : s.on = true) (hg : ¬ goes s) : Turns (takeS s) b (fun k => if k = s.hd then got k + (takeJ s).cost.toNat else got k) := by
  obtain ⟨h1, h2, h3⟩ := h.ok.hd hr
  have hT := (h.ok.take hr ho hg).1
  obtain ⟨j, js, hj⟩ := List.exists_cons_of_ne_nil h3
  have hje : takeJ s = j := by unfold takeJ; rw [hj]; rfl
  have hcost := h.ok.jobs _ h2 j (by show j ∈ s.f.jobs; rw [hj]; simp)
  have hlen : (takeS s).fl.length = s.fl.length := by unfold takeS; simp
  have hel : ∀ i, el (takeS s).fl i = if s.hd = i then ⟨s.f.share, if js = [] then 0 else s.f.credit - j.cost, js⟩ else el s.fl i := by
    intro i
    unfold takeS
    try dsimp only
    rw [el_set _ _ _ _ h2, hje, hj]
    rfl
  have hround : (takeS s).round = if js = [] then s.round.tail else s.round := by unfold takeS; rw [hj]; rfl
  have hon : (takeS s).on = if js = [] then false else true := by unfold takeS; rw [hj, ho]; rfl
  have hnd := h.ok.nodup
  rw [h1] at hnd
  have hsub : ∀ y, y ∈ (takeS s).round → y ∈ s.round := by
    intro y hy
    rw [hround] at hy
    split at hy
    · exact List.mem_of_mem_tail hy
    · exact hy
  have hhd : js ≠ [] → (takeS s).hd = s.hd := fun hjs => by unfold Sd.hd; rw [hround, if_neg hjs]
  rw [hje]
  have hcr : j.cost ≤ s.f.credit := by
    unfold goes at hg
    rw [hj] at hg
    have : el (j :: js) 0 = j := rfl
    rw [this] at hg
    omega
  refine ⟨hT, fun x y hy hxy => h.one x y (hsub y hy) hxy, ?_, ?_, ?_, ?_⟩
  · intro x y hy hxy ha hn
    rw [hround] at ha
    by_cases hjs : js = []
    · rw [if_pos hjs] at ha
      refine h.ord x y (hsub y hy) hxy (by rw [h1]; exact ahead_tail ha) ?_
      rintro ⟨_, e⟩
      obtain ⟨l1, l2, e2, hx⟩ := ha
      have := (List.nodup_cons.1 hnd).1
      rw [e2, e] at this
      exact this (by simp [hx])
    · rw [if_neg hjs] at ha
      refine h.ord x y (hsub y hy) hxy ha ?_
      rintro ⟨_, e⟩
      exact hn ⟨by rw [hon, if_neg hjs], (hhd hjs).trans e⟩
  · intro x y hy hxy hon2 he
    rw [hon] at hon2
    by_cases hjs : js = []
    · rw [if_pos hjs] at hon2; cases hon2
    · exact h.cur x y (hsub y hy) hxy ho ((hhd hjs).symm.trans he)
  · intro k hk
    rw [hlen] at hk
    rw [hel]
    by_cases e : s.hd = k
    · subst e
      rw [if_pos rfl]
      try dsimp only
      rw [if_pos rfl]
      have := h.money _ hk
      change (got s.hd : Int) + s.f.credit ≤ (b s.hd : Int) * s.f.share at this
      split <;> (try dsimp only) <;> omega
    · rw [if_neg e]
      try dsimp only
      rw [if_neg (fun e2 => e e2.symm)]
      exact h.money k hk
  · intro k hk hjk
    rw [hlen] at hk
    rw [hel] at hjk ⊢
    by_cases e : s.hd = k
    · subst e
      rw [if_pos rfl] at hjk ⊢
      dsimp only at hjk ⊢
      rw [if_pos rfl, if_neg hjk]
      try dsimp only
      have := h.just _ hk h3
      change (got s.hd : Int) + s.f.credit = (b s.hd : Int) * s.f.share at this
      omega
    · rw [if_neg e] at hjk ⊢
      try dsimp only
      rw [if_neg (fun e2 => e e2.symm)]
      exact h.just k hk hjk
theorem Turns.pop {s : Sd} {b got : Nat → Nat} (h : Turns s b got) (hn : nJ s.fl ≠ 0) {k : Nat} {js : List JX} (hp : Popped s k js) :
    ∃ b', Turns (pop1 s) b' got ∧ Turns (popS s) b' (fun i => if i = k then got i + (popJ s).cost.toNat else got i) := by
  obtain ⟨b', hb⟩ := h.search hn
  obtain ⟨_, c, d, e⟩ := h.ok.pop1 hn
  have ht := hb.take c d e
  rw [hp.head] at ht
  exact ⟨b', hb, ht⟩
/-- Where no turn began yet. -/
theorem Turns.start {s : Sd} (h : Ok s) (hz : ∀ k, k < s.fl.length → (el s.fl k).credit = 0) : Turns s (fun _ => 0) (fun _ => 0) :=
  ⟨h, fun _ _ _ _ => by simp, fun _ _ _ _ _ _ => Nat.le_refl _, fun _ _ _ _ _ _ => Nat.le_refl _, fun k hk => by rw [hz k hk]; simp, fun k hk _ => by rw [hz k hk]; simp⟩

/-- No job costs more than most, and no credit is more than that, and a share. -/
structure Caps (s : Sd) (most : Int) : Prop where
  cost : ∀ k, k < s.fl.length → ∀ j ∈ (el s.fl k).jobs, j.cost ≤ most
  cr : ∀ k, k < s.fl.length → (el s.fl k).credit ≤ most + (el s.fl k).share
theorem Caps.begin {s : Sd} {most : Int} (h : Caps s most) (hk : s.hd < s.fl.length) (h3 : s.f.jobs ≠ []) (hl : s.f.credit < (el s.f.jobs 0).cost) : Caps (beginS s) most := by
  have hc : (el s.f.jobs 0).cost ≤ most := h.cost _ hk _ (el_mem (List.length_pos_iff.2 h3))
  have hel : ∀ i, el (beginS s).fl i = if s.hd = i then { s.f with credit := s.f.credit + s.f.share } else el s.fl i := by
    intro i
    unfold beginS
    dsimp only
    rw [el_set _ _ _ _ hk]
  have hlen : (beginS s).fl.length = s.fl.length := by unfold beginS; simp
  refine ⟨fun k hk' j hj => ?_, fun k hk' => ?_⟩
  · rw [hlen] at hk'
    rw [hel] at hj
    split at hj
    · rename_i e; subst e; exact h.cost _ hk' j hj
    · exact h.cost k hk' j hj
  · rw [hlen] at hk'
    rw [hel]
    split
    · dsimp only; omega
    · exact h.cr k hk'
theorem Caps.step {s : Sd} {most : Int} (h : Caps s most) (ho : Ok s) (hr : s.round ≠ []) (hg : goes s) (hon : s.on = true) : Caps (stepS s) most := by
  obtain ⟨h1, h2, h3⟩ := ho.hd hr
  have hR := ho.rot hr hg hon
  obtain ⟨g1, g2, g3⟩ := hR.hd (s := ⟨s.fl, (rotS s).round, false⟩) (hd_rot h1)
  have hl := hR.less _ g2 g3 (fun h => by cases h.1)
  exact Caps.begin (s := rotS s) ⟨h.cost, h.cr⟩ g2 g3 hl
theorem Caps.ends {most : Int} : ∀ (n : Nat) (s : Sd), phi s.fl < n → Caps s most → Ok s → s.round ≠ [] → s.on = true → Caps (popEnd s) most
  | 0, _, h, _, _, _, _ => absurd h (Nat.not_lt_zero _)
  | n + 1, s, hp, hc, hs, hr, ho => by
    by_cases hg : goes s
    · rw [popEnd_step hs hr hg ho]
      obtain ⟨a, b, c, d⟩ := hs.step hr hg ho
      exact Caps.ends n (stepS s) (by omega) (hc.step hs hr hg ho) a b c
    · rw [popEnd_stop hg]
      exact hc
theorem Caps.search {s : Sd} {most : Int} (h : Caps s most) (ho : Ok s) (hn : nJ s.fl ≠ 0) : Caps (pop1 s) most := by
  obtain ⟨p1, p2, p3⟩ := ho.pop0 hn
  unfold pop1
  refine Caps.ends _ _ (Nat.lt_succ_self _) ?_ p1 p2 p3
  have hr : s.round ≠ [] := fun e => hn (ho.round.1 e)
  obtain ⟨h1, h2, h3⟩ := ho.hd hr
  split
  · exact h
  · rename_i hon
    exact h.begin h2 h3 (ho.less _ h2 h3 (fun hh => hon hh.1))
theorem Caps.pop {s : Sd} {most : Int} (h : Caps s most) (hm : 0 ≤ most) (ho : Ok s) (hn : nJ s.fl ≠ 0) : Caps (popS s) most := by
  have hc := h.search ho hn
  obtain ⟨a, b, c, d⟩ := ho.pop1 hn
  obtain ⟨h1, h2, h3⟩ := a.hd b
  have hf : (pop1 s).f ∈ (pop1 s).fl := el_mem h2
  have hsh := a.share _ hf
  have hcr : (pop1 s).f.credit ≤ most + (pop1 s).f.share := hc.cr _ h2
  have hco := a.jobs _ h2 (el (pop1 s).f.jobs 0) (el_mem (List.length_pos_iff.2 h3))
  unfold popS takeS takeJ
  refine ⟨fun k hk j hj => ?_, fun k hk => ?_⟩
  · dsimp only at hk hj
    rw [List.length_set] at hk
    rw [el_set _ _ _ _ h2] at hj
    split at hj
    · rename_i e; subst e; exact hc.cost _ hk j (List.mem_of_mem_tail hj)
    · exact hc.cost k hk j hj
  · dsimp only at hk ⊢
    rw [List.length_set] at hk
    rw [el_set _ _ _ _ h2]
    split
    · dsimp only
      split <;> omega
    · exact hc.cr k hk
theorem fair_arith {A B ga gb sa sb ca cb m : Int} (h1 : ga + ca = A * sa) (h2 : gb + cb = B * sb) (hsa : 1 ≤ sa) (hsb : 1 ≤ sb) (hca : 0 ≤ ca) (hm : 0 ≤ m) (hc : (A ≤ B + 1 ∧ cb ≤ m) ∨ (A ≤ B ∧ cb ≤ m + sb)) :
    ga * sb - gb * sa ≤ sa * sb + m * sb + m * sa := by
  have e1 : ga * sb = A * (sa * sb) - ca * sb := by
    have : ga = A * sa - ca := by omega
    rw [this, Int.sub_mul, Int.mul_assoc]
  have e2 : gb * sa = B * (sa * sb) - cb * sa := by
    have : gb = B * sb - cb := by omega
    rw [this, Int.sub_mul, Int.mul_assoc, Int.mul_comm sb sa]
  have hP : 0 ≤ sa * sb := Int.mul_nonneg (by omega) (by omega)
  have h3 : 0 ≤ ca * sb := Int.mul_nonneg hca (by omega)
  have h4 : 0 ≤ m * sb := Int.mul_nonneg hm (by omega)
  rcases hc with ⟨hab, hcb⟩ | ⟨hab, hcb⟩
  · have h5 : 0 ≤ (B + 1 - A) * (sa * sb) := Int.mul_nonneg (by omega) hP
    rw [Int.sub_mul, Int.add_mul, Int.one_mul] at h5
    have h6 : 0 ≤ (m - cb) * sa := Int.mul_nonneg (by omega) (by omega)
    rw [Int.sub_mul] at h6
    omega
  · have h5 : 0 ≤ (B - A) * (sa * sb) := Int.mul_nonneg (by omega) hP
    rw [Int.sub_mul] at h5
    have h6 : 0 ≤ (m + sb - cb) * sa := Int.mul_nonneg (by omega) (by omega)
    rw [Int.sub_mul, Int.add_mul, Int.mul_comm sb sa] at h6
    omega
/-- Of two flows in which something waits. -/
theorem Turns.fair {s : Sd} {b got : Nat → Nat} {most : Int} (h : Turns s b got) (hc : Caps s most) (hm : 0 ≤ most) {x y : Nat} (hx : x < s.fl.length) (hy : y < s.fl.length) (hjx : (el s.fl x).jobs ≠ []) (hjy : (el s.fl y).jobs ≠ []) :
    (got x : Int) * (el s.fl y).share - (got y : Int) * (el s.fl x).share ≤ (el s.fl x).share * (el s.fl y).share + most * (el s.fl y).share + most * (el s.fl x).share := by
  have hsx := h.ok.share _ (el_mem hx)
  have hsy := h.ok.share _ (el_mem hy)
  have hlx := h.ok.lo _ (el_mem hx)
  have hly := h.ok.lo _ (el_mem hy)
  have ex := h.just x hx hjx
  have ey := h.just y hy hjy
  have hyr := (h.ok.mem y).2 ⟨hy, hjy⟩
  refine fair_arith ex ey hsx.1 hsy.1 hlx.1 hm ?_
  by_cases hxy : x = y
  · subst hxy
    exact .inr ⟨Int.le_refl _, hc.cr _ hx⟩
  · by_cases hh : s.on = true ∧ s.hd = y
    · have := h.cur x y hyr hxy hh.1 hh.2
      exact .inr ⟨by omega, hc.cr _ hy⟩
    · have := h.one x y hyr hxy
      have h1 := h.ok.less y hy hjy hh
      have h2 := hc.cost y hy _ (el_mem (List.length_pos_iff.2 hjy))
      exact .inl ⟨by omega, by omega⟩
/-- As long as a job of 120 waits first in its flow, which was given nothing. -/
theorem Turns.wait {s : Sd} {b got : Nat → Nat} (h : Turns s b got) {me : Nat} (hme : me < s.fl.length) (hj : (el s.fl me).jobs ≠ []) (hg : got me = 0) (hc : (el (el s.fl me).jobs 0).cost = 120) (hn : ¬ (s.on = true ∧ s.hd = me)) {k : Nat} (hk : k < s.fl.length) (hkm : k ≠ me) :
    (got k : Int) ≤ ((120 + (el s.fl me).share - 1) / (el s.fl me).share + 1) * (el s.fl k).share := by
  have h1 := h.just me hme hj
  have h2 := h.ok.less me hme hj hn
  have h3 := h.ok.share _ (el_mem hme)
  have h4 := h.money k hk
  have h5 := h.ok.lo _ (el_mem hk)
  have h6 := h.ok.share _ (el_mem hk)
  have h7 := h.one k me ((h.ok.mem me).2 ⟨hme, hj⟩) hkm
  rw [hg, hc] at *
  have hb : (b me : Int) ≤ (120 + (el s.fl me).share - 1) / (el s.fl me).share := by
    rw [Int.le_ediv_iff_mul_le (by omega)]
    omega
  have h8 : (b k : Int) * (el s.fl k).share ≤ ((120 + (el s.fl me).share - 1) / (el s.fl me).share + 1) * (el s.fl k).share := Int.mul_le_mul_of_nonneg_right (by omega) (by omega)
  omega
end Go.Proofs.Ytdhmopmfnnlhcaa
