/-
  Law: deficit rounds, in plain terms (drr).
-/
import Derived.Test.YtdhmopmfnnlhcaaDrr1
namespace Go.Proofs.Ytdhmopmfnnlhcaa
open Go Go.RowKit

/-- A flow: share, credit, jobs. -/
structure Fl where
  share : Int
  credit : Int
  jobs : List JX
instance : Inhabited Fl := ⟨⟨0, 0, []⟩⟩
/-- A scheduler: flows, the round, is it the first one's turn. -/
structure Sd where
  fl : List Fl
  round : List Nat
  on : Bool
/-- How many wait. -/
def nJ (fl : List Fl) : Nat := (fl.map fun f => f.jobs.length).sum
def Sd.hd (s : Sd) : Nat := s.round.headD 0
def Sd.f (s : Sd) : Fl := el s.fl s.hd
def beginS (s : Sd) : Sd := ⟨s.fl.set s.hd { s.f with credit := s.f.credit + s.f.share }, s.round, true⟩
def rotS (s : Sd) : Sd := ⟨s.fl, s.round.tail ++ [s.hd], s.on⟩
/-- The first job of the flow whose turn it is costs more than its credit. -/
def goes (s : Sd) : Prop := s.f.credit < (el s.f.jobs 0).cost
instance (s : Sd) : Decidable (goes s) := inferInstanceAs (Decidable (_ < _))
def stepS (s : Sd) : Sd := beginS (rotS s)
def pf (f : Fl) : Nat := ((el f.jobs 0).cost - f.credit).toNat
def phi (fl : List Fl) : Nat := (fl.map pf).sum
def popN : Nat → Sd → Sd
  | 0, s => s
  | n + 1, s => if goes s then popN n (stepS s) else s
def popEnd (s : Sd) : Sd := popN (phi s.fl + 1) s
def takeJ (s : Sd) : JX := el s.f.jobs 0
def takeS (s : Sd) : Sd :=
  ⟨s.fl.set s.hd ⟨s.f.share, if s.f.jobs.tail = [] then 0 else s.f.credit - (takeJ s).cost, s.f.jobs.tail⟩,
    if s.f.jobs.tail = [] then s.round.tail else s.round, if s.f.jobs.tail = [] then false else s.on⟩
/-- What Pop ends its search with. -/
def pop1 (s : Sd) : Sd := popEnd (if s.on then s else beginS s)
def popS (s : Sd) : Sd := takeS (pop1 s)
def popJ (s : Sd) : JX := takeJ (pop1 s)
def pushE (s : Sd) (j : JX) : Int := if j.flow < 0 ∨ (s.fl.length : Int) ≤ j.flow ∨ j.cost < 1 ∨ 100000 < j.cost then 2 else if 1024 ≤ nJ s.fl then 5 else 0
def pushS (s : Sd) (j : JX) : Sd := if pushE s j = 0 then
  ⟨s.fl.set j.flow.toNat { el s.fl j.flow.toNat with jobs := (el s.fl j.flow.toNat).jobs ++ [j] }, if j.flow.toNat ∈ s.round then s.round else s.round ++ [j.flow.toNat], s.on⟩ else s

/-- What always holds. -/
structure Ok (s : Sd) : Prop where
  len : 1 ≤ s.fl.length ∧ s.fl.length ≤ 32
  share : ∀ f ∈ s.fl, 1 ≤ f.share ∧ f.share ≤ 100000
  nodup : s.round.Nodup
  mem : ∀ k, k ∈ s.round ↔ k < s.fl.length ∧ (el s.fl k).jobs ≠ []
  jobs : ∀ k, k < s.fl.length → ∀ j ∈ (el s.fl k).jobs, j.flow = (k : Int) ∧ 1 ≤ j.cost ∧ j.cost ≤ 100000
  lo : ∀ f ∈ s.fl, 0 ≤ f.credit ∧ f.credit ≤ 200000
  none : ∀ f ∈ s.fl, f.jobs = [] → f.credit = 0
  less : ∀ k, k < s.fl.length → (el s.fl k).jobs ≠ [] → ¬ (s.on = true ∧ s.hd = k) → (el s.fl k).credit < (el (el s.fl k).jobs 0).cost
  on : s.on = true → s.round ≠ []
  total : nJ s.fl ≤ 1024

theorem sum_set (l : List Nat) (k x : Nat) (hk : k < l.length) : (l.set k x).sum + l[k] = l.sum + x := by
  induction l generalizing k with
  | nil => simp at hk
  | cons a l ih =>
    cases k with
    | zero => simp; omega
    | succ k =>
      have := ih k (by simpa using hk)
      simp only [List.set_cons_succ, List.sum_cons, List.getElem_cons_succ]
      omega
theorem map_sum_set {α : Type} [Inhabited α] (f : α → Nat) (l : List α) (k : Nat) (x : α) (hk : k < l.length) : ((l.set k x).map f).sum + f (el l k) = (l.map f).sum + f x := by
  rw [List.map_set]
  have := sum_set (l.map f) k (f x) (by simpa using hk)
  rw [List.getElem_map] at this
  have e : el l k = l[k] := by simp [el, hk]
  rw [e]
  exact this
theorem set_mem {α : Type} {l : List α} {k : Nat} {x y : α} (h : y ∈ l.set k x) : y ∈ l ∨ y = x := List.mem_or_eq_of_mem_set h

section
variable {s : Sd}
theorem Ok.hd (h : Ok s) (hr : s.round ≠ []) : s.round = s.hd :: s.round.tail ∧ s.hd < s.fl.length ∧ s.f.jobs ≠ [] := by
  cases hc : s.round with
  | nil => exact absurd hc hr
  | cons k r =>
    have hk : s.hd = k := by unfold Sd.hd; rw [hc]; rfl
    have := (h.mem k).1 (by rw [hc]; simp)
    unfold Sd.f
    rw [hk]
    exact ⟨rfl, this.1, this.2⟩
theorem Ok.begin (h : Ok s) (hr : s.round ≠ []) (hl : s.f.credit < (el s.f.jobs 0).cost) : Ok (beginS s) := by
  obtain ⟨h1, h2, h3⟩ := h.hd hr
  have hf : s.f ∈ s.fl := el_mem h2
  have hsh := h.share _ hf
  have hlo := h.lo _ hf
  have hcost : (el s.f.jobs 0).cost ≤ 100000 := (h.jobs _ h2 _ (el_mem (List.length_pos_iff.2 h3))).2.2
  have he : ∀ i, (el (beginS s).fl i).jobs = (el s.fl i).jobs := by
    intro i
    unfold beginS
    dsimp only
    rw [el_set _ _ _ _ h2]
    split
    · rename_i e; subst e; rfl
    · rfl
  have hlen : (beginS s).fl.length = s.fl.length := by unfold beginS; simp
  have hmem : ∀ f ∈ (beginS s).fl, f ∈ s.fl ∨ f = { s.f with credit := s.f.credit + s.f.share } := fun f hf => set_mem hf
  refine ⟨by rw [hlen]; exact h.len, ?_, h.nodup, ?_, ?_, ?_, ?_, ?_, fun _ => hr, ?_⟩
  · intro f hf'
    rcases hmem f hf' with h' | rfl
    · exact h.share f h'
    · exact hsh
  · intro k
    rw [hlen, he]
    exact h.mem k
  · intro k hk j hj
    rw [hlen] at hk
    rw [he] at hj
    exact h.jobs k hk j hj
  · intro f hf'
    rcases hmem f hf' with h' | rfl
    · exact h.lo f h'
    · exact ⟨by dsimp only; omega, by dsimp only; omega⟩
  · intro f hf' hn
    rcases hmem f hf' with h' | rfl
    · exact h.none f h' hn
    · exact absurd hn h3
  · intro k hk hj hn
    rw [hlen] at hk
    rw [he] at hj ⊢
    have hne : k ≠ s.hd := fun e => hn ⟨rfl, e ▸ rfl⟩
    have e2 : el (beginS s).fl k = el s.fl k := by
      unfold beginS
      dsimp only
      rw [el_set _ _ _ _ h2, if_neg (fun e => hne e.symm)]
    rw [e2]
    exact h.less k hk hj (fun hh => hne hh.2.symm)
  · have : nJ (beginS s).fl = nJ s.fl := by
      unfold nJ beginS
      have := map_sum_set (fun f : Fl => f.jobs.length) s.fl s.hd { s.f with credit := s.f.credit + s.f.share } h2
      dsimp only at this ⊢
      change _ + s.f.jobs.length = _ at this
      omega
    rw [this]
    exact h.total
theorem hd_rot (h : s.round = s.hd :: s.round.tail) : (rotS s).round ≠ [] := by
  unfold rotS
  simp
theorem Ok.rot (h : Ok s) (hr : s.round ≠ []) (hg : goes s) (hon : s.on = true) : Ok ⟨s.fl, (rotS s).round, false⟩ := by
  obtain ⟨h1, h2, h3⟩ := h.hd hr
  have hp : (rotS s).round.Perm s.round := by
    unfold rotS
    dsimp only
    rw [h1]
    exact List.perm_append_singleton _ _
  refine ⟨h.len, h.share, hp.nodup_iff.2 h.nodup, fun k => by rw [hp.mem_iff]; exact h.mem k, h.jobs, h.lo, h.none, ?_, (fun h => by cases h), h.total⟩
  intro k hk hj _
  by_cases e : s.hd = k
  · subst e
    exact hg
  · exact h.less k hk hj (fun h => e h.2)
/-- A round further. -/
theorem Ok.step (h : Ok s) (hr : s.round ≠ []) (hg : goes s) (hon : s.on = true) : Ok (stepS s) ∧ (stepS s).round ≠ [] ∧ (stepS s).on = true ∧ phi (stepS s).fl < phi s.fl := by
  obtain ⟨h1, h2, h3⟩ := h.hd hr
  have hR := h.rot hr hg hon
  have hne := hd_rot h1
  obtain ⟨g1, g2, g3⟩ := hR.hd (s := ⟨s.fl, (rotS s).round, false⟩) hne
  have hl := hR.less _ g2 g3 (fun h => by cases h.1)
  have hB := hR.begin (s := ⟨s.fl, (rotS s).round, false⟩) hne hl
  refine ⟨hB, hne, rfl, ?_⟩
  have hsh := h.share _ (el_mem g2)
  have hm := map_sum_set pf s.fl (Sd.hd ⟨s.fl, (rotS s).round, false⟩) { el s.fl (Sd.hd ⟨s.fl, (rotS s).round, false⟩) with credit := (el s.fl (Sd.hd ⟨s.fl, (rotS s).round, false⟩)).credit + (el s.fl (Sd.hd ⟨s.fl, (rotS s).round, false⟩)).share } g2
  have e1 : phi (stepS s).fl = (((s.fl.set (Sd.hd ⟨s.fl, (rotS s).round, false⟩) { el s.fl (Sd.hd ⟨s.fl, (rotS s).round, false⟩) with credit := (el s.fl (Sd.hd ⟨s.fl, (rotS s).round, false⟩)).credit + (el s.fl (Sd.hd ⟨s.fl, (rotS s).round, false⟩)).share })).map pf).sum := rfl
  rw [e1]
  unfold phi
  have p1 : pf { el s.fl (Sd.hd ⟨s.fl, (rotS s).round, false⟩) with credit := (el s.fl (Sd.hd ⟨s.fl, (rotS s).round, false⟩)).credit + (el s.fl (Sd.hd ⟨s.fl, (rotS s).round, false⟩)).share } < pf (el s.fl (Sd.hd ⟨s.fl, (rotS s).round, false⟩)) := by
    unfold pf
    dsimp only at hl ⊢
    omega
  omega
end
theorem popN_more : ∀ (n m : Nat) (s : Sd), Ok s → s.round ≠ [] → s.on = true → phi s.fl < n → n ≤ m → popN m s = popN n s
  | 0, _, _, _, _, _, h, _ => absurd h (Nat.not_lt_zero _)
  | n + 1, 0, _, _, _, _, _, h => absurd h (by omega)
  | n + 1, m + 1, s, hs, hr, ho, hp, hm => by
    unfold popN
    split
    · rename_i hg
      obtain ⟨a, b, c, d⟩ := hs.step hr hg ho
      exact popN_more n m (stepS s) a b c (by omega) (by omega)
    · rfl
theorem popEnd_step {s : Sd} (h : Ok s) (hr : s.round ≠ []) (hg : goes s) (ho : s.on = true) : popEnd s = popEnd (stepS s) := by
  obtain ⟨a, b, c, d⟩ := h.step hr hg ho
  show popN (phi s.fl + 1) s = popN (phi (stepS s).fl + 1) (stepS s)
  rw [popN, if_pos hg]
  exact popN_more _ _ _ a b c (by omega) (by omega)
theorem popEnd_stop {s : Sd} (hg : ¬ goes s) : popEnd s = s := by
  unfold popEnd popN
  rw [if_neg hg]
/-- The search's end. -/
theorem popEnd_ok : ∀ (n : Nat) (s : Sd), phi s.fl < n → Ok s → s.round ≠ [] → s.on = true → Ok (popEnd s) ∧ (popEnd s).round ≠ [] ∧ (popEnd s).on = true ∧ ¬ goes (popEnd s)
  | 0, _, h, _, _, _ => absurd h (Nat.not_lt_zero _)
  | n + 1, s, hp, hs, hr, ho => by
    by_cases hg : goes s
    · rw [popEnd_step hs hr hg ho]
      obtain ⟨a, b, c, d⟩ := hs.step hr hg ho
      exact popEnd_ok n (stepS s) (by omega) a b c
    · rw [popEnd_stop hg]
      exact ⟨hs, hr, ho, hg⟩
theorem nJ_set (fl : List Fl) (k : Nat) (x : Fl) (hk : k < fl.length) : nJ (fl.set k x) + (el fl k).jobs.length = nJ fl + x.jobs.length := map_sum_set (fun f : Fl => f.jobs.length) fl k x hk
/-- A job is taken. -/
theorem Ok.take {s : Sd} (h : Ok s) (hr : s.round ≠ []) (ho : s.on = true) (hg : ¬ goes s) : Ok (takeS s) ∧ nJ (takeS s).fl + 1 = nJ s.fl := by
  obtain ⟨h1, h2, h3⟩ := h.hd hr
  obtain ⟨j, js, hj⟩ := List.exists_cons_of_ne_nil h3
  have hje : takeJ s = j := by unfold takeJ; rw [hj]; rfl
  have hf : s.f ∈ s.fl := el_mem h2
  have hsh := h.share _ hf
  have hlo := h.lo _ hf
  have hcost := h.jobs _ h2 j (by show j ∈ s.f.jobs; rw [hj]; simp)
  have hcr : j.cost ≤ s.f.credit := by
    unfold goes at hg
    rw [hj] at hg
    have : el (j :: js) 0 = j := rfl
    rw [this] at hg
    omega
  have hlen : (takeS s).fl.length = s.fl.length := by unfold takeS; simp
  have hne : (takeS s).fl = s.fl.set s.hd ⟨s.f.share, if js = [] then 0 else s.f.credit - j.cost, js⟩ := by
    unfold takeS
    rw [hje, hj]
    rfl
  have hel : ∀ i, el (takeS s).fl i = if s.hd = i then ⟨s.f.share, if js = [] then 0 else s.f.credit - j.cost, js⟩ else el s.fl i := by
    intro i
    rw [hne, el_set _ _ _ _ h2]
  have hround : (takeS s).round = if js = [] then s.round.tail else s.round := by unfold takeS; rw [hj]; rfl
  have hon : (takeS s).on = if js = [] then false else true := by unfold takeS; rw [hj, ho]; rfl
  have hmem : ∀ f ∈ (takeS s).fl, f ∈ s.fl ∨ f = ⟨s.f.share, if js = [] then 0 else s.f.credit - j.cost, js⟩ := fun f hf => set_mem (hne ▸ hf)
  have hnd : s.hd ∉ s.round.tail := by
    have := h.nodup
    rw [h1] at this
    exact (List.nodup_cons.1 this).1
  have htot : nJ (takeS s).fl + 1 = nJ s.fl := by
    have := nJ_set s.fl s.hd ⟨s.f.share, if js = [] then 0 else s.f.credit - j.cost, js⟩ h2
    rw [← hne] at this
    have e : (el s.fl s.hd).jobs.length = js.length + 1 := by show s.f.jobs.length = _; rw [hj]; rfl
    rw [e] at this
    dsimp only at this
    omega
  refine ⟨⟨by rw [hlen]; exact h.len, ?_, ?_, ?_, ?_, ?_, ?_, ?_, ?_, ?_⟩, htot⟩
  · intro f hf'
    rcases hmem f hf' with h' | rfl
    · exact h.share f h'
    · exact hsh
  · rw [hround]
    split
    · exact h.nodup.sublist (List.tail_sublist _)
    · exact h.nodup
  · intro k
    rw [hlen, hround, hel]
    by_cases hjs : js = []
    · rw [if_pos hjs]
      by_cases hk : s.hd = k
      · subst hk
        rw [if_pos rfl]
        exact ⟨fun hm => absurd hm hnd, fun hm => absurd hjs hm.2⟩
      · rw [if_neg hk, ← h.mem k]
        constructor
        · intro hm; exact List.mem_of_mem_tail hm
        · intro hm
          rw [h1] at hm
          rcases List.mem_cons.1 hm with e | hm
          · exact absurd e.symm hk
          · exact hm
    · rw [if_neg hjs]
      by_cases hk : s.hd = k
      · subst hk
        rw [if_pos rfl]
        exact ⟨fun _ => ⟨h2, hjs⟩, fun _ => (h.mem _).2 ⟨h2, h3⟩⟩
      · rw [if_neg hk]
        exact h.mem k
  · intro k hk x hx
    rw [hlen] at hk
    rw [hel] at hx
    split at hx
    · rename_i e
      refine h.jobs k hk x ?_
      rw [← e]
      show x ∈ s.f.jobs
      rw [hj]
      exact List.mem_cons_of_mem _ hx
    · exact h.jobs k hk x hx
  · intro f hf'
    rcases hmem f hf' with h' | rfl
    · exact h.lo f h'
    · dsimp only
      split <;> omega
  · intro f hf' hn
    rcases hmem f hf' with h' | rfl
    · exact h.none f h' hn
    · dsimp only at hn ⊢
      rw [if_pos hn]
  · intro k hk hjk hn
    rw [hlen] at hk
    rw [hel] at hjk ⊢
    by_cases e : s.hd = k
    · rw [if_pos e] at hjk ⊢
      dsimp only at hjk
      exact absurd ⟨by rw [hon, if_neg hjk], by unfold Sd.hd; rw [hround, if_neg hjk]; exact e⟩ hn
    · rw [if_neg e] at hjk ⊢
      exact h.less k hk hjk (fun h => e h.2)
  · intro hon2
    rw [hon] at hon2
    rw [hround]
    split
    · rename_i hjs; rw [if_pos hjs] at hon2; cases hon2
    · exact hr
  · have := h.total
    omega
/-- A job is pushed. -/
theorem Ok.push {s : Sd} (h : Ok s) (j : JX) : Ok (pushS s j) := by
  unfold pushS
  by_cases he : pushE s j = 0
  · rw [if_pos he]
    have hc : 0 ≤ j.flow ∧ j.flow < (s.fl.length : Int) ∧ 1 ≤ j.cost ∧ j.cost ≤ 100000 ∧ nJ s.fl < 1024 := by
      unfold pushE at he
      split at he
      · cases he
      · split at he
        · cases he
        · omega
    obtain ⟨p1, p2, p3, p4, p5⟩ := hc
    obtain ⟨k, hk⟩ : ∃ k, j.flow.toNat = k := ⟨_, rfl⟩
    rw [hk]
    have h2 : k < s.fl.length := by omega
    have hf : el s.fl k ∈ s.fl := el_mem h2
    have hmem : ∀ f ∈ s.fl.set k { el s.fl k with jobs := (el s.fl k).jobs ++ [j] }, f ∈ s.fl ∨ f = { el s.fl k with jobs := (el s.fl k).jobs ++ [j] } := fun f hf => set_mem hf
    refine ⟨by simp; exact h.len, ?_, ?_, ?_, ?_, ?_, ?_, ?_, ?_, ?_⟩
    · intro f hf'
      rcases hmem f hf' with h' | rfl
      · exact h.share f h'
      · exact h.share (el s.fl k) hf
    · dsimp only
      split
      · exact h.nodup
      · rename_i hn
        rw [List.nodup_append]
        exact ⟨h.nodup, by simp, fun a ha b hb e => by rw [List.mem_singleton] at hb; subst hb; subst e; exact hn ha⟩
    · intro i
      dsimp only
      rw [List.length_set, el_set _ _ _ _ h2]
      by_cases e : k = i
      · subst e
        rw [if_pos rfl]
        constructor
        · intro _; exact ⟨h2, by simp⟩
        · intro _
          split
          · assumption
          · simp
      · rw [if_neg e, ← h.mem i]
        split
        · rfl
        · rw [List.mem_append, List.mem_singleton]
          exact ⟨fun hm => hm.resolve_right (fun e2 => e e2.symm), fun hm => .inl hm⟩
    · intro i hi x hx
      dsimp only at hi hx
      rw [List.length_set] at hi
      rw [el_set _ _ _ _ h2] at hx
      split at hx
      · rename_i e
        subst e
        rcases List.mem_append.1 hx with hx | hx
        · exact h.jobs _ hi x hx
        · rw [List.mem_singleton] at hx
          subst hx
          exact ⟨by omega, p3, p4⟩
      · exact h.jobs i hi x hx
    · intro f hf'
      rcases hmem f hf' with h' | rfl
      · exact h.lo f h'
      · exact h.lo (el s.fl k) hf
    · intro f hf' hn
      rcases hmem f hf' with h' | rfl
      · exact h.none f h' hn
      · simp at hn
    · intro i hi hji hn
      dsimp only at hi hji hn ⊢
      rw [List.length_set] at hi
      rw [el_set _ _ _ _ h2] at hji ⊢
      by_cases e : k = i
      · subst e
        rw [if_pos rfl] at hji ⊢
        dsimp only
        by_cases hj0 : (el s.fl k).jobs = []
        · rw [h.none _ hf hj0, hj0]
          show 0 < j.cost
          omega
        · have e3 : el ((el s.fl k).jobs ++ [j]) 0 = el (el s.fl k).jobs 0 := by
            obtain ⟨a, r, hr⟩ := List.exists_cons_of_ne_nil hj0
            rw [hr]
            rfl
          rw [e3]
          refine h.less k hi hj0 ?_
          rintro ⟨a1, a2⟩
          refine hn ⟨a1, ?_⟩
          have hm := (h.mem k).2 ⟨hi, hj0⟩
          rw [if_pos hm]
          exact a2
      · rw [if_neg e] at hji ⊢
        refine h.less i hi hji ?_
        rintro ⟨a1, a2⟩
        refine hn ⟨a1, ?_⟩
        unfold Sd.hd at a2 ⊢
        dsimp only
        split
        · exact a2
        · have hr := h.on a1
          obtain ⟨a, r, hr⟩ := List.exists_cons_of_ne_nil hr
          rw [hr] at a2 ⊢
          exact a2
    · intro ho
      dsimp only
      split
      · exact h.on ho
      · simp
    · dsimp only
      have := nJ_set s.fl k { el s.fl k with jobs := (el s.fl k).jobs ++ [j] } h2
      dsimp only at this
      rw [List.length_append, List.length_singleton] at this
      omega
  · rw [if_neg he]
    exact h
theorem sum_zero : ∀ (l : List Nat), (∀ x ∈ l, x = 0) → l.sum = 0
  | [], _ => rfl
  | a :: l, h => by
    rw [List.sum_cons, h a (by simp), sum_zero l fun x hx => h x (by simp [hx])]
theorem sum_pos : ∀ (l : List Nat) (x : Nat), x ∈ l → x ≤ l.sum
  | [], _, h => by cases h
  | a :: l, x, h => by
    rw [List.sum_cons]
    rcases List.mem_cons.1 h with rfl | h
    · omega
    · have := sum_pos l x h; omega
/-- Something waits just if the round is not empty. -/
theorem Ok.round {s : Sd} (h : Ok s) : s.round = [] ↔ nJ s.fl = 0 := by
  constructor
  · intro hr
    refine sum_zero _ fun x hx => ?_
    obtain ⟨f, hf, rfl⟩ := List.mem_map.1 hx
    obtain ⟨k, hk, rfl⟩ := List.getElem_of_mem hf
    have e : el s.fl k = s.fl[k] := by simp [el, hk]
    rcases Nat.eq_zero_or_pos s.fl[k].jobs.length with h0 | h0
    · exact h0
    · have := (h.mem k).2 ⟨hk, by rw [e]; exact List.length_pos_iff.1 h0⟩
      rw [hr] at this
      cases this
  · intro hn
    apply Classical.byContradiction
    intro hr
    obtain ⟨h1, h2, h3⟩ := h.hd hr
    have := sum_pos (s.fl.map fun f => f.jobs.length) s.f.jobs.length (List.mem_map.2 ⟨s.f, el_mem h2, rfl⟩)
    unfold nJ at hn
    have := List.length_pos_iff.2 h3
    omega
/-- The search's begin, from any state in which something waits. -/
theorem Ok.pop0 {s : Sd} (h : Ok s) (hn : nJ s.fl ≠ 0) : Ok (if s.on then s else beginS s) ∧ (if s.on then s else beginS s).round ≠ [] ∧ (if s.on then s else beginS s).on = true := by
  have hr : s.round ≠ [] := fun e => hn (h.round.1 e)
  split
  · rename_i ho
    exact ⟨h, hr, ho⟩
  · rename_i ho
    obtain ⟨h1, h2, h3⟩ := h.hd hr
    exact ⟨h.begin hr (h.less _ h2 h3 (fun hh => ho hh.1)), hr, rfl⟩
/-- The search, from any state in which something waits. -/
theorem Ok.pop1 {s : Sd} (h : Ok s) (hn : nJ s.fl ≠ 0) : Ok (pop1 s) ∧ (pop1 s).round ≠ [] ∧ (pop1 s).on = true ∧ ¬ goes (pop1 s) := by
  obtain ⟨h1, h2, h3⟩ := h.pop0 hn
  exact popEnd_ok _ _ (Nat.lt_succ_self _) h1 h2 h3
theorem nJ_begin {s : Sd} (h : s.hd < s.fl.length) : nJ (beginS s).fl = nJ s.fl := by
  have := nJ_set s.fl s.hd { s.f with credit := s.f.credit + s.f.share } h
  unfold beginS
  dsimp only at this ⊢
  change _ + s.f.jobs.length = _ at this
  omega
theorem popEnd_nJ : ∀ (n : Nat) (s : Sd), phi s.fl < n → Ok s → s.round ≠ [] → s.on = true → nJ (popEnd s).fl = nJ s.fl
  | 0, _, h, _, _, _ => absurd h (Nat.not_lt_zero _)
  | n + 1, s, hp, hs, hr, ho => by
    by_cases hg : goes s
    · rw [popEnd_step hs hr hg ho]
      obtain ⟨a, b, c, d⟩ := hs.step hr hg ho
      rw [popEnd_nJ n (stepS s) (by omega) a b c]
      obtain ⟨h1, h2, h3⟩ := hs.hd hr
      have hR := hs.rot hr hg ho
      have := (hR.hd (s := ⟨s.fl, (rotS s).round, false⟩) (hd_rot h1)).2.1
      exact nJ_begin (s := rotS s) this
    · rw [popEnd_stop hg]
theorem pop1_nJ {s : Sd} (h : Ok s) (hn : nJ s.fl ≠ 0) : nJ (pop1 s).fl = nJ s.fl := by
  obtain ⟨h1, h2, h3⟩ := h.pop0 hn
  unfold Go.Proofs.Ytdhmopmfnnlhcaa.pop1
  rw [popEnd_nJ _ _ (Nat.lt_succ_self _) h1 h2 h3]
  split
  · rfl
  · exact nJ_begin (h.hd (fun e => hn (h.round.1 e))).2.1
end Go.Proofs.Ytdhmopmfnnlhcaa
