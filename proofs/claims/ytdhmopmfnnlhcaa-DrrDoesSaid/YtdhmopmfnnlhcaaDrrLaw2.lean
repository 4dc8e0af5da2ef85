/-
  Law: what a Pop changes (drr).
-/
import Derived.Test.YtdhmopmfnnlhcaaDrrLaw
namespace Go.Proofs.Ytdhmopmfnnlhcaa
open Go Go.RowKit

/-- The search changes credits alone, and turns the round. -/
structure Alike (s t : Sd) : Prop where
  len : t.fl.length = s.fl.length
  jobs : ∀ i, (el t.fl i).jobs = (el s.fl i).jobs
  share : ∀ i, (el t.fl i).share = (el s.fl i).share
  perm : t.round.Perm s.round
theorem Alike.refl (s : Sd) : Alike s s := ⟨rfl, fun _ => rfl, fun _ => rfl, .refl _⟩
theorem Alike.trans {s t u : Sd} (h : Alike s t) (h' : Alike t u) : Alike s u :=
  ⟨h'.len.trans h.len, fun i => (h'.jobs i).trans (h.jobs i), fun i => (h'.share i).trans (h.share i), h'.perm.trans h.perm⟩
theorem begin_alike {s : Sd} (h : s.hd < s.fl.length) : Alike s (beginS s) := by
  refine ⟨by unfold beginS; simp, fun i => ?_, fun i => ?_, .refl _⟩
  · unfold beginS
    dsimp only
    rw [el_set _ _ _ _ h]
    split
    · rename_i e; subst e; rfl
    · rfl
  · unfold beginS
    dsimp only
    rw [el_set _ _ _ _ h]
    split
    · rename_i e; subst e; rfl
    · rfl
theorem step_alike {s : Sd} (h : Ok s) (hr : s.round ≠ []) (hg : goes s) (ho : s.on = true) : Alike s (stepS s) := by
  obtain ⟨h1, h2, h3⟩ := h.hd hr
  have hR := h.rot hr hg ho
  have h4 := (hR.hd (s := ⟨s.fl, (rotS s).round, false⟩) (hd_rot h1)).2.1
  have a : Alike s (rotS s) := ⟨rfl, fun _ => rfl, fun _ => rfl, by
    unfold rotS
    dsimp only
    rw [h1]
    exact List.perm_append_singleton _ _⟩
  exact a.trans (begin_alike (s := rotS s) h4)
theorem popEnd_alike : ∀ (n : Nat) (s : Sd), phi s.fl < n → Ok s → s.round ≠ [] → s.on = true → Alike s (popEnd s)
  | 0, _, h, _, _, _ => absurd h (Nat.not_lt_zero _)
  | n + 1, s, hp, hs, hr, ho => by
    by_cases hg : goes s
    · rw [popEnd_step hs hr hg ho]
      obtain ⟨a, b, c, d⟩ := hs.step hr hg ho
      exact (step_alike hs hr hg ho).trans (popEnd_alike n (stepS s) (by omega) a b c)
    · rw [popEnd_stop hg]
      exact .refl s
theorem pop1_alike {s : Sd} (h : Ok s) (hn : nJ s.fl ≠ 0) : Alike s (pop1 s) := by
  obtain ⟨h1, h2, h3⟩ := h.pop0 hn
  unfold pop1
  refine Alike.trans ?_ (popEnd_alike _ _ (Nat.lt_succ_self _) h1 h2 h3)
  split
  · exact .refl s
  · exact begin_alike (h.hd (fun e => hn (h.round.1 e))).2.1
/-- What is popped. -/
structure Popped (s : Sd) (k : Nat) (js : List JX) : Prop where
  lt : k < s.fl.length
  was : (el s.fl k).jobs = popJ s :: js
  now : (el (popS s).fl k).jobs = js
  rest : ∀ i, i ≠ k → (el (popS s).fl i).jobs = (el s.fl i).jobs
  flow : (popJ s).flow = (k : Int)
  cost : 1 ≤ (popJ s).cost ∧ (popJ s).cost ≤ 100000
  len : (popS s).fl.length = s.fl.length
  share : ∀ i, (el (popS s).fl i).share = (el s.fl i).share
  on : (popS s).on = decide (js ≠ [])
  hd : js ≠ [] → (popS s).hd = k
  head : (pop1 s).hd = k
theorem pop_says {s : Sd} (h : Ok s) (hn : nJ s.fl ≠ 0) : ∃ k js, Popped s k js := by
  obtain ⟨h1, h2, h3, h4⟩ := h.pop1 hn
  have ha := pop1_alike h hn
  obtain ⟨g1, g2, g3⟩ := h1.hd h2
  obtain ⟨j, js, hj⟩ := List.exists_cons_of_ne_nil g3
  have hjJ : popJ s = j := by unfold popJ takeJ; rw [hj]; rfl
  have hlt : (pop1 s).hd < s.fl.length := by rw [← ha.len]; exact g2
  have hwas : (el s.fl (pop1 s).hd).jobs = j :: js := by rw [← ha.jobs]; exact hj
  have hel : ∀ i, el (popS s).fl i = if (pop1 s).hd = i then ⟨(pop1 s).f.share, if js = [] then 0 else (pop1 s).f.credit - (takeJ (pop1 s)).cost, js⟩ else el (pop1 s).fl i := by
    intro i
    unfold popS takeS
    dsimp only
    rw [el_set _ _ _ _ g2, hj]
    rfl
  have hjm := h.jobs _ hlt j (by rw [hwas]; simp)
  refine ⟨(pop1 s).hd, js, hlt, by rw [hjJ]; exact hwas, by rw [hel, if_pos rfl], ?_, by rw [hjJ]; exact hjm.1, by rw [hjJ]; exact hjm.2, ?_, ?_, ?_, ?_, rfl⟩
  · intro i hi
    rw [hel, if_neg (fun e => hi e.symm)]
    exact ha.jobs i
  · unfold popS takeS
    simp
    exact ha.len
  · intro i
    rw [hel]
    split
    · rename_i e
      subst e
      exact ha.share _
    · exact ha.share i
  · unfold popS takeS
    dsimp only
    rw [hj, h3]
    by_cases hjs : js = []
    · subst hjs; rfl
    · simp [hjs]
  · intro hjs
    unfold popS takeS Sd.hd
    dsimp only
    rw [hj, if_neg (show ¬ (j :: js).tail = [] from hjs)]
theorem nJ_zero {s : Sd} (h : nJ s.fl = 0) (k : Nat) (hk : k < s.fl.length) : (el s.fl k).jobs = [] := by
  have := sum_pos (s.fl.map fun f => f.jobs.length) (el s.fl k).jobs.length (List.mem_map.2 ⟨_, el_mem hk, rfl⟩)
  unfold nJ at h
  exact List.eq_nil_of_length_eq_zero (by omega)
theorem nJ_ne {s : Sd} (k : Nat) (hk : k < s.fl.length) (h : (el s.fl k).jobs ≠ []) : nJ s.fl ≠ 0 := fun h0 => h (nJ_zero h0 k hk)
/-- What a Push changes, of a job that may be. -/
theorem push_says {s : Sd} {j : JX} {k : Nat} (hf : j.flow = (k : Int)) (hk : k < s.fl.length) (hc : 1 ≤ j.cost ∧ j.cost ≤ 100000) (hn : nJ s.fl < 1024) :
    pushE s j = 0 ∧ (∀ i, el (pushS s j).fl i = if k = i then { el s.fl k with jobs := (el s.fl k).jobs ++ [j] } else el s.fl i) ∧ (pushS s j).fl.length = s.fl.length ∧ (pushS s j).on = s.on ∧ nJ (pushS s j).fl = nJ s.fl + 1 := by
  have e : pushE s j = 0 := by
    unfold pushE
    rw [if_neg (by omega), if_neg (by omega)]
  have ht : j.flow.toNat = k := by omega
  refine ⟨e, ?_, ?_, ?_, ?_⟩
  · intro i
    unfold pushS
    rw [if_pos e, ht]
    dsimp only
    rw [el_set _ _ _ _ hk]
  · unfold pushS
    rw [if_pos e]
    simp
  · unfold pushS
    rw [if_pos e]
  · unfold pushS
    rw [if_pos e, ht]
    have := nJ_set s.fl k { el s.fl k with jobs := (el s.fl k).jobs ++ [j] } hk
    dsimp only at this ⊢
    rw [List.length_append, List.length_singleton] at this
    omega
end Go.Proofs.Ytdhmopmfnnlhcaa
