/-
  Law: a line with losses (seawalllaw07): what came out is how what was pushed begins.
-/
import Derived.Test.YtgaegaaaoopolaaLivesLaw
import Derived.Test.YtgaegaaaoopolaaSessSends
namespace Go.Proofs.Ytgaegaaaoopolaa
open Go Go.RowKit

abbrev Key := Nat × Nat × Bool × List UInt8
/-- A line: sender, receiver, what is under way to and fro, what came out. -/
structure Ln where
  s : Sn
  r : Rc
  to : List Key
  back : List Key
  out : List (List UInt8)
/-- A piece under way. -/
def sgT (l : List (List UInt8)) (q : Key) : Prop := q.1 = 5 ∧ q.2.2.1 = false ∧ ∃ k, k < l.length ∧ q.2.1 = k + 1 ∧ q.2.2.2 = el l k
/-- An answer under way. -/
def sgB (got : Nat) (q : Key) : Prop := q.1 = 5 ∧ q.2.2.1 = true ∧ q.2.2.2 = [] ∧ q.2.1 ≤ got
/-- The sender's part. -/
structure InvS (l : List (List UInt8)) (s : Sn) : Prop where
  life : s.life = 5
  win : 1 ≤ s.window ∧ s.window ≤ 8
  span : 1 ≤ s.span ∧ s.span ≤ 4
  acked : s.acked ≤ l.length
  rest : s.l.map (·.1) = l.drop s.acked
  sent : ∀ p ∈ s.l, p.2 ≤ s.now
/-- The receiver's part. -/
structure InvR (l : List (List UInt8)) (r : Rc) : Prop where
  win : r.window = 8
  life : (r.life = 0 ∧ r.got = 0 ∧ r.m = []) ∨ r.life = 5
  got : r.got ≤ l.length
  nodup : (r.m.map (·.1)).Nodup
  m : ∀ p ∈ r.m, r.got < p.1 ∧ p.1 ≤ l.length ∧ p.2 = el l (p.1 - 1)
structure Inv (l : List (List UInt8)) (n : Ln) : Prop where
  s : InvS l n.s
  r : InvR l n.r
  ack : n.s.acked ≤ n.r.got
  out : n.out = l.take n.r.got
  to : ∀ q ∈ n.to, sgT l q
  back : ∀ q ∈ n.back, sgB n.r.got q
/-- Few pieces, none too long. -/
def fewL (l : List (List UInt8)) : Prop := l.length ≤ 60 ∧ ∀ b ∈ l, b.length ≤ 1000

theorem nodup_lt : ∀ (N : Nat) (l : List Nat), l.Nodup → (∀ x ∈ l, x < N) → l.length ≤ N
  | 0, l, _, h => by
    cases l with
    | nil => exact Nat.le_refl _
    | cons x l => exact absurd (h x (by simp)) (by omega)
  | N + 1, l, hn, h => by
    have h1 := nodup_lt N (l.erase N) (hn.erase N) (fun x hx => by
      have h2 := (hn.mem_erase_iff).1 hx
      have h3 := h x h2.2
      have h4 := h2.1
      omega)
    by_cases hm : N ∈ l
    · rw [List.length_erase_of_mem hm] at h1
      omega
    · rw [List.erase_of_not_mem hm] at h1
      omega
theorem mget_none_not {α : Type} : ∀ {ms : List (Nat × α)} {k : Nat}, mget ms k = none → k ∉ ms.map (·.1)
  | [], _, _ => by simp
  | (k', b) :: r, k, h => by
    rw [mget_cons] at h
    split at h
    · cases h
    · rename_i hk
      rw [List.map_cons, List.mem_cons]
      rintro (h1 | h1)
      · exact hk h1.symm
      · exact mget_none_not h h1
theorem mdel_not {α : Type} {ms : List (Nat × α)} (hn : (ms.map (·.1)).Nodup) (k : Nat) : k ∉ (mdel ms k).map (·.1) := mget_none_not (by rw [mget_mdel hn, if_pos rfl])
theorem mdel_ne {α : Type} {ms : List (Nat × α)} (hn : (ms.map (·.1)).Nodup) {k : Nat} {p : Nat × α} (hp : p ∈ mdel ms k) : p.1 ≠ k := fun e => mdel_not hn k (List.mem_map.2 ⟨p, hp, e⟩)
theorem InvS.len {l : List (List UInt8)} {s : Sn} (h : InvS l s) : s.acked + s.l.length = l.length := by
  have h1 := congrArg List.length h.rest
  rw [List.length_map, List.length_drop] at h1
  have := h.acked
  omega
theorem InvS.ok {l : List (List UInt8)} {s : Sn} (h : InvS l s) (hf : fewL l) (hn : s.now < 1000000000) : s.ok := by
  have hl := h.len
  have hf1 := hf.1
  have hw := h.win
  have hsp := h.span
  have hli := h.life
  refine ⟨by omega, by omega, by omega, by omega, hn, by omega, ?_, h.sent⟩
  intro p hp
  have h1 : p.1 ∈ s.l.map (·.1) := List.mem_map.2 ⟨p, hp, rfl⟩
  rw [h.rest] at h1
  exact hf.2 _ (List.mem_of_mem_drop h1)
theorem InvR.mlen {l : List (List UInt8)} {r : Rc} (h : InvR l r) : r.m.length ≤ l.length + 1 := by
  have h1 := nodup_lt (l.length + 1) (r.m.map (·.1)) h.nodup (fun x hx => by
    obtain ⟨p, hp, rfl⟩ := List.mem_map.1 hx
    have := (h.m p hp).2.1
    omega)
  rwa [List.length_map] at h1
theorem InvR.ok {l : List (List UInt8)} {r : Rc} (h : InvR l r) (hf : fewL l) : r.ok := by
  have h1 := h.mlen
  have h2 := hf.1
  have h3 := h.win
  have h4 := h.got
  refine ⟨by omega, by rcases h.life with h | h <;> omega, by omega, h.nodup, ?_⟩
  intro p hp
  obtain ⟨g1, g2, g3⟩ := h.m p hp
  rw [g3]
  exact hf.2 _ (el_mem (by omega))

/-! ### a tick -/
theorem InvS.tick {l : List (List UInt8)} {s : Sn} (h : InvS l s) : InvS l (tickS s) := by
  refine ⟨h.life, h.win, h.span, h.acked, ?_, ?_⟩
  · unfold tickS
    dsimp only
    rw [← h.rest]
    apply List.ext_getElem?
    intro j
    unfold sentTo
    rw [List.map_map, List.getElem?_map, List.getElem?_map]
    by_cases hj : j < s.l.length
    · rw [el_get hj]
      simp only [List.getElem?_range, hj, Option.map_some, Function.comp_apply]
      split <;> rfl
    · simp only [List.getElem?_eq_none (Nat.le_of_not_lt hj)]
      simp [hj]
  · intro p hp
    obtain ⟨q, hq, _, e⟩ := sentTo_mem hp
    have := h.sent q hq
    unfold tickS
    dsimp only
    omega
theorem outTo_sg {l : List (List UInt8)} {s : Sn} (h : InvS l s) {now : Nat} {q : Key} : ∀ i, i ≤ s.l.length → q ∈ outTo s.life s.acked s.span now s.l i → sgT l q
  | 0, _, hq => by cases hq
  | i + 1, hi, hq => by
    unfold outTo at hq
    rcases List.mem_append.1 hq with hq | hq
    · exact outTo_sg h i (by omega) hq
    · split at hq
      · rw [List.mem_singleton] at hq
        subst hq
        have hl := h.len
        have hr := congrArg (fun z => z[i]?) h.rest
        simp only [List.getElem?_map, List.getElem?_drop, el_get (show i < s.l.length by omega), Option.map_some, el_get (show s.acked + i < l.length by omega), Option.some.injEq] at hr
        exact ⟨h.life, rfl, s.acked + i, by omega, rfl, hr⟩
      · cases hq
theorem tickO_sg {l : List (List UInt8)} {s : Sn} (h : InvS l s) {q : Key} (hq : q ∈ tickO s) : sgT l q := outTo_sg h s.k (by unfold Sn.k; omega) hq
def pickT (n : Ln) : Ln := { n with s := tickS n.s, to := n.to ++ tickO n.s }
theorem Inv.tick {l : List (List UInt8)} {n : Ln} (h : Inv l n) : Inv l (pickT n) := by
  refine ⟨h.s.tick, h.r, h.ack, h.out, ?_, h.back⟩
  intro q hq
  rcases List.mem_append.1 hq with hq | hq
  · exact h.to q hq
  · exact tickO_sg h.s hq

/-! ### a piece comes -/
theorem drain_take {l : List (List UInt8)} : ∀ (f got : Nat) (m : List (Nat × List UInt8)), got ≤ l.length → (m.map (·.1)).Nodup → (∀ p ∈ m, got < p.1 ∧ p.1 ≤ l.length ∧ p.2 = el l (p.1 - 1)) →
    got ≤ (drain f got m).1 ∧ (drain f got m).1 ≤ l.length ∧ ((drain f got m).2.1.map (·.1)).Nodup ∧ (∀ p ∈ (drain f got m).2.1, (drain f got m).1 < p.1 ∧ p.1 ≤ l.length ∧ p.2 = el l (p.1 - 1)) ∧
      l.take got ++ (drain f got m).2.2 = l.take (drain f got m).1
  | 0, got, m, hg, hn, hm => ⟨Nat.le_refl _, hg, hn, hm, by simp [drain]⟩
  | f + 1, got, m, hg, hn, hm => by
    cases h : mget m (got + 1) with
    | none => rw [drain_none h]; exact ⟨Nat.le_refl _, hg, hn, hm, by simp⟩
    | some b =>
      rw [drain_some h]
      have hb := mget_mem h
      obtain ⟨b1, b2, b3⟩ := hm _ hb
      dsimp only at b1 b2 b3
      have hd : ∀ p ∈ mdel m (got + 1), got + 1 < p.1 ∧ p.1 ≤ l.length ∧ p.2 = el l (p.1 - 1) := by
        intro p hp
        have h1 := hm p ((mdel_sub m (got + 1)).subset hp)
        have h2 : p.1 ≠ got + 1 := mdel_ne hn hp
        exact ⟨by omega, h1.2⟩
      obtain ⟨d1, d2, d3, d4, d5⟩ := drain_take f (got + 1) (mdel m (got + 1)) (by omega) (mdel_nodup hn _) hd
      refine ⟨by dsimp only; omega, d2, d3, d4, ?_⟩
      dsimp only
      rw [← d5, List.take_add_one, el_get (show got < l.length by omega), b3]
      simp
structure Came (l : List (List UInt8)) (r : Rc) (q : Key) : Prop where
  e : rhE r q = 0
  inv : InvR l (rhS r q)
  got : r.got ≤ (rhS r q).got
  out : l.take r.got ++ rhO r q = l.take (rhS r q).got
  ans : sgB (rhS r q).got (rhA r q)
  reach : q.2.1 ≤ r.got + 1 → q.2.1 ≤ (rhA r q).2.1
theorem InvR.come {l : List (List UInt8)} {r : Rc} (h : InvR l r) (hf : fewL l) {q : Key} (hq : sgT l q) : Came l r q := by
  obtain ⟨q1, q2, k, hk, q3, q4⟩ := hq
  obtain ⟨ql, qs, qa, qb⟩ := q
  dsimp only at q1 q2 q3 q4
  subst q1 q2 q3
  have hb : qb.length ≤ 1000 := by rw [q4]; exact hf.2 _ (el_mem hk)
  have hs : isSeg (5, k + 1, false, qb) = true := by unfold isSeg; simp; omega
  have e : rhE r (5, k + 1, false, qb) = 0 := by
    unfold rhE
    rw [if_neg (by rw [hs]; simp), if_neg (by simp), if_neg]
    rcases h.life with h | h
    · dsimp only; omega
    · dsimp only; omega
  have h1 : rh1 r (5, k + 1, false, qb) = { r with life := 5 } := by
    unfold rh1
    rcases h.life with ⟨a1, a2, a3⟩ | a1
    · rw [if_pos (by dsimp only; omega)]
      dsimp only
      rw [a2, a3]
    · rw [if_neg (by dsimp only; omega)]
      rw [← a1]
  have hw := h.win
  have h2 : ((rh2 { r with life := 5 } (5, k + 1, false, qb)).map (·.1)).Nodup ∧ (∀ p ∈ rh2 { r with life := 5 } (5, k + 1, false, qb), r.got < p.1 ∧ p.1 ≤ l.length ∧ p.2 = el l (p.1 - 1)) ∧
      (k = r.got → mget (rh2 { r with life := 5 } (5, k + 1, false, qb)) (k + 1) ≠ none) := by
    unfold rh2
    dsimp only
    split
    · rename_i hc
      refine ⟨mput_nodup h.nodup _ _, ?_, ?_⟩
      · intro p hp
        rw [mput_new hc.1] at hp
        rcases List.mem_append.1 hp with hp | hp
        · exact h.m p hp
        · rw [List.mem_singleton] at hp
          subst hp
          exact ⟨hc.2.1, by dsimp only; omega, by dsimp only; rw [q4]; rfl⟩
      · intro _ hm
        rw [mget_mput, if_pos rfl] at hm
        cases hm
    · rename_i hc
      refine ⟨h.nodup, h.m, ?_⟩
      intro hk hm
      exact hc ⟨hm, by omega, by omega⟩
  obtain ⟨n2, m2, g2⟩ := h2
  have hd : rhD r (5, k + 1, false, qb) = drain ((rh2 { r with life := 5 } (5, k + 1, false, qb)).length + 1) r.got (rh2 { r with life := 5 } (5, k + 1, false, qb)) := by unfold rhD; rw [h1]
  obtain ⟨d1, d2, d3, d4, d5⟩ := drain_take (l := l) ((rh2 { r with life := 5 } (5, k + 1, false, qb)).length + 1) r.got (rh2 { r with life := 5 } (5, k + 1, false, qb)) h.got n2 m2
  rw [← hd] at d1 d2 d3 d4 d5
  have hS : rhS r (5, k + 1, false, qb) = { r with life := 5, got := (rhD r (5, k + 1, false, qb)).1, m := (rhD r (5, k + 1, false, qb)).2.1 } := by
    unfold rhS
    rw [if_pos e, h1]
  have hA : rhA r (5, k + 1, false, qb) = (5, (rhD r (5, k + 1, false, qb)).1, true, []) := by
    unfold rhA
    rw [if_pos e, hS]
  refine ⟨e, ?_, ?_, ?_, ?_, ?_⟩
  · rw [hS]
    exact ⟨hw, .inr rfl, d2, d3, d4⟩
  · rw [hS]; exact d1
  · rw [hS]
    dsimp only
    rw [← d5]
    unfold rhO
    rw [if_pos e]
  · rw [hS, hA]
    exact ⟨rfl, rfl, rfl, Nat.le_refl _⟩
  · intro hr
    rw [hA]
    dsimp only at hr ⊢
    rcases Nat.lt_or_ge k r.got with h3 | h3
    · omega
    · have h4 : k = r.got := by omega
      have h5 := g2 h4
      rw [hd]
      cases h6 : mget (rh2 { r with life := 5 } (5, k + 1, false, qb)) (r.got + 1) with
      | none => exact absurd (h4 ▸ h6) h5
      | some b =>
        rw [drain_some h6]
        have h7 := m2 _ (mget_mem h6)
        obtain ⟨d1', _⟩ := drain_take (l := l) (rh2 { r with life := 5 } (5, k + 1, false, qb)).length (r.got + 1) (mdel (rh2 { r with life := 5 } (5, k + 1, false, qb)) (r.got + 1)) (by have := h7.2.1; exact this) (mdel_nodup n2 _) (by
          intro p hp
          have a1 := m2 p ((mdel_sub _ (r.got + 1)).subset hp)
          have a2 : p.1 ≠ r.got + 1 := mdel_ne n2 hp
          exact ⟨by omega, a1.2⟩)
        dsimp only
        omega
def comeT (n : Ln) (q : Key) : Ln := { n with r := rhS n.r q, out := n.out ++ rhO n.r q, back := n.back ++ [rhA n.r q] }
theorem Inv.come {l : List (List UInt8)} {n : Ln} (h : Inv l n) (hf : fewL l) {q : Key} (hq : sgT l q) : rhE n.r q = 0 ∧ Inv l (comeT n q) := by
  have c := h.r.come hf hq
  refine ⟨c.e, h.s, c.inv, Nat.le_trans h.ack c.got, ?_, h.to, ?_⟩
  · unfold comeT
    dsimp only
    rw [h.out, c.out]
  · intro p hp
    rcases List.mem_append.1 hp with hp | hp
    · have := h.back p hp
      exact ⟨this.1, this.2.1, this.2.2.1, Nat.le_trans this.2.2.2 c.got⟩
    · rw [List.mem_singleton] at hp
      subst hp
      exact c.ans

/-! ### an answer comes -/
def comeB (n : Ln) (q : Key) : Ln := { n with s := hearS n.s q }
theorem InvS.hear {l : List (List UInt8)} {s : Sn} (h : InvS l s) {got : Nat} (hg : got ≤ l.length) (ha : s.acked ≤ got) {q : Key} (hq : sgB got q) : hearE s q = 0 ∧ InvS l (hearS s q) ∧ (hearS s q).acked ≤ got ∧ q.2.1 ≤ (hearS s q).acked ∧ s.acked ≤ (hearS s q).acked ∧ (hearS s q).now = s.now := by
  obtain ⟨ql, qs, qa, qb⟩ := q
  obtain ⟨q1, q2, q3, q4⟩ := hq
  dsimp only at q1 q2 q3 q4
  subst q1 q2 q3
  have hl := h.len
  have e : hearE s (5, qs, true, []) = 0 := by
    unfold hearE isSeg
    rw [if_neg (by simp), if_neg (by simp), if_neg (by rw [h.life]; simp), if_neg (by dsimp only; omega)]
  refine ⟨e, ?_⟩
  unfold hearS
  by_cases hc : s.acked < qs
  · rw [if_pos ⟨e, hc⟩]
    refine ⟨⟨h.life, h.win, h.span, by dsimp only; omega, ?_, fun p hp => h.sent p (List.mem_of_mem_drop hp)⟩, q4, Nat.le_refl _, by dsimp only; omega, rfl⟩
    dsimp only
    rw [List.map_drop, h.rest, List.drop_drop]
    congr 1
    omega
  · rw [if_neg (fun h => hc h.2)]
    exact ⟨h, ha, by dsimp only; omega, Nat.le_refl _, rfl⟩
theorem Inv.hear {l : List (List UInt8)} {n : Ln} (h : Inv l n) {q : Key} (hq : sgB n.r.got q) : hearE n.s q = 0 ∧ Inv l (comeB n q) := by
  obtain ⟨h1, h2, h3, _⟩ := h.s.hear h.r.got h.ack hq
  exact ⟨h1, h2, h.r, h3, h.out, h.to, h.back⟩
theorem Inv.cutT {l : List (List UInt8)} {n : Ln} (h : Inv l n) (k : Nat) : Inv l { n with to := n.to.eraseIdx k } :=
  ⟨h.s, h.r, h.ack, h.out, fun q hq => h.to q ((List.eraseIdx_sublist ..).subset hq), h.back⟩
theorem Inv.cutB {l : List (List UInt8)} {n : Ln} (h : Inv l n) (k : Nat) : Inv l { n with back := n.back.eraseIdx k } :=
  ⟨h.s, h.r, h.ack, h.out, h.to, fun q hq => h.back q ((List.eraseIdx_sublist ..).subset hq)⟩
end Go.Proofs.Ytgaegaaaoopolaa
