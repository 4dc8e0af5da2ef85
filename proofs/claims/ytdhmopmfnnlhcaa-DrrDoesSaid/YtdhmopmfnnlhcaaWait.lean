/-
  Slices of jobs whose front is cut away, in an array (seawalllaw21: what waits).
-/
import Derived.Test.YtdhmopmfnnlhcaaKnown21
import Derived.Test.YtdhmopmfnnlhcaaDrrLaw2
namespace Go.Proofs.Ytdhmopmfnnlhcaa
open Go Go.RowKit

/-- Jobs that wait: the slice, and the block that it lies over. -/
structure WaX where
  B : Option Addr
  cap0 : Nat
  pre : List JX
  p : Option Addr
  c : Nat
  l : List JX
instance : Inhabited WaX := ⟨⟨none, 0, [], none, 0, []⟩⟩
def WaX.ok (x : WaX) : Prop := (x.B = none ∧ x.cap0 = 0 ∧ x.pre = [] ∧ x.p = none ∧ x.c = 0 ∧ x.l = []) ∨
  (∃ g, x.B = some ⟨g, 0, none⟩ ∧ x.pre.length + x.c = x.cap0 ∧ x.p.isSome = true ∧ (0 < x.c → x.p = some ⟨g, x.pre.length * 3, none⟩) ∧ x.l.length ≤ x.c)
def WaX.O (x : WaX) : Asr := Asr.lst jobE x.B x.cap0 (x.pre ++ x.l)
def waitE : Enc WaX := ⟨28, 1, fun x => [.slice x.p x.l.length x.c], fun _ => rfl, (fun a v hv => by
  rw [List.mem_singleton] at hv
  subst hv
  rfl), by decide⟩
theorem WaX.rd {w : World} {x : WaX} (hx : x.ok) (h : x.O.holds w) : RdL w jobE x.p x.c x.l := by
  obtain ⟨B, cap0, pre, p, c, l⟩ := x
  rcases hx with ⟨h1, h2, h3, h4, h5, h6⟩ | ⟨g, h1, h2, h3, h4, h5⟩
  · dsimp only at h1 h2 h3 h4 h5 h6 ⊢
    subst h4 h5 h6
    exact RdL.nil _ _ _
  · dsimp only at h1 h2 h3 h4 h5 ⊢
    have hr := jobsRd h
    have hs := RdL.suf hr (i := pre.length) (by simp)
    dsimp only at hs
    rw [List.drop_left] at hs
    rcases Nat.eq_zero_or_pos c with hc | hc
    · have hl : l = [] := List.eq_nil_of_length_eq_zero (by omega)
      subst hl
      exact ⟨rfl, Nat.zero_le _, fun h => absurd h (Nat.lt_irrefl _)⟩
    · have e1 : cutA B pre.length jobE.size cap0 = p := by
        unfold cutA
        rw [if_neg (by omega), h4 hc, h1]
        simp [add_lit]
        rfl
      have e2 : cap0 - pre.length = c := by omega
      rw [e1, e2] at hs
      exact hs
/-- Without its first one. -/
theorem WaX.cut {x : WaX} (hx : x.ok) {h : JX} {t : List JX} (hl : x.l = h :: t) : WaX.ok ⟨x.B, x.cap0, x.pre ++ [h], cutA x.p 1 3 x.c, x.c - 1, t⟩ ∧ WaX.O ⟨x.B, x.cap0, x.pre ++ [h], cutA x.p 1 3 x.c, x.c - 1, t⟩ = x.O := by
  obtain ⟨B, cap0, pre, p, c, l⟩ := x
  dsimp only at hl
  subst hl
  rcases hx with ⟨_, _, _, _, _, h6⟩ | ⟨g, h1, h2, h3, h4, h5⟩
  · cases h6
  · dsimp only at h1 h2 h3 h4 h5 ⊢
    simp only [List.length_cons] at h5
    refine ⟨.inr ⟨g, h1, by simp; omega, ?_, ?_, by dsimp only; omega⟩, by unfold WaX.O; simp⟩
    · dsimp only
      unfold cutA
      split
      · exact h3
      · rw [Option.isSome_map]; exact h3
    · dsimp only
      intro hc
      unfold cutA
      rw [if_neg (by omega), h4 (by omega)]
      simp [add_lit]

theorem run_append_roomO {P : Program} (w : World) (t ty e : TypeId) (i : TypeInfo) (ht : P.underlying t = some (.slice e)) (hi : P.info? e = some i)
    (g o sLen sCap : Nat) (cur : Array Value) (hg : w.heap[g]? = some (.cells cur e (0, 0)))
    (a : Addr) (m c : Nat) (news : List Value) (hl : news.length = m * i.size) (hnews : ∀ j u, news[j]? = some u → w.cell? (a.add j) = some u) (h1 : ∀ u ∈ news, u.oneCell' = true)
    (hroom : sLen + m ≤ sCap) (hfit : o + sLen * i.size + news.length ≤ cur.size) :
    (Builtin.append_ #[t, t] ty #[.slice (some ⟨g, o, none⟩) sLen sCap, .slice (some a) m c]).run P w =
      .ok (.slice (some ⟨g, o, none⟩) (sLen + m) sCap) (w.setRow g (cur.toList.take (o + sLen * i.size) ++ news ++ cur.toList.drop (o + sLen * i.size + news.length)).toArray) := by
  have hf := run_firstCells_some (P := P) w i.size m a m c news hl hnews
  have hst := run_storeCells_at P g (o + sLen * i.size) e news 0 cur w hg (by simpa using hfit) h1
  simp only [Nat.add_zero] at hst
  simp [Builtin.append_, run_underlying ht, sizeOf, typeInfo, hi, Builtin.lenOf, hroom, hf, Addr.add_lit, hst]

section
variable {P : Program} {w0 w : World} {L : List Asr} {t : TypeId} {A' : Option Addr} {c' bytes : Nat} {news : List JX}
/-- append to jobs that wait. -/
theorem run_append_wait {x : WaX} (hx : x.ok) (T : Elem P t jobE.e jobE.size bytes) (ty : TypeId) (M : Mem w0 w (x.O :: L)) (R : RdL w jobE A' c' news) (hm : 0 < news.length) (hb : (x.l.length + news.length) * bytes ≤ 140737488355328) (hn : x.l.length + news.length ≤ maxLen) :
    ∃ (x' : WaX) (w' : World), (Builtin.append_ #[t, t] ty #[.slice x.p x.l.length x.c, .slice A' news.length c']).run P w = .ok (.slice x'.p x'.l.length x'.c) w' ∧ x'.ok ∧ x'.l = x.l ++ news ∧ Mem w0 w' (x'.O :: L) := by
  obtain ⟨B, cap0, pre, p, c, l⟩ := x
  have hrl := WaX.rd hx M.head
  rcases hx with ⟨h1, h2, h3, h4, h5, h6⟩ | ⟨g, h1, h2, h3, h4, h5⟩
  · dsimp only at h1 h2 h3 h4 h5 h6 hrl hb hn ⊢
    subst h1 h2 h3 h4 h5 h6
    have M0 : Mem w0 w (Asr.own jobE.e jobE.size none 0 0 [] :: L) := M
    obtain ⟨A2, cap2, w', hr, M'⟩ := run_append T ty M0 R (jobE.all_one _) (by simpa using hb) (by simpa using hn)
    rw [Nat.zero_add, List.nil_append] at M'
    rw [Nat.zero_add] at hr
    have M2 : Mem w0 w' (Asr.lst jobE A2 cap2 news :: L) := M'
    obtain ⟨g, rfl⟩ := M2.lstSome hm
    have hc2 : news.length ≤ cap2 := (jobsRd M2.head).le
    exact ⟨⟨some ⟨g, 0, none⟩, cap2, [], some ⟨g, 0, none⟩, cap2, news⟩, w', hr, .inr ⟨g, rfl, by simp, rfl, fun _ => rfl, hc2⟩, rfl, M2⟩
  · dsimp only at h1 h2 h3 h4 h5 hrl hb hn ⊢
    subst h1
    obtain ⟨i, z, hi, hz, hsz, hby, hzs⟩ := T.info
    obtain ⟨ad, rfl, _, hc⟩ := R.at_ hm
    have hnl : (jobE.all news).length = news.length * i.size := by rw [jobE.all_length, hsz]
    obtain ⟨g', sp, hA, M1, hcl, hcm, hnc, hvl⟩ := Mem.ownRow (M : Mem w0 w (Asr.own jobE.e jobE.size (some ⟨g, 0, none⟩) (pre ++ l).length cap0 (jobE.all (pre ++ l)) :: L)) (by simp)
    obtain rfl : g = g' := by simpa using hA
    dsimp only at M1 hcl hcm hnc hvl
    have hg : w.heap[g]? = some (.cells (jobE.all (pre ++ l) ++ sp).toArray jobE.e (0, 0)) := M1.head
    by_cases hroom : l.length + news.length ≤ c
    · have hp := h4 (by omega)
      subst hp
      have hs3 : jobE.size = 3 := rfl
      have hal : (jobE.all (pre ++ l)).length = pre.length * 3 + l.length * 3 := by rw [jobE.all_length, List.length_append, hs3]; omega
      have hsz3 : i.size = 3 := hsz
      have hfit : pre.length * 3 + l.length * i.size + (jobE.all news).length ≤ (jobE.all (pre ++ l) ++ sp).toArray.size := by
        rw [hnl, hsz3, List.size_toArray, hcl, hs3]
        omega
      have hr := run_append_roomO (P := P) w t ty jobE.e i T.und hi g (pre.length * 3) l.length c (jobE.all (pre ++ l) ++ sp).toArray hg ad news.length c' (jobE.all news) hnl hc (jobE.all_one _) hroom hfit
      refine ⟨⟨some ⟨g, 0, none⟩, cap0, pre, some ⟨g, pre.length * 3, none⟩, c, l ++ news⟩, _, by rw [List.length_append]; exact hr, .inr ⟨g, rfl, h2, rfl, fun _ => rfl, by rw [List.length_append]; exact hroom⟩, rfl, ?_⟩
      have e1 : (jobE.all (pre ++ l) ++ sp).toArray.toList.take (pre.length * 3 + l.length * i.size) ++ jobE.all news ++ (jobE.all (pre ++ l) ++ sp).toArray.toList.drop (pre.length * 3 + l.length * i.size + (jobE.all news).length) = jobE.all (pre ++ (l ++ news)) ++ sp.drop (jobE.all news).length := by
        rw [hsz3, ← hal, ← List.append_assoc, jobE.all_append (pre ++ l) news]
        simp [List.drop_append]
      rw [e1]
      have M2 : Mem w0 (w.setRow g (jobE.all (pre ++ (l ++ news)) ++ sp.drop (jobE.all news).length).toArray) (Asr.row g jobE.e (jobE.all (pre ++ (l ++ news)) ++ sp.drop (jobE.all news).length) :: L) :=
        M1.write ⟨rfl, rfl, rfl, by simp, fun k _ hk => setRow_other w g k _ (fun e => hk e)⟩ (setRow_heap w g _ _ _ _ hg) (fun _ hf => .inl hf)
      refine M2.rowOwn _ rfl (jobE.all_length _) ?_ hcm (by simp only [List.length_append]; omega)
      rw [List.length_append, List.length_drop, jobE.all_length, jobE.all_length, hs3]
      rw [List.length_append, hal, hs3] at hcl
      simp only [List.length_append]
      omega
    · obtain ⟨pa, rfl⟩ := Option.isSome_iff_exists.1 h3
      have hpos := T.pos
      have hge := grownCap_ge w (l.length + news.length) c jobE.e
      have hcm2 : grownCap w (l.length + news.length) c jobE.e ≤ maxLen := grownCap_le_maxLen w (l.length + news.length) c jobE.e hn
      have hm63 : ((l.length + news.length : Nat) : Int) ≤ 9223372036854775807 := by simp only [maxLen] at hn; omega
      have hvs : ∀ j u, (jobE.all l)[j]? = some u → w.cell? (pa.add j) = some u := by
        intro j u hu
        have hl0 : 0 < l.length := by
          rcases Nat.eq_zero_or_pos l.length with h0 | h0
          · have := (List.getElem?_eq_some_iff.1 hu).1
            rw [jobE.all_length, h0] at this
            omega
          · exact h0
        obtain ⟨ad', e, _, hcc⟩ := hrl.at_ hl0
        obtain rfl : pa = ad' := by simpa using e
        exact hcc j u hu
      have hr := run_append_grow (P := P) w t ty jobE.e i z T.und hi hz pa l.length c (jobE.all l) (by rw [jobE.all_length, hsz]) hvs ad news.length c' (jobE.all news) hnl hc (by omega) hm63 (growslice_fits (by omega) (by rw [hby]; exact hb))
      have M3 := (M.tail.drew).alloc (.cells ((jobE.all l).toArray ++ (jobE.all news).toArray ++ Builtin.zeroCells z.cells (grownCap w (l.length + news.length) c jobE.e - (l.length + news.length))) jobE.e)
      have M2 : Mem w0 (w.drew.alloc (.cells ((jobE.all l).toArray ++ (jobE.all news).toArray ++ Builtin.zeroCells z.cells (grownCap w (l.length + news.length) c jobE.e - (l.length + news.length))) jobE.e)) (Asr.row w.heap.size jobE.e (jobE.all (l ++ news) ++ (Builtin.zeroCells z.cells (grownCap w (l.length + news.length) c jobE.e - (l.length + news.length))).toList) :: L) := by
        have e1 : ((jobE.all l).toArray ++ (jobE.all news).toArray ++ Builtin.zeroCells z.cells (grownCap w (l.length + news.length) c jobE.e - (l.length + news.length))) = (jobE.all (l ++ news) ++ (Builtin.zeroCells z.cells (grownCap w (l.length + news.length) c jobE.e - (l.length + news.length))).toList).toArray := by
          rw [jobE.all_append]
          apply Array.ext'; simp
        rw [Asr.row, ← e1]
        exact M3
      refine ⟨⟨some ⟨w.heap.size, 0, none⟩, grownCap w (l.length + news.length) c jobE.e, [], some ⟨w.heap.size, 0, none⟩, grownCap w (l.length + news.length) c jobE.e, l ++ news⟩, _, by rw [List.length_append]; exact hr, .inr ⟨_, rfl, by simp, rfl, fun _ => rfl, by rw [List.length_append]; exact hge⟩, rfl, ?_⟩
      refine M2.rowOwn _ rfl (jobE.all_length _) ?_ hcm2 (by simp only [List.nil_append, List.length_append]; exact hge)
      dsimp only
      rw [List.length_append, madeZero_length, hzs, jobE.all_length, List.nil_append, List.length_append, ← Nat.add_mul]
      congr 1
      omega
end
section
variable {P : Program} {n : Nat} {ρ : List (Nat × Value)} {w0 w : World} {rest : List Oper} {L L' : List Asr} {Y : Sq P n} {X : SqV P n}
variable {d : Nat} {ty : TypeId} {pos : String} {aft : Array Edge} {xo yo : Operand} {t t' : TypeId}
theorem WL.appendWt {A' : Option Addr} {c' bytes m : Nat} {news : List JX} (x : WaX) (hx : x.ok) (T : Elem P t jobE.e jobE.size bytes) (hxo : ev ρ xo = some (.slice x.p x.l.length x.c)) (hyo : ev ρ yo = some (.slice A' m c')) (M : Mem w0 w L) (h : Del x.O L L') (R : RdL w jobE A' c' news) (hm : m = news.length) (h0 : 0 < news.length)
    (hb : (x.l.length + news.length) * bytes ≤ 140737488355328) (hn : x.l.length + news.length ≤ maxLen) (hd : Nat.blt d n = true)
    (kk : ∀ (x' : WaX) w', x'.ok → x'.l = x.l ++ news → Mem w0 w' (x'.O :: L') → Y.S rest ((d, .slice x'.p x'.l.length x'.c) :: ρ) w') :
    Y.S (⟨some d, .call ⟨.builtin .append, #[xo, yo], #[t, t]⟩, ty, pos, aft, none⟩ :: rest) ρ w := by
  subst hm
  obtain ⟨x', w', hr, h1, h2, M'⟩ := run_append_wait hx T ty (M.del h) R h0 hb hn
  exact WL.valW rfl rfl hd (fun a ha => by
    simp only [execOp, resolve, invoke, builtin, Sem.run_bind, Sem.run_pure, Result.andThen_ok, List.map_toArray, List.map_cons, List.map_nil, ha.eval hxo, ha.eval hyo, hr]) (kk x' w' h1 h2 M')
theorem WL.neqBB {a b : Bool} (ht : P.underlying t = some .bool) (hx : ev ρ xo = some (.bool a)) (hy : ev ρ yo = some (.bool b)) (hd : Nat.blt d n = true)
    (kk : X.S rest ((d, .bool (decide (a ≠ b))) :: ρ) w) : X.S (⟨some d, .binOp .neq t xo yo t', ty, pos, aft, none⟩ :: rest) ρ w :=
  WL.bin hx hy (eqGuard_at_bool ..) (by
    have h := run_equalIn_bool (P := P) w 9999 t a b ht
    simp only [binOp]
    simp [Op.equal, Op.maxDepth, h]
    cases a <;> cases b <;> rfl) hd kk
end
theorem Pop2_ok (x : SdX) (hok : x.ok) (w0 w : World) (L : List Asr) (M : Mem w0 w (x.L ++ L)) :
    Fn Try.prog 13 [.pointer (some ⟨x.g, 0, none⟩)] w fun v w' => ∃ (x' : SdX) (J : JX), v = .tuple #[J.v, .bool (decide (nJ x.s.fl ≠ 0))] ∧ x.g = x'.g ∧ x'.ok ∧ Mem w0 w' (x'.L ++ L) ∧ (nJ x.s.fl = 0 → x'.s = x.s) ∧ (nJ x.s.fl ≠ 0 → J = popJ x.s ∧ x'.s = popS x.s) :=
  (Pop_ok x hok w0 w L M).mono fun v w' h => by
    rcases h with ⟨h0, hv, M'⟩ | ⟨hn, x', hv, hg, hs, ho, M'⟩
    · exact ⟨x, _, by rw [decide_eq_false (fun h => h h0)]; exact hv, rfl, hok, M', fun _ => rfl, fun h => absurd h0 h⟩
    · exact ⟨x', _, by rw [decide_eq_true hn]; exact hv, hg, ho, M', fun h => absurd h hn, fun _ => ⟨rfl, hs⟩⟩
theorem pop_n' {s : Sd} (h : Ok s) (hn : nJ s.fl ≠ 0) : nJ (popS s).fl + 1 = nJ s.fl := by
  obtain ⟨a, b, c, d⟩ := h.pop1 hn
  have e := pop1_nJ h hn
  have t := (a.take b c d).2
  unfold popS
  omega
/-- What waits is what the flows have. -/
structure WaitI (s : Sd) (n : Nat) (W : List WaX) : Prop where
  wl : W.length = 8
  ok : ∀ y, y < 8 → (el W y).ok
  len : s.fl.length = n
  le : n ≤ 8
  same : ∀ y, y < n → (el W y).l = (el s.fl y).jobs
def wait0 : WaX := ⟨none, 0, [], none, 0, []⟩
theorem WaitI.start {sh : List Int} (h : sh.length ≤ 8) : WaitI (newS sh) sh.length (List.replicate 8 wait0) := by
  have e : ∀ y, el (List.replicate 8 wait0) y = wait0 := by
    intro y
    unfold el
    rw [List.getElem?_replicate]
    split <;> rfl
  refine ⟨by simp, fun y _ => by rw [e]; exact .inl ⟨rfl, rfl, rfl, rfl, rfl, rfl⟩, by unfold newS; simp, h, fun y hy => ?_⟩
  rw [e]
  unfold newS
  simp [el, hy, wait0]
theorem WaitI.push {s : Sd} {n : Nat} {W : List WaX} (h : WaitI s n W) {j : JX} {k : Nat} (hf : j.flow = (k : Int)) (hk : k < n) (hc : 1 ≤ j.cost ∧ j.cost ≤ 100000) (hn : nJ s.fl < 1024) {X : WaX} (hX : X.ok) (hl : X.l = (el W k).l ++ [j]) : WaitI (pushS s j) n (W.set k X) := by
  obtain ⟨h1, h2, h3, h4, h5⟩ := push_says (s := s) hf (by rw [h.len]; exact hk) hc hn
  have hle := h.le
  have hwl := h.wl
  refine ⟨by rw [List.length_set]; exact h.wl, fun y hy => ?_, by rw [h3, h.len], h.le, fun y hy => ?_⟩
  · rw [el_set _ _ _ _ (by omega)]
    split
    · exact hX
    · exact h.ok y hy
  · rw [el_set _ _ _ _ (by omega), h2]
    by_cases e : k = y
    · subst e
      rw [if_pos rfl, if_pos rfl, hl, h.same _ hy]
    · rw [if_neg e, if_neg e]
      exact h.same y hy
theorem WaitI.pop {s : Sd} {n : Nat} {W : List WaX} (h : WaitI s n W) {k : Nat} {js : List JX} (hp : Popped s k js) {X : WaX} (hX : X.ok) (hl : X.l = js) : WaitI (popS s) n (W.set k X) := by
  have hle := h.le
  have hwl := h.wl
  have hk := hp.lt
  have hln := h.len
  refine ⟨by rw [List.length_set]; exact h.wl, fun y hy => ?_, by rw [hp.len, h.len], h.le, fun y hy => ?_⟩
  · rw [el_set _ _ _ _ (by omega)]
    split
    · exact hX
    · exact h.ok y hy
  · rw [el_set _ _ _ _ (by omega)]
    by_cases e : k = y
    · subst e
      rw [if_pos rfl, hp.now, hl]
    · rw [if_neg e, hp.rest y (fun e2 => e e2.symm)]
      exact h.same y hy
theorem map_set_O (W : List WaX) (k : Nat) (X : WaX) (hk : k < W.length) (h : X.O = (el W k).O) : (W.set k X).map WaX.O = W.map WaX.O := by
  rw [List.map_set, h]
  apply List.ext_getElem?
  intro i
  rw [List.getElem?_set]
  split
  · rename_i e
    subst e
    rw [if_pos (by simpa using hk), List.getElem?_map, el_get hk]
    rfl
  · rfl
theorem Mem.starNoneW {w0 w : World} {L : List Asr} (M : Mem w0 w L) : ∀ n : Nat, Mem w0 w (Asr.star ((List.replicate n wait0).map WaX.O) :: L)
  | 0 => M.starNil
  | n + 1 => by
    rw [List.replicate_succ, List.map_cons]
    exact Mem.starCons ((M.starNoneW n).nilOwn 31 3)
end Go.Proofs.Ytdhmopmfnnlhcaa
