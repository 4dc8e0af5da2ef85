/-
  Walk: seawallref00.Own: lists that have memory of their own, the room behind it too.
-/
import Derived.Test.YtkdkdaljgoibaaaDraw
import Derived.Test.YtkdkdaljgoibaaaElem
namespace Go.Proofs.Ytkdkdaljgoibaaa
open Go Go.RowKit

theorem u8_toNat {n : Nat} (h : n < 256) : (UInt8.ofNat n).toNat = n := by
  rw [UInt8.toNat_ofNat']
  omega

theorem Rd.heap {w w' : World} {A : Option Addr} {n cap size : Nat} {vs : List Value} (h : Rd w A n cap size vs) (hk : ∀ g, 0 < n → A.map (·.block) = some g → w'.heap[g]? = w.heap[g]?) : Rd w' A n cap size vs :=
  ⟨h.len, h.le, fun hn => by
    obtain ⟨ad, e, hb, hc⟩ := h.at_ hn
    have hg := hk ad.block hn (by rw [e]; rfl)
    refine ⟨ad, e, ?_, fun j v hv => ?_⟩
    · rw [Array.getElem?_eq_getElem hb] at hg
      exact (Array.getElem?_eq_some_iff.1 hg).1
    · rw [← hc j v hv]
      exact World.cell?_of_block (by rw [add_block]; exact hg)⟩
theorem Rd.block {w : World} {A : Option Addr} {n cap size : Nat} {vs : List Value} (h : Rd w A n cap size vs) {g : Nat} (hn : 0 < n) (hg : A.map (·.block) = some g) : g < w.heap.size := by
  obtain ⟨ad, rfl, hb, _⟩ := h.at_ hn
  have : ad.block = g := by simpa using hg
  omega
theorem ownRd {w : World} {e : TypeId} {A : Option Addr} {n cap size : Nat} {vs : List Value} (h : (Asr.own e size A n cap vs).holds w) : Rd w A n cap size vs := by
  obtain ⟨hl, h2⟩ := h
  rcases h2 with ⟨rfl, rfl, rfl⟩ | ⟨g, sp, rfl, hg, hc, _, hn⟩
  · exact ⟨hl, Nat.le_refl _, fun h => by omega⟩
  · refine ⟨hl, hn, fun _ => ⟨_, rfl, (Array.getElem?_eq_some_iff.1 hg).1, fun j v hv => ?_⟩⟩
    rw [add_lit, Nat.zero_add, cell_of_row w g j _ e _ hg]
    have hj := (List.getElem?_eq_some_iff.1 hv).1
    simp [List.getElem?_append_left hj, hv]
theorem Mem.weak {w0 w : World} {L : List Asr} {A B : Asr} (M : Mem w0 w (A :: L)) (hB : B.holds w) (hf : ∀ g, B.foot g → A.foot g) : Mem w0 w (B :: L) :=
  ⟨M.base, ⟨hB, fun C hC g hg => M.sep.2.1 C hC g (hf g hg), M.sep.2.2⟩, fun C hC g hg => by
    rcases List.mem_cons.1 hC with rfl | hC
    · exact M.new _ (List.mem_cons_self ..) g (hf g hg)
    · exact M.new C (List.mem_cons_of_mem _ hC) g hg⟩
theorem Sep.mem : ∀ {L : List Asr} {w : World}, Sep L w → ∀ A ∈ L, A.holds w
  | _ :: _, _, h, B, hB => by
    rcases List.mem_cons.1 hB with rfl | hB
    · exact h.1
    · exact Sep.mem h.2.2 B hB
theorem Mem.dropl {w0 w : World} {L : List Asr} : ∀ (K : List Asr), Mem w0 w (K ++ L) → Mem w0 w L
  | [], h => h
  | _ :: K, h => Mem.dropl K h.tail

/-- A list, and what it holds. -/
structure OX where
  A : Option Addr
  cap : Nat
  l : List UInt8
def OX.v (x : OX) : Value := .slice x.A x.l.length x.cap
def OX.O (x : OX) : Asr := Asr.own 5 1 x.A x.l.length x.cap (bs x.l)

/-- A list, and a longer one that begins with what it holds. -/
structure TX where
  A : Option Addr
  cap : Nat
  n : Nat
  A2 : Option Addr
  cap2 : Nat
  l : List UInt8
def TX.v (x : TX) : Value := .slice x.A x.n x.cap
def TX.v2 (x : TX) : Value := .slice x.A2 x.l.length x.cap2
def TX.T (x : TX) : Asr where
  foot := fun k => (0 < x.n ∧ x.A.map (·.block) = some k) ∨ x.A2.map (·.block) = some k
  holds := fun w => (Asr.own 5 1 x.A2 x.l.length x.cap2 (bs x.l)).holds w ∧ Rd w x.A x.n x.cap 1 (bs (x.l.take x.n)) ∧ x.n ≤ x.l.length ∧
    (x.A2 = x.A ∨ ∀ g, 0 < x.n → x.A.map (·.block) = some g → x.A2.map (·.block) ≠ some g)
  bound := fun w h k hk => by
    rcases hk with ⟨hn, hk⟩ | hk
    · exact h.2.1.block hn hk
    · exact (Asr.own 5 1 x.A2 x.l.length x.cap2 (bs x.l)).bound w h.1 k hk
  stays := fun w w' hk h => ⟨(Asr.own 5 1 x.A2 x.l.length x.cap2 (bs x.l)).stays w w' (fun g hg => hk g (.inr hg)) h.1, h.2.1.heap (fun g hn hg => hk g (.inl ⟨hn, hg⟩)), h.2.2⟩

theorem Mem.toT {w0 w : World} {L : List Asr} {x : OX} (M : Mem w0 w (x.O :: L)) : Mem w0 w (TX.T ⟨x.A, x.cap, x.l.length, x.A, x.cap, x.l⟩ :: L) :=
  M.weak ⟨M.head, by rw [List.take_length]; exact ownRd M.head, Nat.le_refl _, .inl rfl⟩ (fun g hg => by
    rcases hg with ⟨_, hg⟩ | hg
    · exact hg
    · exact hg)

section
variable {P : Program} {n : Nat} {ρ : List (Nat × Value)} {w0 w : World} {rest : List Oper} {L : List Asr} {X : SqV P n} {Y : Sq P n}
variable {d : Nat} {ty : TypeId} {pos : String} {aft : Array Edge} {xx y : Operand} {t e : TypeId} {k : IntKind} {j : Int}

/-- The address of an element of one cell, and what is there. -/
theorem WL.idx1 {A : Option Addr} {c m : Nat} {vs : List Value} {v : Value} (ht : P.underlying t = some (.slice e)) (hs : ∀ w, (sizeOf e).run P w = .ok 1 w) (hx : ev ρ xx = some (.slice A m c)) (hy : ev ρ y = some (.int k j))
    (h : Rd w A m c 1 vs) (hv : vs[j.toNat]? = some v) (h0 : 0 ≤ j) (hd : Nat.blt d n = true)
    (kk : ∀ ad, w.cell? ad = some v → X.S rest ((d, .pointer (some ad)) :: ρ) w) :
    X.S (⟨some d, .indexAddr t xx y, ty, pos, aft, none⟩ :: rest) ρ w := by
  have hlt := (List.getElem?_eq_some_iff.1 hv).1
  have hl := h.len
  refine WL.idx ht hs hx hy h h0 (by omega) hd fun ad _ had => kk ad ?_
  have := had 0 (by omega)
  rw [Nat.mul_one, Nat.add_zero, hv] at this
  simpa [Addr.add] using this

theorem WL.appendT {x : TX} {A' : Option Addr} {m' c : Nat} {news : List UInt8} (E : Elem P t 5 1 1) (hx : ev ρ xx = some (.slice x.A2 x.l.length x.cap2)) (hy : ev ρ y = some (.slice A' m' c))
    (M : Mem w0 w (x.T :: L)) (R : RdB w A' c news) (hn : m' = news.length) (hb : x.l.length + news.length ≤ 140737488355328) (hd : Nat.blt d n = true)
    (kk : ∀ A2 cap2 w', Mem w0 w' (TX.T ⟨x.A, x.cap, x.n, A2, cap2, x.l ++ news⟩ :: L) → Y.S rest ((d, .slice A2 (x.l ++ news).length cap2) :: ρ) w') :
    Y.S (⟨some d, .call ⟨.builtin .append, #[xx, y], #[t, t]⟩, ty, pos, aft, none⟩ :: rest) ρ w := by
  subst hn
  obtain ⟨hown, hrd, hnl, halt⟩ := M.head
  have M1 := M.weak hown (fun g hg => .inr hg)
  obtain ⟨A2, cap2, w', hr, M2, alt⟩ := run_append2 E ty M1 R (bs_oneCell _) (by omega) (by simp only [maxLen]; omega)
  rw [← List.length_append] at hr M2
  rw [← bs_append] at M2
  refine WL.valW rfl rfl hd (fun a ha => by
    simp only [execOp, resolve, invoke, builtin, Sem.run_bind, Sem.run_pure, Result.andThen_ok, List.map_toArray, List.map_cons, List.map_nil, ha.eval hx, ha.eval hy, hr]) (kk A2 cap2 w' ?_)
  have htk : (x.l ++ news).take x.n = x.l.take x.n := List.take_append_of_le_length hnl
  have hholds : (TX.T ⟨x.A, x.cap, x.n, A2, cap2, x.l ++ news⟩).holds w' := by
    refine ⟨M2.head, ?_, by dsimp only; rw [List.length_append]; omega, ?_⟩
    · show Rd w' x.A x.n x.cap 1 (bs ((x.l ++ news).take x.n))
      rw [htk]
      rcases alt with ⟨rfl, hc⟩ | ⟨hfr, hc⟩
      · rcases halt with he | hne
        · refine ⟨hrd.len, hrd.le, fun h0 => ?_⟩
          have r2 := M2.rdOwnB
          obtain ⟨ad, e1, hb1, hc1⟩ := r2.at_ (by rw [List.length_append]; omega)
          refine ⟨ad, by rw [← he]; exact e1, hb1, fun j v hv => hc1 j v ?_⟩
          rw [← htk, ← bs_take, List.getElem?_take] at hv
          split at hv
          · exact hv
          · cases hv
        · exact hrd.heap fun g h0 hg => hc.block g (hrd.block h0 hg) (hne g h0 hg)
      · exact hrd.heap fun g h0 hg => hc.block g (hrd.block h0 hg) id
    · show A2 = x.A ∨ ∀ g, 0 < x.n → x.A.map (·.block) = some g → A2.map (·.block) ≠ some g
      rcases alt with ⟨rfl, _⟩ | ⟨hfr, _⟩
      · exact halt
      · refine .inr fun g h0 hg hg2 => ?_
        have h1 := hrd.block h0 hg
        have h2 := hfr g hg2
        omega
  refine ⟨M2.base, ⟨hholds, fun C hC g hg => ?_, M2.sep.2.2⟩, fun C hC g hg => ?_⟩
  · rcases hg with hg | hg
    · exact M.sep.2.1 C hC g (.inl hg)
    · exact M2.sep.2.1 C hC g hg
  · rcases List.mem_cons.1 hC with rfl | hC
    · rcases hg with hg | hg
      · exact M.new _ (List.mem_cons_self ..) g (.inl hg)
      · exact M2.new _ (List.mem_cons_self ..) g hg
    · exact M2.new C (List.mem_cons_of_mem _ hC) g hg
end


/-- The marks. -/
def pb (i k : Nat) : UInt8 := UInt8.ofNat ((i * 31 + k % 7) % 256)
def ab (i k : Nat) : UInt8 := UInt8.ofNat ((200 + i * 5 + k) % 256)
theorem pb_nat (i k : Nat) : (pb i k).toNat = (i * 31 + k % 7) % 256 := u8_toNat (by omega)
theorem ab_nat (i k : Nat) : (ab i k).toNat = (200 + i * 5 + k) % 256 := u8_toNat (by omega)
def pat (i n : Nat) : List UInt8 := (List.range n).map (pb i)
def app (i n : Nat) : List UInt8 := (List.range n).map (ab i)
theorem pat_length (i n : Nat) : (pat i n).length = n := by simp [pat]
theorem app_length (i n : Nat) : (app i n).length = n := by simp [app]
theorem app_succ (i n : Nat) : app i (n + 1) = app i n ++ [ab i n] := by simp [app, List.range_succ]
theorem pat_get {i n k : Nat} (h : k < n) : (pat i n)[k]? = some (pb i k) := by simp [pat, h]
theorem app_get {i n k : Nat} (h : k < n) : (app i n)[k]? = some (ab i k) := by simp [app, h]
end Go.Proofs.Ytkdkdaljgoibaaa
