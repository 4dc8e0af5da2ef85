/-
  append(s, make([]byte, n)...); a slice of an array in a variable; numbers of four bytes in lists; a bit taken away. Generic in the program but for numbers of types.
-/
import Derived.Lib.AppendZerosOnto
import Derived.Laws.BitsAllLaws
import Derived.ChangeKeysEq
import Derived.Test.YtinbcidgdbmcjaaLists3
namespace Go.Proofs.Ytinbcidgdbmcjaa
open Go Go.RowKit

theorem zeroCells_u8 (k : Nat) : (Builtin.zeroCells (Value.int .u8 0).cells k).toList = bs (List.replicate k 0) := by
  have e : (Value.int .u8 0).cells = #[.int .u8 0] := rfl
  rw [e]
  unfold Builtin.zeroCells bs
  apply List.ext_getElem
  · simp
  · intro i h1 h2
    simp [Nat.mod_one]
    rfl
section
variable {P : Program} {w0 w : World} {L : List Asr} {t tn e : TypeId} {cap : Nat} {A : Option Addr} {l : List UInt8} {kq kn : IntKind} {i : TypeInfo}
theorem run_appendZ (ht : P.underlying t = some (.slice e)) (htn : P.underlying tn = some (.int kn)) (hi : P.info? e = some i) (hz : i.zero = some (.int .u8 0)) (hs : i.size = 1) (hby : i.bytes = 1) (ty : TypeId) (M : Mem w0 w (Asr.own e 1 A l.length cap (bs l) :: L)) (hA : A ≠ none) (k : Nat) (hb : l.length + k ≤ 140737488355328) :
    ∃ A2 cap2 w', (Builtin.append_ #[t, tn] ty #[.slice A l.length cap, .int kq k]).run P w = .ok (.slice A2 (l.length + k) cap2) w' ∧ Mem w0 w' (Asr.own e 1 A2 (l.length + k) cap2 (bs (l ++ List.replicate k 0)) :: L) := by
  obtain ⟨g, sp, rfl, M1, hcl, hcm, hnc, hvl⟩ := M.ownRow hA
  have hg : w.heap[g]? = some (.cells (bs l ++ sp).toArray e (0, 0)) := M1.head
  have hw : IntKind.i64.wrap (k : Int) = k := by rw [IntKind.wrap_i64]; omega
  have hneg : ¬ ((k : Int) < 0) := by omega
  have hrl : (List.replicate k (0 : UInt8)).length = k := List.length_replicate
  have h48i : ¬ (281474976710656 < (k : Int) * ((1 : Nat) : Int)) := by omega
  by_cases h0 : k = 0
  · subst h0
    refine ⟨some ⟨g, 0, none⟩, cap, w, ?_, by simpa using M⟩
    simp [Builtin.append_, run_underlying ht, run_underlying htn, sizeOf, typeInfo, hi, hs, hby, asInt, asIntOf, hnc, storeCells, IntKind.wrap_i64]
  · have hne : ¬ (k * 1 = 0) := by omega
    by_cases hroom : l.length + k ≤ cap
    · have hfit : l.length * i.size + (bs (List.replicate k 0)).length ≤ (bs l ++ sp).toArray.size := by
        rw [hs, bs_length, hrl, List.size_toArray, hcl]
        omega
      have hst := run_storeCells_at P g (0 + l.length * i.size) e (bs (List.replicate k 0)) 0 (bs l ++ sp).toArray w hg (by simpa using hfit) (bs_oneCell _)
      simp only [Nat.add_zero] at hst
      refine ⟨some ⟨g, 0, none⟩, cap, w.setRow g ((bs l ++ sp).toArray.toList.take (0 + l.length * i.size) ++ bs (List.replicate k 0) ++ (bs l ++ sp).toArray.toList.drop (0 + l.length * i.size + (bs (List.replicate k 0)).length)).toArray, ?_, ?_⟩
      · have hzc := zeroCells_u8 k
        simp [Builtin.append_, run_underlying ht, run_underlying htn, sizeOf, typeInfo, zeroValue, hi, hz, hs, hby, asInt, asIntOf, hw, hneg, h0, hroom, Addr.add_lit, hzc] at hst ⊢
        first
        | rw [if_neg (by omega)]
          simp [hst]
        | simp [hst]
      · have e1 : (bs l ++ sp).toArray.toList.take (0 + l.length * i.size) ++ bs (List.replicate k 0) ++ (bs l ++ sp).toArray.toList.drop (0 + l.length * i.size + (bs (List.replicate k 0)).length) = bs (l ++ List.replicate k 0) ++ sp.drop k := by
          rw [hs, bs_append, bs_length, hrl, Nat.zero_add, Nat.mul_one, ← bs_length l]
          simp [List.drop_append]
        rw [e1]
        have M2 : Mem w0 (w.setRow g (bs (l ++ List.replicate k 0) ++ sp.drop k).toArray) (Asr.row g e (bs (l ++ List.replicate k 0) ++ sp.drop k) :: L) :=
          M1.write ⟨rfl, rfl, rfl, by simp, fun k _ hk => setRow_other w g k _ (fun e => hk e)⟩ (setRow_heap w g _ _ _ _ hg) (fun _ hf => .inl hf)
        refine M2.rowOwn _ rfl (by rw [bs_length, List.length_append, hrl, Nat.mul_one]) ?_ hcm hroom
        rw [List.length_append, bs_length, List.length_append, hrl, List.length_drop]
        rw [List.length_append, bs_length] at hcl
        omega
    · have hcells : ∀ j u, (bs l)[j]? = some u → w.drew.cell? ((⟨g, 0, none⟩ : Addr).add j) = some u := by
        intro j u hu
        have : w.cell? ((⟨g, 0, none⟩ : Addr).add j) = some u := by
          rw [add_lit, Nat.zero_add, cell_of_row w g j _ e _ hg]
          have hj := (List.getElem?_eq_some_iff.1 hu).1
          simp [List.getElem?_append_left hj, hu]
        exact this
      have hold : (Builtin.firstCells i.size l.length (.slice (some ⟨g, 0, none⟩) l.length cap)).run P w.drew = .ok (bs l).toArray w.drew :=
        run_firstCells_some (P := P) w.drew i.size l.length ⟨g, 0, none⟩ l.length cap (bs l) (by rw [bs_length, hs, Nat.mul_one]) hcells
      have hr := Lib.run_append_grow_zeros (P := P) w t tn ty e i (.int .u8 0) kq kn ht htn hi hz (some ⟨g, 0, none⟩) l.length cap (bs l) hold k (by omega) (by omega) (by omega) (by omega) (by rw [hby]; omega) (by rw [hby]; exact growslice_fits (by omega) (by omega))
      have hge := grownCap_ge w (l.length + k) cap e
      have hcm2 : grownCap w (l.length + k) cap e ≤ maxLen := grownCap_le_maxLen w (l.length + k) cap e (by simp only [maxLen]; omega)
      refine ⟨_, _, _, hr, ?_⟩
      have M3 := (M.tail.drew).alloc (.cells ((bs l).toArray ++ Builtin.zeroCells (Value.int .u8 0).cells k ++ Builtin.zeroCells (Value.int .u8 0).cells (grownCap w (l.length + k) cap e - (l.length + k))) e)
      have e1 : ((bs l).toArray ++ Builtin.zeroCells (Value.int .u8 0).cells k ++ Builtin.zeroCells (Value.int .u8 0).cells (grownCap w (l.length + k) cap e - (l.length + k))) = (bs (l ++ List.replicate k 0) ++ (Builtin.zeroCells (Value.int .u8 0).cells (grownCap w (l.length + k) cap e - (l.length + k))).toList).toArray := by
        apply Array.ext'
        rw [bs_append, ← zeroCells_u8]
        simp
      have M2 : Mem w0 (w.drew.alloc (.cells ((bs l).toArray ++ Builtin.zeroCells (Value.int .u8 0).cells k ++ Builtin.zeroCells (Value.int .u8 0).cells (grownCap w (l.length + k) cap e - (l.length + k))) e)) (Asr.row w.heap.size e (bs (l ++ List.replicate k 0) ++ (Builtin.zeroCells (Value.int .u8 0).cells (grownCap w (l.length + k) cap e - (l.length + k))).toList) :: L) := by
        rw [Asr.row, ← e1]
        exact M3
      refine M2.rowOwn _ rfl (by rw [bs_length, List.length_append, hrl, Nat.mul_one]) ?_ hcm2 hge
      rw [List.length_append, bs_length, List.length_append, hrl, zeroCells_u8, bs_length, List.length_replicate]
      omega
end
section
variable {P : Program} {n : Nat} {ρ : List (Nat × Value)} {w0 w : World} {rest : List Oper} {L L' : List Asr} {Y : Sq P n} {X : SqV P n}
variable {d : Nat} {ty : TypeId} {pos : String} {aft : Array Edge} {xo yo : Operand} {t t' tn e : TypeId} {kq kn : IntKind} {i : TypeInfo}
theorem WL.appendZ {A : Option Addr} {m cap k : Nat} {z : Int} {l : List UInt8} (ht : P.underlying t = some (.slice e)) (htn : P.underlying tn = some (.int kn)) (hi : P.info? e = some i) (hz : i.zero = some (.int .u8 0)) (hs : i.size = 1) (hby : i.bytes = 1) (hx : ev ρ xo = some (.slice A m cap)) (hy : ev ρ yo = some (.int kq z))
    (M : Mem w0 w L) (h : Del (Asr.own e 1 A l.length cap (bs l)) L L') (hl : m = l.length) (hk : z = (k : Int)) (h0 : 0 < l.length) (hb : l.length + k ≤ 140737488355328) (hd : Nat.blt d n = true)
    (kk : ∀ A2 cap2 w', Mem w0 w' (Asr.own e 1 A2 (l ++ List.replicate k 0).length cap2 (bs (l ++ List.replicate k 0)) :: L') → Y.S rest ((d, .slice A2 (l ++ List.replicate k 0).length cap2) :: ρ) w') :
    Y.S (⟨some d, .call ⟨.builtin .append, #[xo, yo], #[t, tn]⟩, ty, pos, aft, none⟩ :: rest) ρ w := by
  subst hl hk
  have M1 := M.del h
  have hA : A ≠ none := by
    rintro rfl
    rcases M1.head.2 with ⟨_, h2, _⟩ | ⟨g, sp, h2, _⟩
    · omega
    · cases h2
  obtain ⟨A2, cap2, w', hr, M'⟩ := run_appendZ (kq := kq) ht htn hi hz hs hby ty M1 hA k hb
  have e : (l ++ List.replicate k (0 : UInt8)).length = l.length + k := by simp
  have k2 := kk A2 cap2 w'
  rw [e] at k2
  exact WL.valW (v := .slice A2 (l.length + k) cap2) (w' := w') rfl rfl hd (fun a ha => by
    simp only [execOp, resolve, invoke, builtin, Sem.run_bind, Sem.run_pure, Result.andThen_ok, List.map_toArray, List.map_cons, List.map_nil, ha.eval hx, ha.eval hy, hr]) (k2 M')
theorem WL.bandNot {a b : Operand} {k : IntKind} {p q r : Int} (hx : ev ρ a = some (.int k p)) (hy : ev ρ b = some (.int k q)) (hr : bits .andNot k p q = r) (hd : Nat.blt d n = true)
    (kk : X.S rest ((d, .int k r) :: ρ) w) : X.S (⟨some d, .binOp .andNot t a b t', ty, pos, aft, none⟩ :: rest) ρ w :=
  WL.bin hx hy (eqGuard_at_int ..) (by simp [binOp, Op.intBits, bits] at hr ⊢; first | exact hr | simp [hr]) hd kk
end
end Go.Proofs.Ytinbcidgdbmcjaa
