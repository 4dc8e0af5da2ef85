/-
  Strings: append to bytes, put together, as bytes; function values that hold a variable; a function without a body. Generic in the program.
-/
import Derived.Deep.AppendSrc
import Derived.Laws.IdiomStrings
import Derived.Laws.Externs
import Derived.Lib.Bytealg
import Derived.Test.YtinbcidgdbmcjaaZeros
namespace Go.Proofs.Ytinbcidgdbmcjaa
open Go Go.RowKit

theorem byteCells_bs (l : List UInt8) : byteCells (ByteArray.mk l.toArray) = bs l := by
  unfold byteCells bs
  simp
  intro a _
  rfl
theorem str_size (l : List UInt8) : (ByteArray.mk l.toArray).size = l.length := by simp [ByteArray.size]
section
variable {P : Program} {w0 w : World} {L : List Asr} {t tx e : TypeId} {cap : Nat} {A : Option Addr} {l s : List UInt8} {i : TypeInfo} {bytes : Nat}
theorem run_appendS (T : Elem P t e 1 1) (hk : P.underlying tx = some .string) (ty : TypeId) (M : Mem w0 w (Asr.own e 1 A l.length cap (bs l) :: L)) (hb : l.length + s.length ≤ 140737488355328) :
    ∃ A2 cap2 w', (Builtin.append_ #[t, tx] ty #[.slice A l.length cap, str s]).run P w = .ok (.slice A2 (l.length + s.length) cap2) w' ∧ Mem w0 w' (Asr.own e 1 A2 (l.length + s.length) cap2 (bs (l ++ s)) :: L) := by
  obtain ⟨i, z, hi, hz, hsz, hby, hzs⟩ := T.info
  have hsrc := Src.ofString (P := P) w hk (ByteArray.mk s.toArray)
  rw [byteCells_bs, str_size] at hsrc
  have hsrc2 : Src P i.size tx (.string (ByteArray.mk s.toArray)) s.length (bs s) w := by rw [hsz]; exact hsrc
  obtain ⟨hl, h2⟩ := M.head
  have made : ∀ old, Mem w0 (w.drew.alloc (.cells ((bs l ++ bs s).toArray ++ Builtin.zeroCells z.cells (grownCap w (l.length + s.length) old e - (l.length + s.length))) e)) (Asr.own e 1 (some ⟨w.heap.size, 0, none⟩) (l.length + s.length) (grownCap w (l.length + s.length) old e) (bs (l ++ s)) :: L) := by
    intro old
    have hge := grownCap_ge w (l.length + s.length) old e
    have hcm : grownCap w (l.length + s.length) old e ≤ maxLen := grownCap_le_maxLen w (l.length + s.length) old e (by simp only [maxLen]; omega)
    have M1 := (M.tail.drew).alloc (.cells ((bs l ++ bs s).toArray ++ Builtin.zeroCells z.cells (grownCap w (l.length + s.length) old e - (l.length + s.length))) e)
    have M2 : Mem w0 (w.drew.alloc (.cells ((bs l ++ bs s).toArray ++ Builtin.zeroCells z.cells (grownCap w (l.length + s.length) old e - (l.length + s.length))) e)) (Asr.row w.heap.size e (bs (l ++ s) ++ (Builtin.zeroCells z.cells (grownCap w (l.length + s.length) old e - (l.length + s.length))).toList) :: L) := by
      have e1 : ((bs l ++ bs s).toArray ++ Builtin.zeroCells z.cells (grownCap w (l.length + s.length) old e - (l.length + s.length))) = (bs (l ++ s) ++ (Builtin.zeroCells z.cells (grownCap w (l.length + s.length) old e - (l.length + s.length))).toList).toArray := by
        apply Array.ext'; rw [bs_append]; simp
      rw [Asr.row, ← e1]
      exact M1
    refine M2.rowOwn _ rfl (by rw [bs_length, List.length_append, Nat.mul_one]) ?_ hcm hge
    rw [List.length_append, madeZero_length, hzs, bs_length, List.length_append]
    omega
  rcases h2 with ⟨rfl, h3, rfl⟩ | ⟨g, sp, rfl, hg, hcl, hcm, hnc⟩
  · have hl0 : l = [] := List.eq_nil_of_length_eq_zero h3
    subst hl0
    by_cases hs0 : s = []
    · subst hs0
      refine ⟨none, 0, w, ?_, by simpa using M⟩
      have e1 : str [] = .string (ByteArray.mk #[]) := rfl
      simp [Builtin.append_, run_underlying T.und, run_underlying hk, sizeOf, typeInfo, hi, Builtin.lenOf, e1, Builtin.firstCells, ByteArray.size]
    · have hp : 0 < s.length := List.length_pos_iff.2 hs0
      have hr := run_append_grow_src (P := P) w t tx ty e i z T.und hi hz none 0 0 [] (run_firstCells_none w.drew i.size 0 0 0) _ s.length (bs s) hsrc2 (by omega) (by omega) (by rw [hby]; exact growslice_fits (by omega) (by omega))
      have hmd := made 0
      simp only [List.length_nil, Nat.zero_add, List.nil_append] at hr hmd ⊢
      exact ⟨_, _, _, hr, hmd⟩
  · by_cases hroom : l.length + s.length ≤ cap
    · have hfit : l.length * i.size + (bs s).length ≤ (bs l ++ sp).toArray.size := by
        rw [hsz, bs_length, List.size_toArray, hcl]
        omega
      have hst := run_storeCells_at P g (0 + l.length * i.size) e (bs s) 0 (bs l ++ sp).toArray w hg (by simpa using hfit) (bs_oneCell _)
      simp only [Nat.add_zero] at hst
      refine ⟨some ⟨g, 0, none⟩, cap, w.setRow g ((bs l ++ sp).toArray.toList.take (0 + l.length * i.size) ++ bs s ++ (bs l ++ sp).toArray.toList.drop (0 + l.length * i.size + (bs s).length)).toArray, ?_, ?_⟩
      · have hls := hsrc2.len
        have hcs := hsrc2.cells
        rw [show str s = .string (ByteArray.mk s.toArray) from rfl]
        simp only [Nat.zero_add] at hst
        simp [Builtin.append_, run_underlying T.und, run_underlying hk, sizeOf, typeInfo, hi, hls, hroom, hcs, Addr.add_lit, hst]
      · have e1 : (bs l ++ sp).toArray.toList.take (0 + l.length * i.size) ++ bs s ++ (bs l ++ sp).toArray.toList.drop (0 + l.length * i.size + (bs s).length) = bs (l ++ s) ++ sp.drop s.length := by
          rw [hsz, bs_append, bs_length, Nat.zero_add, Nat.mul_one, ← bs_length l]
          simp [List.drop_append]
        rw [e1]
        obtain ⟨g', sp', hA, M1, _⟩ := M.ownRow (by simp)
        obtain rfl : g = g' := by simpa using hA
        have M2 : Mem w0 (w.setRow g (bs (l ++ s) ++ sp.drop s.length).toArray) (Asr.row g e (bs (l ++ s) ++ sp.drop s.length) :: L) :=
          M1.write ⟨rfl, rfl, rfl, by simp, fun k _ hk => setRow_other w g k _ (fun e => hk e)⟩ (setRow_heap w g _ _ _ _ hg) (fun _ hf => .inl hf)
        refine M2.rowOwn _ rfl (by rw [bs_length, List.length_append, Nat.mul_one]) ?_ hcm hroom
        rw [List.length_append, bs_length, List.length_append, List.length_drop]
        rw [List.length_append, bs_length] at hcl
        omega
    · have hcells : ∀ j u, (bs l)[j]? = some u → w.drew.cell? ((⟨g, 0, none⟩ : Addr).add j) = some u := by
        intro j u hu
        have : w.cell? ((⟨g, 0, none⟩ : Addr).add j) = some u := by
          rw [add_lit, Nat.zero_add, cell_of_row w g j _ e _ hg]
          have hj := (List.getElem?_eq_some_iff.1 hu).1
          simp [List.getElem?_append_left hj, hu]
        exact this
      have hold : (Builtin.firstCells i.size l.length (.slice (some ⟨g, 0, none⟩) l.length cap)).run P w.drew = .ok (bs l).toArray w.drew :=
        run_firstCells_some (P := P) w.drew i.size l.length ⟨g, 0, none⟩ l.length cap (bs l) (by rw [bs_length, hsz, Nat.mul_one]) hcells
      have hr := run_append_grow_src (P := P) w t tx ty e i z T.und hi hz (some ⟨g, 0, none⟩) l.length cap (bs l) hold _ s.length (bs s) hsrc2 (by omega) (by omega) (by rw [hby]; exact growslice_fits (by omega) (by omega))
      exact ⟨_, _, _, hr, made cap⟩
end
section
variable {P : Program} {n : Nat} {ρ : List (Nat × Value)} {w0 w : World} {rest : List Oper} {L L' : List Asr} {Y : Sq P n} {X : SqV P n}
variable {d : Nat} {ty : TypeId} {pos : String} {aft : Array Edge} {x y : Operand} {t t' tx e : TypeId}
theorem WL.appendS {A : Option Addr} {m cap : Nat} {l s : List UInt8} (T : Elem P t e 1 1) (hk : P.underlying tx = some .string) (hx : ev ρ x = some (.slice A m cap)) (hy : ev ρ y = some (str s)) (M : Mem w0 w L) (h : Del (Asr.own e 1 A l.length cap (bs l)) L L') (hl : m = l.length) (hb : l.length + s.length ≤ 140737488355328) (hd : Nat.blt d n = true)
    (kk : ∀ A2 cap2 w', Mem w0 w' (Asr.own e 1 A2 (l ++ s).length cap2 (bs (l ++ s)) :: L') → Y.S rest ((d, .slice A2 (l ++ s).length cap2) :: ρ) w') :
    Y.S (⟨some d, .call ⟨.builtin .append, #[x, y], #[t, tx]⟩, ty, pos, aft, none⟩ :: rest) ρ w := by
  subst hl
  obtain ⟨A2, cap2, w', hr, M'⟩ := run_appendS T hk ty (M.del h) hb
  have k2 := kk A2 cap2 w'
  rw [List.length_append] at k2
  exact WL.valW (v := .slice A2 (l.length + s.length) cap2) (w' := w') rfl rfl hd (fun a ha => by
    simp only [execOp, resolve, invoke, builtin, Sem.run_bind, Sem.run_pure, Result.andThen_ok, List.map_toArray, List.map_cons, List.map_nil, ha.eval hx, ha.eval hy, hr]) (k2 M')
theorem WL.addS {l m : List UInt8} (hx : ev ρ x = some (str l)) (hy : ev ρ y = some (str m)) (hb : l.length + m.length ≤ 1000000) (hd : Nat.blt d n = true)
    (kk : X.S rest ((d, str (l ++ m)) :: ρ) w) : X.S (⟨some d, .binOp .add t x y t', ty, pos, aft, none⟩ :: rest) ρ w :=
  WL.bin hx hy (eqGuard_at_string ..) (by
    rw [str, str, binOp_string_add]
    have e : (ByteArray.mk l.toArray) ++ (ByteArray.mk m.toArray) = ByteArray.mk (l ++ m).toArray := by
      apply ByteArray.ext
      simp
    simp [Op.stringOp, e, str, str_size]
    try omega) hd kk
theorem WL.mkFn {f : _root_.Go.Fn} {cs : List Operand} {vs : List Value} (hx : evs ρ cs = some vs) (hd : Nat.blt d n = true) (kk : X.S rest ((d, .func f #[] vs.toArray) :: ρ) w) :
    X.S (⟨some d, .makeFunc f #[] cs.toArray, ty, pos, aft, none⟩ :: rest) ρ w :=
  WL.val rfl rfl hd (fun a ha => by
    have e := ha.evals hx
    simp [execOp, Instr.makeFunc, e]) kk
theorem WL.callX {f : FuncId} {fn : Func} {en : Array Value → Sem Value} {xs : List Operand} {ts : Array TypeId} {vs : List Value} {v : Value} (hf : P.funcs[f]? = some fn) (hname : (fn.name == "runtime.NumGoroutine") = false) (hb : fn.body.isNone = true) (hn : Extern.findNext fn = none) (he : Extern.find fn = some en)
    (hxs : evs ρ xs = some vs) (hr : (en vs.toArray).run P w = .ok v w) (hd : Nat.blt d n = true) (kk : X.S rest ((d, v) :: ρ) w) :
    X.S (⟨some d, .call ⟨.value (.func f), xs.toArray, ts⟩, ty, pos, aft, none⟩ :: rest) ρ w :=
  WL.val rfl rfl hd (fun a ha => by
    have e := ha.evals hxs
    simp only [execOp, resolve, Act.eval, Deferred.ofValue, Sem.run_bind, Sem.run_pure, Result.andThen_ok, invoke, List.map_toArray, e, Array.append_empty, Array.empty_append, run_callFunc_extern hf hname hb hn he, hr]) kk
end
end Go.Proofs.Ytinbcidgdbmcjaa
