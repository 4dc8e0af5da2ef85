/-
  Rules, laws and walks, part 5 of 11.
-/
import Derived.Test.YtlminileigfkcaaGreatFarD
import Derived.Laws.Externs
namespace Go.Proofs.YtlminileigfkcaaGreat
open Go Go.RowKit Go.Lib Bin
section
variable {w0 w : World} {A B : Asr} {K : List Asr}
theorem Mem.back2 (M : Mem w0 w (A :: B :: K)) : Mem w0 w (K ++ [A, B]) := M.perm (List.perm_append_comm (l₁ := [A, B]))
theorem Mem.fore2 (M : Mem w0 w (K ++ [A, B])) : Mem w0 w (A :: B :: K) := M.perm (List.perm_append_comm (l₂ := [A, B]))
variable {D : Asr} {K2 : List Asr}
theorem Mem.mid2 (M : Mem w0 w (A :: B :: (K ++ K2))) : Mem w0 w (K ++ (A :: B :: K2)) :=
 M.perm ((List.Perm.cons A List.perm_middle.symm).trans List.perm_middle.symm)
theorem Mem.out2 (M : Mem w0 w (D :: (K ++ (A :: B :: K2)))) : Mem w0 w (A :: B :: D :: (K ++ K2)) := by
 have h : (D :: (K ++ (A :: B :: K2))).Perm (A :: B :: (D :: K ++ K2)) := by
  rw [← List.cons_append]
  exact List.perm_middle.trans (List.Perm.cons A List.perm_middle)
 exact M.perm h
end
def keysI (ms : List Pr) (idx : List Nat) : List (List UInt8) := idx.map fun i => (el ms i).1
theorem el_some {ms : List Pr} {j : Nat} (h : j < ms.length) : ms[j]? = some (el ms j) := by simp [el, h]
theorem keysI_all {ms : List Pr} {idx : List Nat} (h : idx.Perm (List.range ms.length)) : (keysI ms idx).Perm (ms.map (·.1)) := by
 refine (h.map _).trans ?_
 have e : (List.range ms.length).map (fun i => (el ms i).1) = ms.map (·.1) := by
  apply List.ext_getElem?
  intro i
  rw [List.getElem?_map, List.getElem?_map]
  rcases Nat.lt_or_ge i ms.length with h | h
  ·rw [List.getElem?_range h, el_some h]
   rfl
  ·rw [List.getElem?_eq_none (by simpa using h), List.getElem?_eq_none h]
   rfl
 rw [e]
theorem Keys1_call : ∀ (args : Array Value) (w : World), (callFunc 120 args).run Tryz.prog w = .ok (.enter 120 args) w := Tryz.call120
set_option maxRecDepth 10000 in
theorem keys_iter (gb g : Nat) (ms : List Pr) : IterM Tryz.prog 120 [.pointer (some ⟨gb, 0, none⟩)] (fun k : List UInt8 => [str k]) [Asr.row gb 79 [.map (some g)], Asr.mp strV g ms] (fun pre _ => pre.length + 1 ≤ ms.length) (fun xs => xs.Perm (ms.map (·.1))) := by
 intro σ w0 w l JL F z0 hF M hstep
 replace M : Mem w0 w (Asr.row gb 79 [.map (some g)] :: Asr.mp strV g ms :: JL z0) := M
 refine Fn.enter Tryz.func120 rfl Tryz.ntmps120 rfl (W.sub [(0, _), (1, _)] (.cons rfl (.cons rfl .nil)) (W.seq (W.region (WL.loadR Tryz.isAgg79 rfl M Has.a rfl rfl (WL.range Tryz.underlying79 rfl M Del.a rfl ?_)))))
 intro gi w M
 refine WL.nil (WX.next (W.sub [(0, _), (5, _)] (.cons rfl (.cons rfl .nil)) (W.block (W.loop (ι := List Nat × σ) (fun z => [(0, .func (.yield l) #[] #[]), (5, .pointer (some ⟨gi, 0, none⟩))]) (fun zz w => Mem w0 w ((fun z => Asr.mpW strV g gi ms z.1 :: Asr.row gb 79 [.map (some g)] :: JL z.2) zz) ∧ (fun z => F (keysI ms z.1) z.2 ∧ z.1.length ≤ ms.length) zz) (fun z => ms.length - z.1.length) (([], z0)) envSub.sf ⟨M.sel Sel.a, ⟨hF, Nat.zero_le _⟩⟩ ?_))))
 clear M; rintro (⟨idx, z⟩) w ⟨M, ⟨hFz, hil⟩⟩; dsimp only at M hFz hil ⊢
 refine W.sub [(0, _), (5, _)] (.cons rfl (.cons rfl .nil)) (W.seq (W.region (WL.next rfl M Del.a rfl ?_)))
 intro b9 r9 idx9 w hb0 hb1 hl9 M
 refine WL.extractL rfl rfl rfl (WL.nil (WX.next (W.sub [(0, _), (5, _), (7, _)] (.cons rfl (.cons rfl (.cons rfl .nil))) (W.seq (W.cond rfl (fun c0 => ?_) (fun c0 => ?_))))))
 ·(try simp only [Bool.not_eq_true'] at c0); (try simp only [Bool.not_eq_false'] at c0); (try simp only [decide_eq_true_eq] at c0); (try simp only [decide_eq_false_iff_not] at c0)
  obtain ⟨j, hj, hjn, rfl⟩ := hb1 c0
  rw [List.length_append] at hl9
  have hkl : (keysI ms idx).length = idx.length := by unfold keysI; rw [List.length_map]
  have hkn : keysI ms (idx ++ [j]) = keysI ms idx ++ [(el ms j).1] := by unfold keysI; simp
  refine W.skip (WX.next (W.block (W.seq (W.region (WL.entry (j := j) (p := el ms j) (el_some hj) rfl M Has.a rfl ?_)))))
  refine WL.extractL rfl rfl rfl (WL.assign rfl rfl (WL.nil (WX.next (W.sub [(0, _), (3, _), (5, _)] (.cons rfl (.cons rfl (.cons rfl .nil))) (W.seq (W.regionY (WL.move rfl rfl (WL.move rfl rfl ?_))))))))
  refine WL.yield (args := [str (el ms j).1]) rfl rfl (hstep _ (keysI ms idx) (el ms j).1 z _ (by dsimp only; rw [hkl]; simpa using hl9) hFz M.back2) rfl ?_
  rintro w ⟨z', hF', M⟩
  replace M := M.fore2
  refine WL.not rfl rfl (WLI.nil (WX.next (W.sub [(0, _), (5, _), (13, _)] (.cons rfl (.cons rfl (.cons rfl .nil))) (W.condF rfl (W.skip (WX.blockNormal ?_))))))
  skip
  rw [← hkn] at hF'
  refine WX.round ((idx ++ [j], z')) envSub.sf ⟨M.sel Sel.a, ⟨hF', by dsimp only; rw [List.length_append]; simpa using hl9⟩⟩ (by dsimp only; rw [List.length_append]; simp at hl9 ⊢; omega)
 ·(try simp only [Bool.not_eq_true'] at c0); (try simp only [Bool.not_eq_false'] at c0); (try simp only [decide_eq_true_eq] at c0); (try simp only [decide_eq_false_iff_not] at c0)
  obtain ⟨e9, hperm⟩ := hb0 c0
  rw [e9] at M
  refine W.exit (WX.thenExit (WX.thenExit (WX.blockHere (WX.end0 rfl ?_))))
  exact ⟨_, z, keysI_all hperm, hFz, (show Mem w0 _ (Asr.row gb 79 [.map (some g)] :: Asr.mp strV g ms :: JL z) from (M.mapOut).sel Sel.a)⟩
section
variable {α : Type} {gf : FuncId} {lb : List Value} {LI L' : List Asr} {G : List (List UInt8) → List UInt8 → Prop} {S : List (List UInt8) → Prop}
set_option maxRecDepth 10000 in
theorem appendSeq_ok (hit : IterM Tryz.prog gf lb (fun k : List UInt8 => [str k]) LI G S) (eg : ∀ args w, (callFunc gf args).run Tryz.prog w = .ok (.enter gf args) w) (hG : ∀ pre x, G pre x → pre.length + 1 ≤ 100000) (w0 w : World) (M : Mem w0 w (LI ++ L')) :
 Fn Tryz.prog 132 [.slice none 0 0, .func (.func gf) #[] lb.toArray] w fun v w' => ∃ xs A c, S xs ∧ v = .slice A xs.length c ∧ Mem w0 w' (Asr.lst txE A c xs :: (LI ++ L')) := by
 refine FnM.enter Tryz.func132 rfl Tryz.ntmps132 rfl (W.sub [(0, _), (1, _)] (.cons rfl (.cons rfl .nil)) (W.seq (W.region (WL.box rfl M rfl ?_))))
 intro g0_0 w M
 try simp only [Value.cells] at M
 try simp only [List.toList_toArray] at M
 refine WL.assign rfl rfl (WL.nil (WX.next (W.sub [(1, _), (2, _)] (.cons rfl (.cons rfl .nil)) (W.seq (W.seq (W.region (WL.move rfl rfl (WL.nil (WX.next (W.sub [(2, _), (6, _)] (.cons rfl (.cons rfl .nil)) (W.block ?_)))))))))))
 have M0 : Mem w0 w (LI ++ ([Asr.row g0_0 71 [.slice none 0 0], Asr.lst txE none 0 []] ++ L')) := by
  have M1 := (M.nilOwn 9 1).f1
  exact M1.mid2
 refine W.rangeF (α := List UInt8) (σ := Option Addr × Nat × List (List UInt8)) hit rfl eg (fun _ => rfl) (fun z => [Asr.row g0_0 71 [.slice z.1 z.2.2.length z.2.1], Asr.lst txE z.1 z.2.1 z.2.2] ++ L') (fun pre z => z.2.2 = pre) (none, 0, []) rfl M0 (fun x => [(7, str x), (2, .pointer (some ⟨g0_0, 0, none⟩))]) (fun x => [(5, str x), (2, .pointer (some ⟨g0_0, 0, none⟩))]) (fun x a ha => (params1 ha rfl).sub (.cons rfl (.cons rfl .nil))) ?_ ?_ ?_
 ·intro l9 x9 w9 K9 hK9
  refine WI.region (WL.assign rfl rfl (WLI.nil ?_))
  exact fun a9 ha9 => hK9 a9 (ha9.sub envSub.sf)
 ·rintro l9 LX pre x ⟨A, c, xs⟩ w hg9 hxs M
  dsimp only at hxs M
  subst hxs
  have hg8 := hG _ _ hg9
  replace M : Mem w0 w (Asr.row g0_0 71 [.slice A xs.length c] :: Asr.lst txE A c xs :: (L' ++ LX)) := M
  refine WI.block (WI.region (WL.loadR Tryz.isAgg71 rfl M Has.a rfl rfl (WL.move rfl rfl (WL.buildL (E := txE) (l := [x]) Tryz.elem9 M rfl rfl rfl rfl rfl rfl ?_))))
  intro g3_2 w M
  refine WL.appendL (E := txE) Tryz.elem9 rfl rfl M Del.a (by first | with_reducible assumption | with_reducible exact RdL.mem (by with_reducible assumption) M | exact M.rdL Has.a | exact RdLH.at (by assumption) (M.sel Sel.a) | exact RdL.nil _ _ _) rfl rfl (by first | omega | (simp; done) | (simp; omega)) (by first | (simp only [maxLen]; omega) | (simp [maxLen]; done) | (simp [maxLen]; omega)) rfl ?_
  intro A3_3 cap3_3 w M
  refine WL.storeR Tryz.sizeOf71 rfl rfl rfl M Has.a (by repeat (first | exact SetAt.zero | apply SetAt.succ)) Upd.a ?_
  intro w M
  refine WLI.nil (WX.blockNormal ?_)
  exact fun a9 ha9 => ⟨rfl, (A3_3, cap3_3, xs ++ [x]), rfl, M.sel Sel.a⟩
 rintro D xs ⟨A, c, ys⟩ w hS hys M
 dsimp only at hys M
 subst hys
 have M9 := M.out2
 replace M : Mem w0 w (Asr.row g0_0 71 [.slice A ys.length c] :: Asr.lst txE A c ys :: Asr.obj D (.deferred (some [])) :: (LI ++ L')) := M9
 refine Wd.blockNormal (Wd.next (Wd.sub [(2, _)] (.cons rfl .nil) (Wd.seq (Wd.region (WL.loadR Tryz.isAgg71 rfl M Has.a rfl rfl (WL.assign rfl rfl (WL.nil (Wd.next (Wd.sub [(4, _)] (.cons rfl .nil) (Wd.ret ?_))))))))))
 refine WX.retMark rfl rfl M Del.a ?_; intro w M
 exact ⟨_, A, c, hS, rfl, M.sel Sel.a⟩
end
end Go.Proofs.YtlminileigfkcaaGreat
namespace Go.Proofs.YtlminileigfkcaaGreat
open Go Go.RowKit Go.Lib Bin
section
variable {P : Program} {n : Nat} {ρ : List (Nat × Value)} {w0 w : World} {rest : List Oper} {L L' : List Asr} {X : SqV P n} {Y : Sq P n}
variable {d : Nat} {ty : TypeId} {pos : String} {aft : Array Edge} {x y z : Operand} {t t' kt et : TypeId}
theorem equalMapN (d g : Nat) (ht : P.underlying t = some (.map kt et)) : (Op.equalIn (d + 1) t (.map (some g)) (.map none)).run P w = .ok false w := by simp [Op.equalIn, run_underlying ht]
theorem WL.eqlMapN {g : Nat} (ht : P.underlying t = some (.map kt et)) (hx : ev ρ x = some (.map (some g))) (hy : ev ρ y = some (.map none)) (hd : Nat.blt d n = true)
 (kk : X.S rest ((d, .bool false) :: ρ) w) : X.S (⟨some d, .binOp .eql t x y t', ty, pos, aft, none⟩ :: rest) ρ w := by
 have e1 := equalMapN (w := w) 9999 g ht
 have e2 : (binOp .eql t (.map (some g)) (.map none)).run P w = .ok (.bool false) w := by
  simp only [binOp]
  simp [show Op.equal t (.map (some g)) (.map none) = Op.equalIn (9999 + 1) t (.map (some g)) (.map none) from rfl, e1]
 refine WL.val rfl rfl hd (fun a ha => ?_) kk
 simp [execOp, ha.eval hx, ha.eval hy, e2, eqGuard]
theorem WL.mkIface {v : Value} (ht : P.underlying t = some (.map kt et)) (hx : ev ρ x = some v) (hd : Nat.blt d n = true) (kk : X.S rest ((d, .iface t v) :: ρ) w) : X.S (⟨some d, .makeInterface t x, ty, pos, aft, none⟩ :: rest) ρ w :=
 WL.val rfl rfl hd (fun a ha => by simp [execOp, ha.eval hx, Instr.makeInterface, run_underlying ht]) kk
theorem WL.assertMap {v : Value} {xt : TypeId} (ht : P.underlying t = some (.map kt et)) (hx : ev ρ x = some (.iface t v)) (hd : Nat.blt d n = true) (kk : X.S rest ((d, v) :: ρ) w) : X.S (⟨some d, .typeAssert x xt t false, ty, pos, aft, none⟩ :: rest) ρ w :=
 WL.val rfl rfl hd (fun a ha => by simp [execOp, ha.eval hx, Instr.typeAssert, run_underlying ht]) kk
theorem WL.callXW {f : FuncId} {fn : Func} {en : Array Value → Sem Value} {xs : List Operand} {ts : Array TypeId} {vs : List Value} {v : Value} {w' : World} (hf : P.funcs[f]? = some fn) (hname : (fn.name == "runtime.NumGoroutine") = false) (hb : fn.body.isNone = true) (hn : Extern.findNext fn = none) (he : Extern.find fn = some en)
 (hxs : evs ρ xs = some vs) (hr : (en vs.toArray).run P w = .ok v w') (hd : Nat.blt d n = true) (kk : Y.S rest ((d, v) :: ρ) w') :
 Y.S (⟨some d, .call ⟨.value (.func f), xs.toArray, ts⟩, ty, pos, aft, none⟩ :: rest) ρ w :=
 WL.valW rfl rfl hd (fun a ha => by
  have e := ha.evals hxs
  simp only [execOp, resolve, Act.eval, Deferred.ofValue, Sem.run_bind, Sem.run_pure, Result.andThen_ok, invoke, List.map_toArray, e, Array.append_empty, Array.empty_append, run_callFunc_extern hf hname hb hn he, hr]) kk
theorem Mem.cloned {κ α : Type} {E : MapE κ α} {g : Nat} {ms : List (κ × α)} (M : Mem w0 w L) (h : Has (Asr.mp E g ms) L) (t : TypeId) :
 ∃ g' w', (Extern.MapsClone.clone #[.iface t (.map (some g))]).run P w = .ok (.iface t (.map (some g'))) w' ∧ Mem w0 w' (Asr.mp E g' ms :: L) := by
 obtain ⟨arr, clock, hg, hes, hst⟩ := M.has h
 have M1 := M.alloc (.map arr clock)
 refine ⟨w.heap.size, w.alloc (.map arr clock), ?_, M1.weak ⟨arr, clock, Go.heap_alloc_new w _, hes, hst⟩ (fun _ h => h)⟩
 have e : Extern.MapsClone.clone #[.iface t (.map (some g))] = (getObj g >>= fun o => match o with
  | .map entries clock => (newObj (.map entries clock) >>= fun n => pure (.iface t (.map (some n))))
  | _ => stuck "maps.clone: a map expected") := rfl
 rw [e]
 simp [MapKept.run_getObj_map hg, Result.andThen, go_sem]
end
theorem mapsKeys_ok (g : Nat) (w0 : World) : Fn Tryz.prog 83 [.map (some g)] w0 fun v w' => ∃ gb, v = .func (.func 120) #[] #[.pointer (some ⟨gb, 0, none⟩)] ∧ Mem w0 w' [Asr.row gb 79 [.map (some g)]] := by
 have M := Mem.refl w0
 obtain ⟨w, hw⟩ : ∃ w, w = w0 := ⟨w0, rfl⟩
 refine Fn.enter Tryz.func83 rfl Tryz.ntmps83 rfl (W.sub [(0, _)] (.cons rfl .nil) (W.seq (W.region (WL.box rfl M rfl ?_))))
 intro g0_0 w M
 try simp only [Value.cells] at M
 try simp only [List.toList_toArray] at M
 refine WL.assign rfl rfl (WL.nil (WX.next (W.sub [(1, _)] (.cons rfl .nil) (W.seq (W.region (WL.mkFn rfl rfl (WL.assign rfl rfl (WL.nil (WX.next (W.sub [(2, _)] (.cons rfl .nil) (W.ret (WX.ret1 rfl rfl ?_))))))))))))
 exact ⟨g0_0, rfl, M.sel Sel.a⟩
section
variable (w0 w : World) (L L' : List Asr)
theorem mapsClone_ok {g : Nat} {ms : List Pr} (M : Mem w0 w L) (h : Has (Asr.mp strV g ms) L) : Fn Tryz.prog 81 [.map (some g)] w fun v w' => ∃ g', v = .map (some g') ∧ Mem w0 w' (Asr.mp strV g' ms :: L) := by
 refine Fn.enter Tryz.func81 rfl Tryz.ntmps81 rfl (W.sub [(0, _)] (.cons rfl .nil) (W.seq (W.region (WL.assign rfl rfl (WL.nil (WX.next (W.sub [(0, _)] (.cons rfl .nil) (W.seq (W.seq (W.region (WL.move rfl rfl (WL.eqlMapN Tryz.underlying79 rfl rfl rfl (WL.nil (WX.next (W.sub [(0, _), (4, _)] (.cons rfl (.cons rfl .nil)) (W.condF rfl (W.skip (WX.next (W.seq (W.region (WL.move rfl rfl (WL.mkIface Tryz.underlying79 rfl rfl ?_))))))))))))))))))))))
 obtain ⟨g', w', hr, M'⟩ := M.cloned (P := Tryz.prog) h 79
 refine WL.callXW (w' := w') Tryz.func118 (by kernel_rfl) rfl (by kernel_rfl) (by kernel_rfl) rfl hr rfl ?_
 refine WL.assertMap Tryz.underlying79 rfl rfl (WL.assign rfl rfl (WL.nil (WX.next (W.sub [(2, _)] (.cons rfl .nil) (W.ret (WX.ret1 rfl rfl ?_))))))
 exact ⟨g', rfl, M'⟩
variable {α : Type} {gf : FuncId} {lb : List Value} {LI : List Asr} {G : List (List UInt8) → List UInt8 → Prop} {S : List (List UInt8) → Prop}
theorem collect_ok (hit : IterM Tryz.prog gf lb (fun k : List UInt8 => [str k]) LI G S) (eg : ∀ args w, (callFunc gf args).run Tryz.prog w = .ok (.enter gf args) w) (hG : ∀ pre x, G pre x → pre.length + 1 ≤ 100000) (M : Mem w0 w (LI ++ L')) :
 Fn Tryz.prog 119 [.func (.func gf) #[] lb.toArray] w fun v w' => ∃ xs A c, S xs ∧ v = .slice A xs.length c ∧ Mem w0 w' (Asr.lst txE A c xs :: (LI ++ L')) := by
 refine Fn.enter Tryz.func119 rfl Tryz.ntmps119 rfl (W.sub [(0, _)] (.cons rfl .nil) (W.seq (W.region (WL.assign rfl rfl (WL.nil (WX.next (W.sub [(0, _)] (.cons rfl .nil) (W.seq (W.region (WL.move rfl rfl (WL.call Tryz.call132 rfl (appendSeq_ok hit eg hG w0 _ M) rfl ?_)))))))))))
 rintro _ w ⟨xs, A, c, hS, rfl, M⟩
 refine WL.assign rfl rfl (WL.nil (WX.next (W.sub [(2, _)] (.cons rfl .nil) (W.ret (WX.ret1 rfl rfl ?_)))))
 exact ⟨xs, A, c, hS, rfl, M⟩
theorem sorted_ok (hit : IterM Tryz.prog gf lb (fun k : List UInt8 => [str k]) LI G S) (eg : ∀ args w, (callFunc gf args).run Tryz.prog w = .ok (.enter gf args) w) (hG : ∀ pre x, G pre x → pre.length + 1 ≤ 100000) (hS : ∀ xs, S xs → xs.length ≤ 12 ∧ xs.Nodup) (M : Mem w0 w (LI ++ L')) :
 Fn Tryz.prog 82 [.func (.func gf) #[] lb.toArray] w fun v w' => ∃ xs ys A c, S xs ∧ ys.Perm xs ∧ ys.Pairwise (· < ·) ∧ v = .slice A ys.length c ∧ Mem w0 w' (Asr.lst txE A c ys :: (LI ++ L')) := by
 refine Fn.enter Tryz.func82 rfl Tryz.ntmps82 rfl (W.sub [(0, _)] (.cons rfl .nil) (W.seq (W.region (WL.assign rfl rfl (WL.nil (WX.next (W.sub [(0, _)] (.cons rfl .nil) (W.seq (W.region (WL.move rfl rfl (WL.call Tryz.call119 rfl (collect_ok w0 _ _ hit eg hG M) rfl ?_)))))))))))
 rintro _ w ⟨xs, A, c, hSx, rfl, M⟩
 refine WL.assign rfl rfl (WL.nil (WX.next (W.sub [(3, _)] (.cons rfl .nil) (W.seq (W.region (WL.move rfl rfl (WL.call Tryz.call105 rfl (sortS_ok (hS xs hSx).1 (hS xs hSx).2 w0 _ _ _ M Del.a) rfl ?_)))))))
 rintro _ w ⟨ys, h1, h2, h3, M⟩
 rw [← h1]
 refine WL.nil (WX.next (W.sub [(3, _)] (.cons rfl .nil) (W.seq (W.region (WL.move rfl rfl (WL.assign rfl rfl (WL.nil (WX.next (W.sub [(2, _)] (.cons rfl .nil) (W.ret (WX.ret1 rfl rfl ?_)))))))))))
 exact ⟨xs, ys, A, c, hSx, h2, h3, rfl, M⟩
end
section
variable (w0 w : World) (L L' : List Asr)
theorem stReady_ok {g : Nat} {x y : Value} {dead : Bool} (M : Mem w0 w L) (h : Has (Asr.row g 81 [x, y, .bool dead]) L) : Fn Tryz.prog 70 [.pointer (some ⟨g, 0, none⟩)] w fun v w' => v = .int .i64 (if dead then 6 else 0 : Int) ∧ w' = w := by
 refine Fn.enter Tryz.func70 rfl Tryz.ntmps70 rfl (W.sub [(0, _)] (.cons rfl .nil) (W.seq (W.region (WL.assign rfl rfl (WL.nil (WX.next (W.sub [(0, _)] (.cons rfl .nil) (W.seq (W.block (W.seq (W.region (WL.move rfl rfl (WL.eqNilF Tryz.underlying35 rfl rfl rfl (WL.assign rfl rfl (WL.nil (WX.next (W.sub [(0, _), (3, _)] (.cons rfl (.cons rfl .nil)) (W.condF rfl (W.seq (W.region (WL.move rfl rfl (WL.nilCheck rfl rfl (WL.fieldR (off := 2) Tryz.underlying81 rfl rfl Tryz.sizeOf4 rfl rfl rfl ?_)))))))))))))))))))))))
 refine WL.load Tryz.isAgg4 rfl (M.cellH h 2) rfl (WL.assign rfl rfl (WL.nil (WX.next (W.sub [(6, _)] (.cons rfl .nil) (W.cond rfl (fun c1 => ?_) (fun c1 => ?_))))))
 ·(try simp only [Bool.not_eq_true'] at c1); (try simp only [Bool.not_eq_false'] at c1); (try simp only [decide_eq_true_eq] at c1); (try simp only [decide_eq_false_iff_not] at c1)
  refine W.seq (W.region (WL.assign rfl rfl (WL.nil (WX.next (W.sub [(2, _)] (.cons rfl .nil) (W.ret (WX.blockRet (WX.thenRet (WX.ret1 rfl rfl ?_)))))))))
  exact ⟨by rw [show dead = true by simpa using c1]; rfl, rfl⟩
 ·(try simp only [Bool.not_eq_true'] at c1); (try simp only [Bool.not_eq_false'] at c1); (try simp only [decide_eq_true_eq] at c1); (try simp only [decide_eq_false_iff_not] at c1)
  refine W.skip (WX.blockNormal (WX.next (W.seq (W.region (WL.assign rfl rfl (WL.nil (WX.next (W.sub [(2, _)] (.cons rfl .nil) (W.ret (WX.ret1 rfl rfl ?_))))))))))
  exact ⟨by rw [show dead = false by simpa using c1]; rfl, rfl⟩
set_option maxRecDepth 10000 in
theorem stAll_ok {g gm : Nat} {x : Value} {ms : List Pr} (hml : ms.length ≤ 12) (M : Mem w0 w L) (h : Has (Asr.row g 81 [x, .map (some gm), .bool false]) L) (hm : Has (Asr.mp strV gm ms) L) :
 Fn Tryz.prog 41 [.pointer (some ⟨g, 0, none⟩)] w fun v w' => ∃ gk gb gc A c ys, v = .func (.func 84) #[] #[.pointer (some ⟨gk, 0, none⟩), .pointer (some ⟨gb, 0, none⟩)] ∧ ys.Perm (ms.map (·.1)) ∧ ys.Pairwise (· < ·) ∧
  Mem w0 w' (Asr.row gk 71 [.slice A ys.length c] :: Asr.lst txE A c ys :: Asr.row gb 79 [.map (some gc)] :: Asr.mp strV gc ms :: L) := by
 refine Fn.enter Tryz.func41 rfl Tryz.ntmps41 rfl (W.sub [(0, _)] (.cons rfl .nil) (W.seq (W.region (WL.assign rfl rfl (WL.nil (WX.next (W.sub [(0, _)] (.cons rfl .nil) (W.seq (W.seq (W.region (WL.move rfl rfl (WL.call Tryz.call70 rfl (stReady_ok w0 _ _ M h) rfl ?_))))))))))))
 rintro _ _ ⟨rfl, hw⟩
 rw [hw]; clear hw
 refine WL.neI rfl rfl rfl (WL.nil (WX.next (W.sub [(0, _), (7, _)] (.cons rfl (.cons rfl .nil)) (W.ite rfl (fun c0 => ?_) (fun c0 => ?_)))))
 ·exact absurd c0 (by simp)
 ·refine W.skip (WX.next (W.seq (W.region (WL.move rfl rfl (WL.nilCheck rfl rfl (WL.fieldR (off := 1) Tryz.underlying81 rfl rfl Tryz.sizeOf79 rfl rfl rfl ?_))))))
  refine WL.load Tryz.isAgg79 rfl (M.cellH h 1) rfl (WL.call Tryz.call81 rfl (mapsClone_ok w0 _ _ M hm) rfl ?_)
  rintro _ w ⟨gc, rfl, M⟩
  refine WL.alloc Tryz.zeroValue79 M rfl ?_
  intro g3_5 w M
  try simp only [Value.cells] at M
  try simp only [List.toList_toArray] at M
  refine WL.storeR Tryz.sizeOf79 rfl rfl rfl M Has.a (by repeat (first | exact SetAt.zero | apply SetAt.succ)) Upd.a ?_
  intro w M
  refine WL.nil (WX.next (W.sub [(3, _)] (.cons rfl .nil) (W.seq (W.region (WL.loadR Tryz.isAgg79 rfl M Has.a rfl rfl (WL.call Tryz.call83 rfl (mapsKeys_ok gc _) rfl ?_))))))
  rintro _ w ⟨gb2, rfl, m⟩
  replace M := M.callN m; clear m
  have hnd := M.mapNodup (E := strV) (g := gc) (ms := ms) Has.a
  have M2 : Mem w0 w ([Asr.row gb2 79 [.map (some gc)], Asr.mp strV gc ms] ++ (Asr.row g3_5 79 [.map (some gc)] :: L)) := M.sel (K := Asr.row gb2 79 [.map (some gc)] :: Asr.mp strV gc ms :: Asr.row g3_5 79 [.map (some gc)] :: L) Sel.a
  refine WL.call Tryz.call82 rfl (sorted_ok w0 _ _ (keys_iter gb2 gc ms) Keys1_call (fun pre x h => by omega) (fun xs hx => ⟨by rw [hx.length_eq, List.length_map]; exact hml, hx.nodup_iff.2 hnd⟩) M2) rfl ?_
  rintro _ w ⟨xs, ys, A, c, hS, h2, h3, rfl, M3⟩
  replace M : Mem w0 w (Asr.lst txE A c ys :: Asr.row gb2 79 [.map (some gc)] :: Asr.mp strV gc ms :: Asr.row g3_5 79 [.map (some gc)] :: L) := M3
  refine WL.alloc Tryz.zeroValue71 M rfl ?_
  intro g4_3 w M
  try simp only [Value.cells] at M
  try simp only [List.toList_toArray] at M
  refine WL.storeR Tryz.sizeOf71 rfl rfl rfl M Has.a (by repeat (first | exact SetAt.zero | apply SetAt.succ)) Upd.a ?_
  intro w M
  refine WL.nil (WX.next (W.sub [(3, _), (4, _)] (.cons rfl (.cons rfl .nil)) (W.seq (W.region (WL.mkFn rfl rfl (WL.assign rfl rfl (WL.nil (WX.next (W.sub [(2, _)] (.cons rfl .nil) (W.ret (WX.ret1 rfl rfl ?_)))))))))))
  exact ⟨g4_3, g3_5, gc, A, c, ys, rfl, h2.trans hS, h3, M.sel Sel.a⟩
end
theorem All2_call : ∀ (args : Array Value) (w : World), (callFunc 84 args).run Tryz.prog w = .ok (.enter 84 args) w := Tryz.call84
set_option maxRecDepth 10000 in
theorem all_iter (gk gb gc : Nat) (A : Option Addr) (c : Nat) (ms l : List Pr) (hl : l.length ≤ 100000) (hp : ms.Perm l) (hs : SP l) (ks : List (List UInt8)) (hks : ks = l.map (·.1)) :
 IterM Tryz.prog 84 [.pointer (some ⟨gk, 0, none⟩), .pointer (some ⟨gb, 0, none⟩)] (fun p : Pr => [str p.1, str p.2]) [Asr.row gk 71 [.slice A ks.length c], Asr.lst txE A c ks, Asr.row gb 79 [.map (some gc)], Asr.mp strV gc ms] (fun pre x => pre.length < l.length ∧ x ∈ l) (fun xs => xs = l) := by
 intro σ w0 w l0 JL F z0 hF M hstep
 have hkl : ks.length = l.length := by rw [hks, List.length_map]
 replace M : Mem w0 w (Asr.row gk 71 [.slice A ks.length c] :: Asr.lst txE A c ks :: Asr.row gb 79 [.map (some gc)] :: Asr.mp strV gc ms :: JL z0) := M
 have hnd : (ms.map (·.1)).Nodup := (hp.map _).nodup_iff.2 hs.keys
 refine Fn.enter Tryz.func84 rfl Tryz.ntmps84 rfl (W.sub [(0, _), (1, _), (2, _)] (.cons rfl (.cons rfl (.cons rfl .nil))) (W.seq (W.region (WL.loadR Tryz.isAgg71 rfl M Has.a rfl rfl (WL.len Tryz.underlying71 rfl rfl (WL.move rfl rfl (WL.nil (WX.next (W.sub [(0, _), (2, _), (6, _), (7, _), (8, _)] (.cons rfl (.cons rfl (.cons rfl (.cons rfl (.cons rfl .nil))))) (W.block (W.loop (ι := Nat × σ) (fun z => [(0, .func (.yield l0) #[] #[]), (2, .pointer (some ⟨gb, 0, none⟩)), (6, .slice A ks.length c), (7, .int .i64 (ks.length : Int)), (8, .int .i64 (z.1 : Int))]) (fun zz w => Mem w0 w ((fun z => Asr.row gk 71 [.slice A ks.length c] :: Asr.lst txE A c ks :: Asr.row gb 79 [.map (some gc)] :: Asr.mp strV gc ms :: JL z.2) zz) ∧ (fun z => z.1 ≤ l.length ∧ F (l.take z.1) z.2) zz) (fun z => l.length - z.1) ((0, z0)) envSub.sf ⟨M.sel Sel.a, ⟨Nat.zero_le _, hF⟩⟩ ?_)))))))))))
 clear M; rintro (⟨i, z⟩) w ⟨M, ⟨hi, hFz⟩⟩; dsimp only at M hi hFz ⊢
 refine W.sub [(0, _), (2, _), (6, _), (7, _), (8, _)] (.cons rfl (.cons rfl (.cons rfl (.cons rfl (.cons rfl .nil))))) (W.seq (W.region (WL.lss rfl rfl rfl (WL.nil (WX.next (W.sub [(0, _), (2, _), (6, _), (7, _), (8, _), (9, _)] (.cons rfl (.cons rfl (.cons rfl (.cons rfl (.cons rfl (.cons rfl .nil)))))) (W.seq (W.ite rfl (fun c0 => ?_) (fun c0 => ?_)))))))))
 ·have hil : i < l.length := by omega
  have hel : el ks i = (el l i).1 := by rw [hks]; simp [el, hil]
  have hget : mget ms (el ks i) = some (el l i).2 := mget_of_mem hnd (hp.mem_iff.2 (by rw [hel]; exact el_mem hil))
  have htl : (l.take i).length = i := by rw [List.length_take]; omega
  have htk : l.take (i + 1) = l.take i ++ [el l i] := by
   rw [List.take_succ_eq_append_getElem hil]
   congr 2
   simp [el, hil]
  refine W.skip (WX.next (W.seq (W.block (W.seq (W.region (WL.idxA Tryz.underlying71 Tryz.sizeOf9 rfl rfl (RdL.isSome (E := txE) (by first | with_reducible assumption | with_reducible exact RdL.mem (by with_reducible assumption) M | exact M.rdL Has.a | exact RdLH.at (by assumption) (M.sel Sel.a) | exact RdL.nil _ _ _) (by omega)) (by omega) (by omega) (by first | exact rfl | exact (Int.toNat_of_nonneg (by omega)).symm) rfl ?_))))))
  refine WL.loadE0 (E := txE) Tryz.isAgg9 rfl (by first | with_reducible assumption | with_reducible exact RdL.mem (by with_reducible assumption) M | exact M.rdL Has.a | exact RdLH.at (by assumption) (M.sel Sel.a) | exact RdL.nil _ _ _) (by omega) rfl rfl ?_
  refine WL.assign rfl rfl (WL.nil (WX.next (W.sub [(0, _), (2, _), (5, _), (6, _), (7, _), (8, _)] (.cons rfl (.cons rfl (.cons rfl (.cons rfl (.cons rfl (.cons rfl .nil)))))) (W.seq (W.regionY (WL.move rfl rfl (WL.move rfl rfl (WL.loadR Tryz.isAgg79 rfl M Has.a rfl rfl (WL.move rfl rfl (WL.lookupV (E := strV) (g := gc) (ms := ms) (k := el ks i) Tryz.underlying79 Tryz.underlying9 Tryz.zeroValue140 rfl rfl M Has.a rfl ?_))))))))))
  rw [hget]
  dsimp only [Option.elim]
  refine WL.fieldV Tryz.underlying140 rfl rfl (fun w => by rfl) rfl ?_
  refine WL.yield (args := [str (el ks i), str (el l i).2]) rfl rfl (by have h9 := hstep [Asr.row gk 71 [.slice A ks.length c], Asr.lst txE A c ks, Asr.row gb 79 [.map (some gc)], Asr.mp strV gc ms] (l.take i) (el l i) z _ ⟨by rw [htl]; exact hil, el_mem hil⟩ hFz (M.perm (List.perm_append_comm (l₁ := [Asr.row gk 71 [.slice A ks.length c], Asr.lst txE A c ks, Asr.row gb 79 [.map (some gc)], Asr.mp strV gc ms]))); rw [hel]; exact h9) rfl ?_
  rintro w ⟨z', hF', M9⟩
  replace M : Mem w0 w (Asr.row gk 71 [.slice A ks.length c] :: Asr.lst txE A c ks :: Asr.row gb 79 [.map (some gc)] :: Asr.mp strV gc ms :: JL z') := M9.perm (List.perm_append_comm (l₂ := [Asr.row gk 71 [.slice A ks.length c], Asr.lst txE A c ks, Asr.row gb 79 [.map (some gc)], Asr.mp strV gc ms]))
  refine WL.not rfl rfl (WLI.nil (WX.next (W.sub [(0, _), (2, _), (6, _), (7, _), (8, _), (19, _)] (.cons rfl (.cons rfl (.cons rfl (.cons rfl (.cons rfl (.cons rfl .nil)))))) (W.condF rfl (W.skip (WX.blockNormal (WX.next (W.region (WL.add rfl rfl (by first | exact wI64 (by omega) | rfl) rfl ?_)))))))))
  refine WL.move rfl rfl (WL.nil ?_)
  skip
  rw [← htk] at hF'
  refine WX.round ((i + 1, z')) envSub.sf ⟨M.sel Sel.a, ⟨by dsimp only; omega, hF'⟩⟩ (by first | omega | (dsimp only; omega))
 ·obtain rfl : i = l.length := by omega
  rw [List.take_length] at hFz
  refine W.exit (WX.thenExit (WX.thenExit (WX.blockHere (WX.end0 rfl ?_))))
  exact ⟨l, z, rfl, hFz, (show Mem w0 _ (Asr.row gk 71 [.slice A ks.length c] :: Asr.lst txE A c ks :: Asr.row gb 79 [.map (some gc)] :: Asr.mp strV gc ms :: JL z) from M.sel Sel.a)⟩
section
variable (w0 w : World) (L L' : List Asr)
set_option maxRecDepth 10000 in
theorem mSorted_ok {g : Nat} {ms : List Pr} (hml : ms.length ≤ 12) (M : Mem w0 w L) (hd : Del (Asr.mp strV g ms) L L') : Fn Tryz.prog 69 [.map (some g)] w fun v w' => ∃ A c ys, v = .slice A ys.length c ∧ ys.Perm (ms.map (·.1)) ∧ ys.Pairwise (· < ·) ∧ Mem w0 w' (Asr.lst txE A c ys :: Asr.mp strV g ms :: L') := by
 have M1 := M.del hd
 clear M
 have M := M1
 have hnd := M.mapNodup (E := strV) (g := g) (ms := ms) .here
 refine Fn.enter Tryz.func69 rfl Tryz.ntmps69 rfl (W.sub [(0, _)] (.cons rfl .nil) (W.seq (W.region (WL.assign rfl rfl (WL.nil (WX.next (W.sub [(0, _)] (.cons rfl .nil) (W.seq (W.region (WL.assign rfl rfl (WL.nil (WX.next (W.sub [(0, _), (3, _)] (.cons rfl (.cons rfl .nil)) (W.seq (W.seq (W.region (WL.move rfl rfl (WL.range Tryz.underlying95 rfl M Del.a rfl ?_))))))))))))))))))
 intro gi w M
 refine WL.nil (WX.next (W.sub [(3, _), (6, _)] (.cons rfl (.cons rfl .nil)) (W.block (W.loop (ι := List Nat × Option Addr × Nat) (fun z => [(3, .slice z.2.1 (keysI ms z.1).length z.2.2), (6, .pointer (some ⟨gi, 0, none⟩))]) (fun zz w => Mem w0 w ((fun z => Asr.mpW strV g gi ms z.1 :: Asr.lst txE z.2.1 z.2.2 (keysI ms z.1) :: L') zz) ∧ (fun z => z.1.length ≤ ms.length) zz) (fun z => ms.length - z.1.length) (([], none, 0)) envSub.sf ⟨((M.nilOwn 9 1).sel Sel.a), Nat.zero_le _⟩ ?_))))
 clear M; rintro (⟨idx, Ab, cb⟩) w ⟨M, hil⟩; dsimp only at M hil ⊢
 refine W.sub [(3, _), (6, _)] (.cons rfl (.cons rfl .nil)) (W.seq (W.region (WL.next rfl M Del.a rfl ?_)))
 intro b9 r9 idx9 w hb0 hb1 hl9 M
 refine WL.extractL rfl rfl rfl (WL.nil (WX.next (W.sub [(3, _), (6, _), (8, _)] (.cons rfl (.cons rfl (.cons rfl .nil))) (W.seq (W.cond rfl (fun c0 => ?_) (fun c0 => ?_))))))
 ·(try simp only [Bool.not_eq_true'] at c0); (try simp only [Bool.not_eq_false'] at c0); (try simp only [decide_eq_true_eq] at c0); (try simp only [decide_eq_false_iff_not] at c0)
  obtain ⟨j, hj, hjn, rfl⟩ := hb1 c0
  rw [List.length_append] at hl9
  have hkl : (keysI ms idx).length = idx.length := by unfold keysI; rw [List.length_map]
  have hkn : keysI ms (idx ++ [j]) = keysI ms idx ++ [(el ms j).1] := by unfold keysI; simp
  refine W.skip (WX.next (W.block (W.seq (W.region (WL.entry (j := j) (p := el ms j) (el_some hj) rfl M Has.a rfl ?_)))))
  refine WL.extractL rfl rfl rfl (WL.assign rfl rfl (WL.nil (WX.next (W.sub [(3, _), (4, _), (6, _)] (.cons rfl (.cons rfl (.cons rfl .nil))) (W.region (WL.move rfl rfl (WL.move rfl rfl (WL.buildL (E := txE) (l := [(el ms j).1]) Tryz.elem9 M rfl rfl rfl rfl rfl rfl ?_))))))))
  intro g5_2 w M
  refine WL.appendL (E := txE) Tryz.elem9 rfl rfl M Del.a (by first | with_reducible assumption | with_reducible exact RdL.mem (by with_reducible assumption) M | exact M.rdL Has.a | exact RdLH.at (by assumption) (M.sel Sel.a) | exact RdL.nil _ _ _) rfl rfl (by first | omega | (simp; done) | (simp; omega)) (by first | (simp only [maxLen]; omega) | (simp [maxLen]; done) | (simp [maxLen]; omega)) rfl ?_
  intro A5_3 cap5_3 w M
  refine WL.assign rfl rfl (WL.nil (WX.blockNormal ?_))
  skip
  rw [← hkn] at M ⊢
  refine WX.round ((idx ++ [j], A5_3, cap5_3)) envSub.sf ⟨M.sel Sel.a, (by dsimp only; rw [List.length_append]; simpa using hl9)⟩ (by dsimp only; rw [List.length_append]; simp at hl9 ⊢; omega)
 ·(try simp only [Bool.not_eq_true'] at c0); (try simp only [Bool.not_eq_false'] at c0); (try simp only [decide_eq_true_eq] at c0); (try simp only [decide_eq_false_iff_not] at c0)
  obtain ⟨e9, hperm⟩ := hb0 c0
  rw [e9] at M
  have hpk := keysI_all hperm
  have M8 := M.mapOut
  replace M := M8
  refine W.exit (WX.thenExit (WX.thenExit (WX.blockHere (WX.next (W.seq (W.region (WL.move rfl rfl ?_)))))))
  refine WL.call Tryz.call105 rfl (sortS_ok (by rw [hpk.length_eq, List.length_map]; exact hml) (hpk.nodup_iff.2 hnd) w0 _ _ _ M Del.a) rfl ?_
  rintro _ w ⟨ys, h1, h2, h3, M⟩
  rw [← h1]
  refine WL.nil (WX.next (W.sub [(3, _)] (.cons rfl .nil) (W.seq (W.region (WL.move rfl rfl (WL.assign rfl rfl (WL.nil (WX.next (W.sub [(2, _)] (.cons rfl .nil) (W.ret (WX.ret1 rfl rfl ?_)))))))))))
  exact ⟨Ab, cb, ys, rfl, h2.trans hpk, h3, M.sel Sel.a⟩
end
end Go.Proofs.YtlminileigfkcaaGreat
namespace Go.Proofs.YtlminileigfkcaaGreat
open Go Go.RowKit Go.Lib Bin
def keys6 : List (List UInt8) := [[107, 48], [107, 49], [107, 50], [107, 51], [107, 52], [107, 53]]
/-- A change of one of six keys. -/
def Cg.tame (c : Cg) : Prop := c.key ∈ keys6 ∧ c.value.length ≤ 20 ∧ (c.gone = true → c.value = [])
def It.ok (i : It) : Prop := (i.mark = true → i.c = ⟨[], [], false⟩) ∧ (i.mark = false → i.c.tame)
structure ItsOk (l : List It) : Prop where
 few : l.length ≤ 200
 each : ∀ i, i < l.length → (el l i).seq = i + 1 ∧ (el l i).ok
theorem keys6_len {k : List UInt8} (h : k ∈ keys6) : k.length = 2 := by
 unfold keys6 at h
 simp at h
 rcases h with rfl | rfl | rfl | rfl | rfl | rfl <;> rfl
theorem Cg.tame.right {c : Cg} (h : c.tame) : c.right := by
 have := keys6_len h.1
 exact ⟨by omega, by omega, by have := h.2.1; omega, fun hh => hh.2 (h.2.2 hh.1)⟩
theorem nodup_sub {α : Type} [DecidableEq α] : ∀ (l m : List α), l.Nodup → (∀ x ∈ l, x ∈ m) → l.length ≤ m.length
 | [], _, _, _ => Nat.zero_le _
 | x :: l, m, hn, h => by
   obtain ⟨h1, h2⟩ := List.nodup_cons.1 hn
   have hx := h x (List.mem_cons_self ..)
   have h3 := nodup_sub l (m.erase x) h2 (fun y hy => by
    have hne : y ≠ x := fun e => by rw [e] at hy; exact h1 hy
    exact (List.mem_erase_of_ne hne).2 (h y (List.mem_cons_of_mem _ hy)))
   rw [List.length_erase_of_mem hx] at h3
   have := List.length_pos_of_mem hx
   rw [List.length_cons]
   omega
def it0 : It := ⟨0, false, ⟨[], [], false⟩⟩
def itV (i : It) : Value := .agg [.int .u64 (i.seq : Int), .bool i.mark, str i.c.key, str i.c.value, .bool i.c.gone].toArray
def heldM : MapE Nat It := u64M itV
abbrev kiRow (g cut gp gh : Nat) : Asr := Asr.row g 98 [.int .u64 (cut : Int), .map (some gp), .map (some gh)]
structure KiX where
 g : Nat
 gp : Nat
 gh : Nat
 cut : Nat
 ps : List Pr
 hs : List (Nat × It)
def KiX.O (x : KiX) : Asr := Asr.star [kiRow x.g x.cut x.gp x.gh, Asr.mp strV x.gp x.ps, Asr.mp heldM x.gh x.hs]
structure KiX.ok (its : List It) (x : KiX) : Prop where
 cut : x.cut ≤ its.length
 held : ∀ p ∈ x.hs, 1 ≤ p.1 ∧ p.1 ≤ its.length ∧ p.2 = el its (p.1 - 1)
 pairs : ∀ p ∈ x.ps, p.1 ∈ keys6 ∧ p.2.length ≤ 20
section
variable {P : Program} {n : Nat} {ρ : List (Nat × Value)} {w0 w : World} {rest : List Oper} {L L' : List Asr} {X : SqV P n}
variable {d : Nat} {ty : TypeId} {pos : String} {aft : Array Edge} {x y z : Operand} {t kt et : TypeId}
theorem elim_it (o : Option It) : o.elim (itV it0) heldM.f = itV (o.getD it0) := by cases o <;> rfl
theorem WL.lookupIt {g k : Nat} {ms : List (Nat × It)} (ht : P.underlying t = some (.map kt et)) (hkt : P.underlying kt = some (.int .u64)) (hz : ∀ w, (zeroValue et).run P w = .ok (itV it0) w) (hx : ev ρ x = some (.map (some g))) (hy : ev ρ y = some (.int .u64 (k : Int)))
 (M : Mem w0 w L) (h : Has (Asr.mp heldM g ms) L) (hd : Nat.blt d n = true)
 (kk : X.S rest ((d, .tuple [itV ((mget ms k).getD it0), .bool (mget ms k).isSome].toArray) :: ρ) w) : X.S (⟨some d, .lookup t x y true, ty, pos, aft, none⟩ :: rest) ρ w :=
 WL.lookup (E := heldM) (k := k) (zv := itV it0) ht hkt hz hx hy M h hd (by rw [elim_it]; exact kk)
theorem WL.lookupItV {g k : Nat} {ms : List (Nat × It)} (ht : P.underlying t = some (.map kt et)) (hkt : P.underlying kt = some (.int .u64)) (hz : ∀ w, (zeroValue et).run P w = .ok (itV it0) w) (hx : ev ρ x = some (.map (some g))) (hy : ev ρ y = some (.int .u64 (k : Int)))
 (M : Mem w0 w L) (h : Has (Asr.mp heldM g ms) L) (hd : Nat.blt d n = true)
 (kk : X.S rest ((d, itV ((mget ms k).getD it0)) :: ρ) w) : X.S (⟨some d, .lookup t x y false, ty, pos, aft, none⟩ :: rest) ρ w :=
 WL.lookupV (E := heldM) (k := k) (zv := itV it0) ht hkt hz hx hy M h hd (by rw [elim_it]; exact kk)
end
theorem eqStrD (w : World) (d : Nat) (a b : List UInt8) : (Op.equalIn (d + 1) 9 (str a) (str b)).run Tryz.prog w = .ok (decide (a = b)) w := by
 unfold str
 have := run_equalIn_string (P := Tryz.prog) w d 9 (ByteArray.mk a.toArray) (ByteArray.mk b.toArray) Tryz.underlying9
 rw [this, ByteArray.toList_mk, ByteArray.toList_mk]
 have e : (a == b) = decide (a = b) := by
  by_cases h : a = b
  ·rw [decide_eq_true h, h]
   exact beq_self_eq_true b
  ·rw [decide_eq_false h]
   exact beq_eq_false_iff_ne.2 h
 exact congrArg (fun z => Result.ok z w) e
theorem sameCg (w : World) (d : Nat) (a : Cg) : (Op.equalIn (d + 2) 63 (.agg #[str a.key, str a.value, .bool a.gone]) (.agg #[str a.key, str a.value, .bool a.gone])).run Tryz.prog w = .ok true w := by
 have h1 : Tryz.prog.underlying 63 = some (.struct (Tryz.prog.fieldsOf 63)) := by kernel_rfl
 have h2 : Tryz.prog.stoodInHeld 63 = false := by kernel_rfl
 rw [run_equalIn_agg w (d + 1) _ _ _ h1 h2]
 unfold Program.fieldsOf
 rw [Tryz.underlying63]
 have z1 : ∀ w, (isAgg 9).run Tryz.prog w = .ok false w := Tryz.isAgg9
 have z2 : ∀ w, (isAgg 4).run Tryz.prog w = .ok false w := Tryz.isAgg4
 have q3 : ∀ (w : World) (a b : Bool), (Op.equalIn (d + 1) 4 (.bool a) (.bool b)).run Tryz.prog w = .ok (a == b) w := fun w a b => run_equalIn_bool w d _ _ _ Tryz.underlying4
 simp [Op.eqFields, part, eqStrD, z1, z2, q3]
theorem WL.eqCgSame {n : Nat} {ρ : List (Nat × Value)} {w : World} {rest : List Oper} {X : SqV Tryz.prog n} {d : Nat} {ty : TypeId} {pos : String} {aft : Array Edge} {x y : Operand} {t' : TypeId} (a : Cg)
 (hx : ev ρ x = some (.agg #[str a.key, str a.value, .bool a.gone])) (hy : ev ρ y = some (.agg #[str a.key, str a.value, .bool a.gone])) (hd : Nat.blt d n = true) (kk : X.S rest ((d, .bool true) :: ρ) w) : X.S (⟨some d, .binOp .eql 63 x y t', ty, pos, aft, none⟩ :: rest) ρ w := by
 refine WL.val rfl rfl hd (fun f hf => ?_) kk
 have hg := run_eqGuard_agg (P := Tryz.prog) w .eql 63 x y #[str a.key, str a.value, .bool a.gone] #[str a.key, str a.value, .bool a.gone] (by kernel_rfl)
 have he := sameCg w 9998 a
 have hb := run_eql_struct (P := Tryz.prog) w 63 #[str a.key, str a.value, .bool a.gone] #[str a.key, str a.value, .bool a.gone]
 rw [he] at hb
 simp [execOp, hf.eval hx, hf.eval hy, hg, hb]
theorem eqItSame (w : World) (a : It) : (Op.equalIn 10000 101 (itV a) (itV a)).run Tryz.prog w = .ok true w := by
 have h1 : Tryz.prog.underlying 101 = some (.struct (Tryz.prog.fieldsOf 101)) := by kernel_rfl
 have h2 : Tryz.prog.stoodInHeld 101 = false := by kernel_rfl
 unfold itV
 rw [show (10000 : Nat) = 9999 + 1 from rfl, run_equalIn_agg w 9999 _ _ _ h1 h2]
 unfold Program.fieldsOf
 rw [Tryz.underlying101]
 have z1 : ∀ w, (isAgg 47).run Tryz.prog w = .ok false w := Tryz.isAgg47
 have z2 : ∀ w, (isAgg 4).run Tryz.prog w = .ok false w := Tryz.isAgg4
 have z3 : ∀ w, (isAgg 63).run Tryz.prog w = .ok true w := Tryz.isAgg63
 have z4 : ∀ w, (sizeOf 63).run Tryz.prog w = .ok 3 w := Tryz.sizeOf63
 have q1 : ∀ (w : World) (a b : Int), (Op.equalIn 9999 47 (.int .u64 a) (.int .u64 b)).run Tryz.prog w = .ok (a == b) w := fun w a b => run_equalIn_int w 9998 _ _ _ _ _ Tryz.underlying47
 have q3 : ∀ (w : World) (a b : Bool), (Op.equalIn 9999 4 (.bool a) (.bool b)).run Tryz.prog w = .ok (a == b) w := fun w a b => run_equalIn_bool w 9998 _ _ _ Tryz.underlying4
 have q4 := fun w => sameCg w 9997 a.c
 simp [Op.eqFields, part, q1, q3, q4, z1, z2, z3, z4]
end Go.Proofs.YtlminileigfkcaaGreat
namespace Go.Proofs.YtlminileigfkcaaGreat
open Go Go.RowKit Go.Lib Bin
theorem mput_mem {κ α : Type} [DecidableEq κ] {ms : List (κ × α)} {k : κ} {a : α} {p : κ × α} (h : p ∈ mput ms k a) : p ∈ ms ∨ p = (k, a) := by
 induction ms with
 | nil =>
   rw [mput_nil, List.mem_singleton] at h
   exact .inr h
 | cons q r ih =>
   obtain ⟨k', b⟩ := q
   rw [mput_cons] at h
   split at h
   ·rcases List.mem_cons.1 h with h | h
    ·exact .inr h
    ·exact .inl (List.mem_cons_of_mem _ h)
   ·rcases List.mem_cons.1 h with h | h
    ·exact .inl (by rw [h]; exact List.mem_cons_self ..)
    ·rcases ih h with h | h
     ·exact .inl (List.mem_cons_of_mem _ h)
     ·exact .inr h
theorem newSink_ok (its : List It) (w0 : World) : Fn Tryz.prog 9 [] w0 fun v w' => ∃ x : KiX, v = .pointer (some ⟨x.g, 0, none⟩) ∧ x.cut = 0 ∧ x.ok its ∧ Mem w0 w' [x.O] := by
 have M := Mem.refl w0
 obtain ⟨w, hw⟩ : ∃ w, w = w0 := ⟨w0, rfl⟩
 refine Fn.enter Tryz.func9 rfl Tryz.ntmps9 rfl (W.sub [] .nil (W.seq (W.region (WL.assign rfl rfl (WL.nil (WX.next (W.sub [] .nil (W.seq (W.region (WL.makeMap strV M rfl ?_))))))))))
 intro gp w M
 refine WL.makeMap heldM M rfl ?_
 intro gh w M
 refine WL.buildP (places := #[(0, 1), (1, 1), (2, 1)]) Tryz.underlying98 Tryz.zeroValue98 (fun _ => by simp [Tryz.sizeOf47, Tryz.sizeOf95, Tryz.sizeOf96]) rfl (by repeat (first | exact Puts.nil | exact SetAt.zero | apply SetAt.succ | apply Puts.cons rfl rfl)) rfl ?_
 refine WL.box rfl M rfl ?_
 intro g1_3 w M
 try simp only [Value.cells] at M
 try simp only [List.toList_toArray] at M
 refine WL.assign rfl rfl (WL.nil (WX.next (W.sub [(0, _)] (.cons rfl .nil) (W.ret (WX.ret1 rfl rfl ?_)))))
 have M4 : Mem w0 w [kiRow g1_3 0 gp gh, Asr.mp strV gp [], Asr.mp heldM gh []] := M.sel Sel.a
 exact ⟨⟨g1_3, gp, gh, 0, [], []⟩, rfl, rfl, ⟨Nat.zero_le _, fun p hp => (by cases hp), fun p hp => (by cases hp)⟩, Mem.star3 M4⟩
theorem rightI_ok (i : It) (hs : 1 ≤ i.seq) (h : i.ok) (w0 : World) : Fn Tryz.prog 66 [itV i] w0 fun v w' => v = .bool true ∧ Mem w0 w' [] := by
 have M := Mem.refl w0
 obtain ⟨w, hw⟩ : ∃ w, w = w0 := ⟨w0, rfl⟩
 refine Fn.enter Tryz.func66 rfl Tryz.ntmps66 rfl (W.sub [(0, _)] (.cons rfl .nil) (W.seq (W.region (WL.box rfl M rfl ?_))))
 intro g0_0 w M
 try simp only [Value.cells] at M
 try simp only [List.toList_toArray] at M
 refine WL.assign rfl rfl (WL.nil (WX.next (W.sub [(1, _)] (.cons rfl .nil) (W.seq (W.seq (W.region (WL.fieldR (off := 1) Tryz.underlying101 rfl rfl Tryz.sizeOf4 rfl rfl rfl ?_)))))))
 refine WL.loadR Tryz.isAgg4 rfl M Has.a rfl rfl (WL.nil (WX.next (W.sub [(1, _), (4, _)] (.cons rfl (.cons rfl .nil)) (W.cond rfl (fun c0 => ?_) (fun c0 => ?_)))))
 ·(try simp only [Bool.not_eq_true'] at c0); (try simp only [Bool.not_eq_false'] at c0); (try simp only [decide_eq_true_eq] at c0); (try simp only [decide_eq_false_iff_not] at c0)
  have hc := h.1 c0
  refine W.seq (W.region (WL.fieldR (off := 0) Tryz.underlying101 rfl rfl Tryz.sizeOf47 rfl rfl rfl ?_))
  refine WL.loadR Tryz.isAgg47 rfl M Has.a rfl rfl (WL.gtr rfl rfl rfl (WL.moveIf rfl rfl (fun c1 => ?_) (fun c1 => ?_)))
  ·refine WL.on rfl rfl (WL.fieldR (off := 2) Tryz.underlying101 rfl rfl Tryz.sizeOf63 rfl rfl rfl ?_)
   refine WL.on rfl rfl (WL.loadSub (ss := [_, _, _]) Tryz.isAgg63 Tryz.sizeOf63 rfl M Has.a rfl rfl rfl ?_)
   refine WL.on rfl rfl (WL.buildP (places := #[(0, 1), (1, 1), (2, 1)]) Tryz.underlying63 Tryz.zeroValue63 (fun _ => by simp [Tryz.sizeOf9, Tryz.sizeOf9, Tryz.sizeOf4]) rfl (by repeat (first | exact Puts.nil | exact SetAt.zero | apply SetAt.succ | apply Puts.cons rfl rfl)) rfl ?_)
   refine WL.on rfl rfl ?_
   refine WL.eqCgSame ⟨[], [], false⟩ (by rw [hc]; rfl) rfl rfl ?_
   refine WL.pickT rfl rfl rfl (WL.assign rfl rfl (WL.nil (WX.next (W.sub [(2, _)] (.cons rfl .nil) (W.ret (WX.thenRet (WX.ret1 rfl rfl ?_)))))))
   exact ⟨rfl, M.sel Sel.a⟩
  ·exact absurd (by omega) c1
 ·(try simp only [Bool.not_eq_true'] at c0); (try simp only [Bool.not_eq_false'] at c0); (try simp only [decide_eq_true_eq] at c0); (try simp only [decide_eq_false_iff_not] at c0)
  have hc := h.2 (by simpa using c0)
  refine W.skip (WX.next (W.seq (W.region (WL.fieldR (off := 0) Tryz.underlying101 rfl rfl Tryz.sizeOf47 rfl rfl rfl ?_))))
  refine WL.loadR Tryz.isAgg47 rfl M Has.a rfl rfl (WL.gtr rfl rfl rfl (WL.moveIf rfl rfl (fun c2 => ?_) (fun c2 => ?_)))
  ·refine WL.on rfl rfl (WL.fieldR (off := 2) Tryz.underlying101 rfl rfl Tryz.sizeOf63 rfl rfl rfl ?_)
   refine WL.on rfl rfl (WL.loadSub (ss := [_, _, _]) Tryz.isAgg63 Tryz.sizeOf63 rfl M Has.a rfl rfl rfl ?_)
   refine WL.on rfl rfl (WL.buildL (E := cgE) (l := [i.c]) Tryz.elem63 M rfl rfl rfl rfl rfl rfl ?_)
   intro g3_6 w M
   refine WL.on rfl rfl (WL.call Tryz.call42 rfl (stRight_ok (l := [i.c]) (M.rdL Has.a)) rfl ?_)
   rintro _ w ⟨rfl, m⟩
   replace M := M.call0 m; clear m
   rw [right_one hc.right]
   refine WL.on rfl rfl (WL.eqI rfl rfl rfl (WL.pickT rfl rfl rfl (WL.assign rfl rfl (WL.nil (WX.next (W.sub [(2, _)] (.cons rfl .nil) (W.ret (WX.ret1 rfl rfl ?_))))))))
   exact ⟨rfl, M.sel Sel.a⟩
  ·exact absurd (by omega) c2
section
variable (w0 w : World) (L L' : List Asr) {its : List It}
theorem kiCut_ok (x : KiX) (M : Mem w0 w L) (h : Has x.O L) : Fn Tryz.prog 31 [.pointer (some ⟨x.g, 0, none⟩)] w fun v w' => v = .int .u64 (x.cut : Int) ∧ w' = w := by
 have hcell : w.cell? ⟨x.g, 0, none⟩ = some (.int .u64 (x.cut : Int)) := by
  obtain ⟨L', hd⟩ := h.del
  exact ((M.del hd).unstar3).cellH .here 0
 refine Fn.enter Tryz.func31 rfl Tryz.ntmps31 rfl (W.sub [(0, _)] (.cons rfl .nil) (W.seq (W.region (WL.assign rfl rfl (WL.nil (WX.next (W.sub [(0, _)] (.cons rfl .nil) (W.seq (W.seq (W.region (WL.move rfl rfl (WL.eqNilF Tryz.underlying42 rfl rfl rfl (WL.nil (WX.next (W.sub [(0, _), (4, _)] (.cons rfl (.cons rfl .nil)) (W.condF rfl (W.skip (WX.next (W.seq (W.region (WL.move rfl rfl (WL.nilCheck rfl rfl (WL.fieldR (off := 0) Tryz.underlying98 rfl rfl Tryz.sizeOf47 rfl rfl rfl ?_)))))))))))))))))))))))
 refine WL.load Tryz.isAgg47 rfl hcell rfl (WL.assign rfl rfl (WL.nil (WX.next (W.sub [(2, _)] (.cons rfl .nil) (W.ret (WX.ret1 rfl rfl ?_))))))
 exact ⟨rfl, rfl⟩
set_option maxRecDepth 10000 in
theorem kiAdvance_ok (hits : ItsOk its) (g gp gh cut last : Nat) (ps : List Pr) (hs : List (Nat × It)) (hok : KiX.ok its ⟨g, gp, gh, cut, ps, hs⟩) (hl : last ≤ its.length) (hall : ∀ s, cut < s → s ≤ last → (mget hs s).isSome)
 (M : Mem w0 w (kiRow g cut gp gh :: Asr.mp strV gp ps :: Asr.mp heldM gh hs :: L)) : Fn Tryz.prog 67 [.pointer (some ⟨g, 0, none⟩), .int .u64 (last : Int)] w fun _ w' => ∃ x' : KiX, x'.g = g ∧ x'.ok its ∧ Mem w0 w' (x'.O :: L) := by
 have hfew := hits.few
 refine Fn.enter Tryz.func67 rfl Tryz.ntmps67 rfl (W.sub [(0, _), (1, _)] (.cons rfl (.cons rfl .nil)) (W.block (W.loop (ι := Nat × List Pr × List (Nat × It)) (fun z => [(0, .pointer (some ⟨g, 0, none⟩)), (1, .int .u64 (last : Int))]) (fun zz w => Mem w0 w ((fun z => kiRow g z.1 gp gh :: Asr.mp strV gp z.2.1 :: Asr.mp heldM gh z.2.2 :: L) zz) ∧ (fun z => KiX.ok its ⟨g, gp, gh, z.1, z.2.1, z.2.2⟩ ∧ ∀ s, z.1 < s → s ≤ last → (mget z.2.2 s).isSome) zz) (fun z => last - z.1) ((cut, ps, hs)) envSub.sf ⟨M.sel Sel.a, ⟨hok, hall⟩⟩ ?_)))
 clear M; rintro (⟨cu, pp, hh⟩) w ⟨M, ⟨hok2, hall2⟩⟩; dsimp only at M hok2 hall2 ⊢
 refine W.sub [(0, _), (1, _)] (.cons rfl (.cons rfl .nil)) (W.seq (W.seq (W.region (WL.move rfl rfl (WL.nilCheck rfl rfl (WL.fieldR (off := 0) Tryz.underlying98 rfl rfl Tryz.sizeOf47 rfl rfl rfl ?_))))))
 refine WL.loadR Tryz.isAgg47 rfl M Has.a rfl rfl (WL.move rfl rfl (WL.lss rfl rfl rfl (WL.nil (WX.next (W.sub [(0, _), (1, _), (10, _)] (.cons rfl (.cons rfl (.cons rfl .nil))) (W.ite rfl (fun c0 => ?_) (fun c0 => ?_)))))))
 ·have hcl : cu < last := by omega
  obtain ⟨i, hi⟩ := Option.isSome_iff_exists.1 (hall2 (cu + 1) (by omega) (by omega))
  have hnd := M.mapNodup (E := heldM) (g := gh) (ms := hh) Has.a
  obtain ⟨q1, q2, q3⟩ := hok2.held _ (mget_mem hi)
  dsimp only at q1 q2 q3
  have hie := (hits.each cu (by omega)).2
  rw [show cu = cu + 1 - 1 by omega, ← q3] at hie
  have hgd : (mget hh (cu + 1)).getD it0 = i := by rw [hi]; rfl
  have hok3 : ∀ p ∈ mdel hh (cu + 1), 1 ≤ p.1 ∧ p.1 ≤ its.length ∧ p.2 = el its (p.1 - 1) := fun p hp => hok2.held p ((mdel_sub hh (cu + 1)).subset hp)
  have hall3 : ∀ s, cu + 1 < s → s ≤ last → (mget (mdel hh (cu + 1)) s).isSome := fun s h1 h2 => by rw [mget_mdel hnd, if_neg (by omega)]; exact hall2 s (by omega) h2
  refine W.skip (WX.next (W.block (W.seq (W.region (WL.move rfl rfl (WL.nilCheck rfl rfl (WL.fieldR (off := 0) Tryz.underlying98 rfl rfl Tryz.sizeOf47 rfl rfl rfl ?_)))))))
  refine WL.loadR Tryz.isAgg47 rfl M Has.a rfl rfl (WL.add rfl rfl (by first | exact wU64 (by omega) | exact mU64 _ | rfl) rfl ?_)
  refine WL.nilCheck rfl rfl (WL.fieldR (off := 0) Tryz.underlying98 rfl rfl Tryz.sizeOf47 rfl rfl rfl ?_)
  refine WL.storeR Tryz.sizeOf47 rfl rfl rfl M Has.a (by repeat (first | exact SetAt.zero | apply SetAt.succ)) Upd.a ?_
  intro w M
  refine WL.nil (WX.next (W.sub [(0, _), (1, _)] (.cons rfl (.cons rfl .nil)) (W.seq (W.drawM ([kiRow g (cu + 1) gp gh, Asr.mp heldM gh hh]) (by kernel_rfl) (fun j => [3, 7, 9].contains j) M Sel.a ?_))))
  clear M; intro M
  apply DG.pure_ [0, 1, 2, 4, 5, 6] 5 rfl (by kernel_rfl) (by kernel_rfl)
  ·intro w
   refine WL.move rfl rfl (WL.nilCheck rfl rfl (WL.fieldR (off := 2) Tryz.underlying98 rfl rfl Tryz.sizeOf96 rfl rfl rfl ?_))
   refine WL.move rfl rfl (WL.nilCheck rfl rfl (WL.fieldR (off := 0) Tryz.underlying98 rfl rfl Tryz.sizeOf47 rfl rfl rfl ?_))
   exact Chain.end_ rfl
  apply DG.take [3, 7, 8] 2 rfl (by kernel_rfl) (by kernel_rfl) (M.sel Sel.a)
  ·intro w M
   refine WL.loadR Tryz.isAgg96 rfl M Has.a rfl rfl (WL.loadR Tryz.isAgg47 rfl M Has.a rfl rfl (WL.lookupItV (g := gh) (k := cu + 1) (ms := hh) Tryz.underlying96 Tryz.underlying47 Tryz.zeroValue101 rfl rfl M Has.a rfl ?_))
   rw [hgd]
   exact Chain.end_ rfl
  refine DG.step 9 1 rfl (by kernel_rfl) ?_
  refine WL.alloc Tryz.zeroValue101 M rfl ?_
  intro g2_9 w M
  try simp only [Value.cells] at M
  try simp only [List.toList_toArray] at M
  refine DG.go (G := fun j => [3, 7, 9].contains j) (i := 9) (f' := 1) (done := [0, 1, 2, 4, 5, 6, 3, 7, 8]) (fun _ => M.sel Sel.a) ?_
  refine DG.step 10 0 rfl (by kernel_rfl) ?_
  refine WL.storeWA Tryz.sizeOf101 rfl rfl (by repeat (first | exact oneNil | refine oneCons rfl ?_)) rfl rfl M Upd.a ?_
  intro w M
  refine DG.go (G := fun j => [3, 7, 9].contains j) (i := 10) (f' := 0) (done := [0, 1, 2, 4, 5, 6, 3, 7, 8, 9]) (fun h => by cases h) ?_
  refine DG.end_ (by kernel_rfl) ?_
  refine WX.next (W.sub [(0, _), (1, _), (4, _)] (.cons rfl (.cons rfl (.cons rfl .nil))) (W.seq (W.drawM ([kiRow g (cu + 1) gp gh, Asr.mp heldM gh hh]) (by kernel_rfl) (fun j => [3, 7].contains j) M Sel.a ?_)))
  clear M; intro M
  apply DG.pure_ [0, 1, 2, 4, 5, 6] 3 rfl (by kernel_rfl) (by kernel_rfl)
  ·intro w
   refine WL.move rfl rfl (WL.nilCheck rfl rfl (WL.fieldR (off := 2) Tryz.underlying98 rfl rfl Tryz.sizeOf96 rfl rfl rfl ?_))
   refine WL.move rfl rfl (WL.nilCheck rfl rfl (WL.fieldR (off := 0) Tryz.underlying98 rfl rfl Tryz.sizeOf47 rfl rfl rfl ?_))
   exact Chain.end_ rfl
  apply DG.take [3, 7] 1 rfl (by kernel_rfl) (by kernel_rfl) (M.sel Sel.a)
  ·intro w M
   refine WL.loadR Tryz.isAgg96 rfl M Has.a rfl rfl (WL.loadR Tryz.isAgg47 rfl M Has.a rfl rfl ?_)
   exact Chain.end_ rfl
  refine DG.step 8 0 rfl (by kernel_rfl) ?_
  refine WL.mapDelete (E := heldM) Tryz.underlying96 Tryz.underlying47 rfl rfl M Has.a Upd.a ?_
  intro w M
  refine DG.go (G := fun j => [3, 7].contains j) (i := 8) (f' := 0) (done := [0, 1, 2, 4, 5, 6, 3, 7]) (fun h => by cases h) ?_
  refine DG.end_ (by kernel_rfl) ?_
  refine WX.next (W.sub [(0, _), (1, _), (4, _)] (.cons rfl (.cons rfl (.cons rfl .nil))) (W.block (W.seq (W.region (WL.fieldR (off := 1) Tryz.underlying101 rfl rfl Tryz.sizeOf4 rfl rfl rfl ?_)))))
  refine WL.loadR Tryz.isAgg4 rfl M Has.a rfl rfl (WL.assign rfl rfl (WL.nil (WX.next (W.sub [(0, _), (1, _), (4, _), (46, _)] (.cons rfl (.cons rfl (.cons rfl (.cons rfl .nil)))) (W.cond rfl (fun c1 => ?_) (fun c1 => ?_))))))
  ·(try simp only [Bool.not_eq_true'] at c1); (try simp only [Bool.not_eq_false'] at c1); (try simp only [decide_eq_true_eq] at c1); (try simp only [decide_eq_false_iff_not] at c1)
   refine W.skip (WX.blockNormal (WX.blockNormal ?_))
   skip
   have hok4 : KiX.ok its ⟨g, gp, gh, cu + 1, pp, mdel hh (cu + 1)⟩ := ⟨by dsimp only; omega, hok3, hok2.pairs⟩
   refine WX.round ((cu + 1, pp, mdel hh (cu + 1))) envSub.sf ⟨M.sel Sel.a, ⟨hok4, hall3⟩⟩ (by first | omega | (dsimp only; omega))
  ·(try simp only [Bool.not_eq_true'] at c1); (try simp only [Bool.not_eq_false'] at c1); (try simp only [decide_eq_true_eq] at c1); (try simp only [decide_eq_false_iff_not] at c1)
   have htm := hie.2 (by simpa using c1)
   refine W.seq (W.region (WL.fieldR (off := 2) Tryz.underlying101 rfl rfl Tryz.sizeOf63 rfl rfl rfl ?_))
   refine WL.fieldRO (off := 2) Tryz.underlying63 rfl rfl Tryz.sizeOf4 rfl rfl rfl ?_
   refine WL.loadR Tryz.isAgg4 rfl M Has.a rfl rfl (WL.assign rfl rfl (WL.nil (WX.next (W.sub [(0, _), (1, _), (4, _), (49, _)] (.cons rfl (.cons rfl (.cons rfl (.cons rfl .nil)))) (W.cond rfl (fun c2 => ?_) (fun c2 => ?_))))))
   ·(try simp only [Bool.not_eq_true'] at c2); (try simp only [Bool.not_eq_false'] at c2); (try simp only [decide_eq_true_eq] at c2); (try simp only [decide_eq_false_iff_not] at c2)
    refine W.drawM ([kiRow g (cu + 1) gp gh, Asr.row g2_9 101 [.int .u64 (i.seq : Int), .bool i.mark, str i.c.key, str i.c.value, .bool i.c.gone]]) (by kernel_rfl) (fun j => [3, 6].contains j) M Sel.a ?_
    clear M; intro M
    apply DG.pure_ [0, 1, 2, 4, 5] 3 rfl (by kernel_rfl) (by kernel_rfl)
    ·intro w
     refine WL.move rfl rfl (WL.nilCheck rfl rfl (WL.fieldR (off := 1) Tryz.underlying98 rfl rfl Tryz.sizeOf95 rfl rfl rfl ?_))
     refine WL.fieldR (off := 2) Tryz.underlying101 rfl rfl Tryz.sizeOf63 rfl rfl rfl ?_
     refine WL.fieldRO (off := 0) Tryz.underlying63 rfl rfl Tryz.sizeOf9 rfl rfl rfl ?_
     exact Chain.end_ rfl
    apply DG.take [3, 6] 1 rfl (by kernel_rfl) (by kernel_rfl) (M.sel Sel.a)
    ·intro w M
     refine WL.loadR Tryz.isAgg95 rfl M Has.a rfl rfl (WL.loadR Tryz.isAgg9 rfl M Has.a rfl rfl ?_)
     exact Chain.end_ rfl
    refine DG.step 7 0 rfl (by kernel_rfl) ?_
    refine WL.mapDelete (E := strV) Tryz.underlying95 Tryz.underlying9 rfl rfl M Has.a Upd.a ?_
    intro w M
    refine DG.go (G := fun j => [3, 6].contains j) (i := 7) (f' := 0) (done := [0, 1, 2, 4, 5, 3, 6]) (fun h => by cases h) ?_
    refine DG.end_ (by kernel_rfl) ?_
    refine WX.blockNormal (WX.blockNormal ?_)
    skip
    have hok4 : KiX.ok its ⟨g, gp, gh, cu + 1, mdel pp i.c.key, mdel hh (cu + 1)⟩ := ⟨by dsimp only; omega, hok3, fun p hp => hok2.pairs p ((mdel_sub pp i.c.key).subset hp)⟩
    refine WX.round ((cu + 1, mdel pp i.c.key, mdel hh (cu + 1))) envSub.sf ⟨M.sel Sel.a, ⟨hok4, hall3⟩⟩ (by first | omega | (dsimp only; omega))
   ·(try simp only [Bool.not_eq_true'] at c2); (try simp only [Bool.not_eq_false'] at c2); (try simp only [decide_eq_true_eq] at c2); (try simp only [decide_eq_false_iff_not] at c2)
    refine W.drawM ([kiRow g (cu + 1) gp gh, Asr.row g2_9 101 [.int .u64 (i.seq : Int), .bool i.mark, str i.c.key, str i.c.value, .bool i.c.gone]]) (by kernel_rfl) (fun j => [3, 6, 9, 10].contains j) M Sel.a ?_
    clear M; intro M
    apply DG.pure_ [0, 1, 2, 4, 5, 7, 8] 5 rfl (by kernel_rfl) (by kernel_rfl)
    ·intro w
     refine WL.move rfl rfl (WL.nilCheck rfl rfl (WL.fieldR (off := 1) Tryz.underlying98 rfl rfl Tryz.sizeOf95 rfl rfl rfl ?_))
     refine WL.fieldR (off := 2) Tryz.underlying101 rfl rfl Tryz.sizeOf63 rfl rfl rfl ?_
     refine WL.fieldRO (off := 0) Tryz.underlying63 rfl rfl Tryz.sizeOf9 rfl rfl rfl ?_
     refine WL.fieldR (off := 2) Tryz.underlying101 rfl rfl Tryz.sizeOf63 rfl rfl rfl ?_
     refine WL.fieldRO (off := 1) Tryz.underlying63 rfl rfl Tryz.sizeOf9 rfl rfl rfl ?_
     exact Chain.end_ rfl
    apply DG.take [3, 6, 9, 10] 1 rfl (by kernel_rfl) (by kernel_rfl) (M.sel Sel.a)
    ·intro w M
     refine WL.loadR Tryz.isAgg95 rfl M Has.a rfl rfl (WL.loadR Tryz.isAgg9 rfl M Has.a rfl rfl (WL.loadR Tryz.isAgg9 rfl M Has.a rfl rfl (WL.buildP (places := #[(0, 1)]) Tryz.underlying160 Tryz.zeroValue160 (fun _ => by simp [Tryz.sizeOf9]) rfl (by repeat (first | exact Puts.nil | exact SetAt.zero | apply SetAt.succ | apply Puts.cons rfl rfl)) rfl ?_)))
     exact Chain.end_ rfl
    refine DG.step 11 0 rfl (by kernel_rfl) ?_
    refine WL.mapUpdate (E := strV) Tryz.underlying95 Tryz.underlying9 rfl rfl rfl M Has.a Upd.a ?_
    intro w M
    refine DG.go (G := fun j => [3, 6, 9, 10].contains j) (i := 11) (f' := 0) (done := [0, 1, 2, 4, 5, 7, 8, 3, 6, 9, 10]) (fun h => by cases h) ?_
    refine DG.end_ (by kernel_rfl) ?_
    refine WX.blockNormal (WX.blockNormal ?_)
    skip
    have hok4 : KiX.ok its ⟨g, gp, gh, cu + 1, mput pp i.c.key i.c.value, mdel hh (cu + 1)⟩ := ⟨by dsimp only; omega, hok3, fun p hp => by
     rcases mput_mem hp with h | h
     ·exact hok2.pairs p h
     ·rw [h]; exact ⟨htm.1, htm.2.1⟩⟩
    refine WX.round ((cu + 1, mput pp i.c.key i.c.value, mdel hh (cu + 1))) envSub.sf ⟨M.sel Sel.a, ⟨hok4, hall3⟩⟩ (by first | omega | (dsimp only; omega))
 ·refine W.exit (WX.thenExit (WX.thenExit (WX.blockHere (WX.end0 rfl ?_))))
  exact ⟨⟨g, gp, gh, cu, pp, hh⟩, rfl, hok2, Mem.star3 (M.sel Sel.a)⟩
theorem WL.neqItSame {n : Nat} {ρ : List (Nat × Value)} {w : World} {rest : List Oper} {X : SqV Tryz.prog n} {d : Nat} {ty : TypeId} {pos : String} {aft : Array Edge} {x y : Operand} {t' : TypeId} (a : It)
 (hx : ev ρ x = some (itV a)) (hy : ev ρ y = some (itV a)) (hd : Nat.blt d n = true) (kk : X.S rest ((d, .bool false) :: ρ) w) : X.S (⟨some d, .binOp .neq 101 x y t', ty, pos, aft, none⟩ :: rest) ρ w := by
 refine WL.val rfl rfl hd (fun f hf => ?_) kk
 have hg := run_eqGuard_agg (P := Tryz.prog) w .neq 101 x y #[.int .u64 (a.seq : Int), .bool a.mark, str a.c.key, str a.c.value, .bool a.c.gone] #[.int .u64 (a.seq : Int), .bool a.mark, str a.c.key, str a.c.value, .bool a.c.gone] (by kernel_rfl)
 have he := eqItSame w a
 have hb := run_neq_struct (P := Tryz.prog) w 101 #[.int .u64 (a.seq : Int), .bool a.mark, str a.c.key, str a.c.value, .bool a.c.gone] #[.int .u64 (a.seq : Int), .bool a.mark, str a.c.key, str a.c.value, .bool a.c.gone]
 unfold itV at he hx hy
 rw [he] at hb
 simp [execOp, hf.eval hx, hf.eval hy, hg, hb]
set_option maxHeartbeats 2000000 in
set_option maxRecDepth 10000 in
theorem kiTake_ok (hits : ItsOk its) (x : KiX) (hx : x.ok its) (j : Nat) (hj : j < its.length) (M : Mem w0 w L) (hd : Del x.O L L') : Fn Tryz.prog 30 [.pointer (some ⟨x.g, 0, none⟩), itV (el its j)] w fun v w' => v = .int .i64 0 ∧ ∃ x' : KiX, x'.g = x.g ∧ x'.ok its ∧ Mem w0 w' (x'.O :: L') := by
 have M1 := (M.del hd).unstar3
 clear M
 have M := M1
 have hfew := hits.few
 obtain ⟨hseq, hiok⟩ := hits.each j hj
 obtain ⟨i, hi⟩ : ∃ i, i = el its j := ⟨_, rfl⟩
 rw [← hi] at hseq hiok ⊢
 obtain ⟨g, gp, gh, cut, ps, hs⟩ := x
 dsimp only at *
 have hcut := hx.cut
 dsimp only at hcut
 have hnd := M.mapNodup (E := heldM) (g := gh) (ms := hs) (.there (.there .here))
 have hold : ∀ o, mget hs i.seq = some o → o = i := by
  intro o ho
  have := (hx.held _ (mget_mem ho)).2.2
  dsimp only at this
  rw [this, hseq, hi]
  rfl
 refine Fn.enter Tryz.func30 rfl Tryz.ntmps30 rfl (W.sub [(0, _), (1, _)] (.cons rfl (.cons rfl .nil)) (W.seq (W.region (WL.box rfl M rfl ?_))))
 intro g0_0 w M
 try simp only [Value.cells] at M
 try simp only [List.toList_toArray] at M
 refine WL.assign rfl rfl (WL.nil (WX.next (W.sub [(0, _), (3, _)] (.cons rfl (.cons rfl .nil)) (W.seq (W.block (W.seq (W.region (WL.move rfl rfl (WL.eqNilF Tryz.underlying42 rfl rfl rfl (WL.assign rfl rfl (WL.nil (WX.next (W.sub [(0, _), (3, _), (11, _)] (.cons rfl (.cons rfl (.cons rfl .nil))) (W.condF rfl (W.seq (W.region (WL.loadW Tryz.isAgg101 Tryz.sizeOf101 rfl M Has.a rfl rfl (WL.call Tryz.call66 rfl (rightI_ok i (by omega) hiok _) rfl ?_))))))))))))))))))
 rintro _ w ⟨rfl, m⟩
 replace M := M.call0 m; clear m
 refine WL.not rfl rfl (WL.assign rfl rfl (WL.nil (WX.next (W.sub [(0, _), (3, _), (14, _)] (.cons rfl (.cons rfl (.cons rfl .nil))) (W.cond rfl (fun c1 => ?_) (fun c1 => ?_))))))
 ·(try simp only [Bool.not_eq_true'] at c1); (try simp only [Bool.not_eq_false'] at c1); (try simp only [decide_eq_true_eq] at c1); (try simp only [decide_eq_false_iff_not] at c1)
  exact absurd c1 (by simp)
 ·(try simp only [Bool.not_eq_true'] at c1); (try simp only [Bool.not_eq_false'] at c1); (try simp only [decide_eq_true_eq] at c1); (try simp only [decide_eq_false_iff_not] at c1)
  refine W.seq (W.drawM ([Asr.row g0_0 101 [.int .u64 (i.seq : Int), .bool i.mark, str i.c.key, str i.c.value, .bool i.c.gone], kiRow g cut gp gh]) (by kernel_rfl) (fun j => [1, 5].contains j) M Sel.a ?_)
  clear M; intro M
  apply DG.pure_ [0, 2, 3, 4] 4 rfl (by kernel_rfl) (by kernel_rfl)
  ·intro w
   refine WL.fieldR (off := 0) Tryz.underlying101 rfl rfl Tryz.sizeOf47 rfl rfl rfl ?_
   refine WL.move rfl rfl (WL.nilCheck rfl rfl (WL.fieldR (off := 0) Tryz.underlying98 rfl rfl Tryz.sizeOf47 rfl rfl rfl ?_))
   exact Chain.end_ rfl
  apply DG.take [1, 5, 6, 7] 0 rfl (by kernel_rfl) (by kernel_rfl) (M.sel Sel.a)
  ·intro w M
   refine WL.loadR Tryz.isAgg47 rfl M Has.a rfl rfl (WL.loadR Tryz.isAgg47 rfl M Has.a rfl rfl (WL.leq rfl rfl rfl (WL.assign rfl rfl ?_)))
   exact Chain.end_ rfl
  refine DG.end_ (by kernel_rfl) ?_
  refine WX.next (W.sub [(0, _), (3, _), (18, _)] (.cons rfl (.cons rfl (.cons rfl .nil))) (W.ite rfl (fun c2 => ?_) (fun c2 => ?_)))
  ·refine W.seq (W.region (WL.assign rfl rfl (WL.nil (WX.next (W.sub [(4, _)] (.cons rfl .nil) (W.ret (WX.blockRet (WX.thenRet (WX.ret1 rfl rfl ?_)))))))))
   exact ⟨rfl, ⟨g, gp, gh, cut, ps, hs⟩, rfl, hx, Mem.star3 (M.sel Sel.a)⟩
  ·refine W.skip (WX.blockNormal (WX.next (W.seq (W.drawM ([Asr.row g0_0 101 [.int .u64 (i.seq : Int), .bool i.mark, str i.c.key, str i.c.value, .bool i.c.gone], kiRow g cut gp gh, Asr.mp heldM gh hs]) (by kernel_rfl) (fun j => [3, 5, 10].contains j) M Sel.a ?_))))
   clear M; intro M
   apply DG.pure_ [0, 1, 2, 4] 9 rfl (by kernel_rfl) (by kernel_rfl)
   ·intro w
    refine WL.move rfl rfl (WL.nilCheck rfl rfl (WL.fieldR (off := 2) Tryz.underlying98 rfl rfl Tryz.sizeOf96 rfl rfl rfl ?_))
    refine WL.fieldR (off := 0) Tryz.underlying101 rfl rfl Tryz.sizeOf47 rfl rfl rfl ?_
    exact Chain.end_ rfl
   apply DG.take [3, 5, 6, 7] 5 rfl (by kernel_rfl) (by kernel_rfl) (M.sel Sel.a)
   ·intro w M
    refine WL.loadR Tryz.isAgg96 rfl M Has.a rfl rfl (WL.loadR Tryz.isAgg47 rfl M Has.a rfl rfl (WL.lookupIt (g := gh) (k := i.seq) (ms := hs) Tryz.underlying96 Tryz.underlying47 Tryz.zeroValue101 rfl rfl M Has.a rfl ?_))
    refine WL.move rfl rfl ?_
    exact Chain.end_ rfl
   apply DG.pure_ [8, 9] 3 rfl (by kernel_rfl) (by kernel_rfl)
   ·intro w
    refine WL.extractL rfl rfl rfl (WL.extractL rfl rfl rfl ?_)
    exact Chain.end_ rfl
   refine DG.step 10 2 rfl (by kernel_rfl) ?_
   refine WL.alloc Tryz.zeroValue101 M rfl ?_
   intro g7_10 w M
   try simp only [Value.cells] at M
   try simp only [List.toList_toArray] at M
   refine DG.go (G := fun j => [3, 5, 10].contains j) (i := 10) (f' := 2) (done := [0, 1, 2, 4, 3, 5, 6, 7, 8, 9]) (fun _ => M.sel Sel.a) ?_
   refine DG.step 11 1 rfl (by kernel_rfl) ?_
   refine WL.storeWA Tryz.sizeOf101 rfl rfl (by repeat (first | exact oneNil | refine oneCons rfl ?_)) rfl rfl M Upd.a ?_
   intro w M
   refine DG.go (G := fun j => [3, 5, 10].contains j) (i := 11) (f' := 1) (done := [0, 1, 2, 4, 3, 5, 6, 7, 8, 9, 10]) (fun h => by cases h) ?_
   apply DG.pure_ [12] 0 rfl (by kernel_rfl) (by kernel_rfl)
   ·intro w
    refine WL.assign rfl rfl ?_
    exact Chain.end_ rfl
   refine DG.end_ (by kernel_rfl) ?_
   refine WX.next (W.sub [(0, _), (3, _), (5, _), (6, _)] (.cons rfl (.cons rfl (.cons rfl (.cons rfl .nil)))) (W.seq (W.block (W.seq (W.region (WL.move rfl rfl (WL.moveIfB rfl rfl (fun c3 => ?_) (fun c3 => ?_))))))))
   ·obtain ⟨o, ho⟩ := Option.isSome_iff_exists.1 c3
    have hoi := hold o ho
    have hgd : (mget hs i.seq).getD it0 = i := by rw [ho]; exact hoi
    rw [hgd] at M
    refine WL.on rfl rfl (WL.loadW Tryz.isAgg101 Tryz.sizeOf101 rfl M Has.a rfl rfl (WL.on rfl rfl (WL.loadW Tryz.isAgg101 Tryz.sizeOf101 rfl M Has.a rfl rfl (WL.on rfl rfl (WL.neqItSame i rfl rfl rfl (WL.pickT rfl rfl rfl (WL.assign rfl rfl (WL.nil (WX.next (W.sub [(0, _), (3, _), (6, _), (36, _)] (.cons rfl (.cons rfl (.cons rfl (.cons rfl .nil)))) (W.condF rfl (W.seq (W.region (WL.move rfl rfl (WL.assign rfl rfl (WL.nil (WX.next (W.sub [(0, _), (3, _), (43, _)] (.cons rfl (.cons rfl (.cons rfl .nil))) (W.cond rfl (fun c5 => ?_) (fun c5 => ?_))))))))))))))))))))
    ·(try simp only [Bool.not_eq_true'] at c5); (try simp only [Bool.not_eq_false'] at c5); (try simp only [decide_eq_true_eq] at c5); (try simp only [decide_eq_false_iff_not] at c5)
     refine W.seq (W.region (WL.assign rfl rfl (WL.nil (WX.next (W.sub [(4, _)] (.cons rfl .nil) (W.ret (WX.blockRet (WX.thenRet (WX.ret1 rfl rfl ?_)))))))))
     exact ⟨rfl, ⟨g, gp, gh, cut, ps, hs⟩, rfl, hx, Mem.star3 (M.sel Sel.a)⟩
    ·(try simp only [Bool.not_eq_true'] at c5); (try simp only [Bool.not_eq_false'] at c5); (try simp only [decide_eq_true_eq] at c5); (try simp only [decide_eq_false_iff_not] at c5)
     (rw [c3] at c5; cases c5)
   ·refine WL.off rfl rfl rfl rfl (WL.off rfl rfl rfl rfl (WL.off rfl rfl rfl rfl (WL.pickF rfl rfl rfl (WL.assign rfl rfl (WL.nil (WX.next (W.sub [(0, _), (3, _), (6, _), (36, _)] (.cons rfl (.cons rfl (.cons rfl (.cons rfl .nil)))) (W.condF rfl (W.seq (W.region (WL.move rfl rfl (WL.assign rfl rfl (WL.nil (WX.next (W.sub [(0, _), (3, _), (43, _)] (.cons rfl (.cons rfl (.cons rfl .nil))) (W.cond rfl (fun c5 => ?_) (fun c5 => ?_)))))))))))))))))
    ·(try simp only [Bool.not_eq_true'] at c5); (try simp only [Bool.not_eq_false'] at c5); (try simp only [decide_eq_true_eq] at c5); (try simp only [decide_eq_false_iff_not] at c5)
     (rw [c3] at c5; cases c5)
    ·(try simp only [Bool.not_eq_true'] at c5); (try simp only [Bool.not_eq_false'] at c5); (try simp only [decide_eq_true_eq] at c5); (try simp only [decide_eq_false_iff_not] at c5)
     refine W.seq (W.drawM ([Asr.row g0_0 101 [.int .u64 (i.seq : Int), .bool i.mark, str i.c.key, str i.c.value, .bool i.c.gone], kiRow g cut gp gh]) (by kernel_rfl) (fun j => [1, 5].contains j) M Sel.a ?_)
     clear M; intro M
     apply DG.pure_ [0, 2, 3, 4] 5 rfl (by kernel_rfl) (by kernel_rfl)
     ·intro w
      refine WL.fieldR (off := 0) Tryz.underlying101 rfl rfl Tryz.sizeOf47 rfl rfl rfl ?_
      refine WL.move rfl rfl (WL.nilCheck rfl rfl (WL.fieldR (off := 0) Tryz.underlying98 rfl rfl Tryz.sizeOf47 rfl rfl rfl ?_))
      exact Chain.end_ rfl
     apply DG.take [1, 5, 6, 7, 8] 0 rfl (by kernel_rfl) (by kernel_rfl) (M.sel Sel.a)
     ·intro w M
      refine WL.loadR Tryz.isAgg47 rfl M Has.a rfl rfl (WL.loadR Tryz.isAgg47 rfl M Has.a rfl rfl (WL.sub' rfl rfl (by first | exact wU64 (by omega) | exact mU64 _ | rfl) rfl ?_))
      refine WL.gtr rfl rfl rfl (WL.assign rfl rfl ?_)
      exact Chain.end_ rfl
     refine DG.end_ (by kernel_rfl) ?_
     refine WX.next (W.sub [(0, _), (3, _), (45, _)] (.cons rfl (.cons rfl (.cons rfl .nil))) (W.ite rfl (fun c6 => ?_) (fun c6 => ?_)))
     ·exact absurd c6 (by omega)
     ·refine W.skip (WX.blockNormal (WX.next (W.seq (W.drawM ([Asr.row g0_0 101 [.int .u64 (i.seq : Int), .bool i.mark, str i.c.key, str i.c.value, .bool i.c.gone], kiRow g cut gp gh]) (by kernel_rfl) (fun j => [3, 5, 6].contains j) M Sel.a ?_))))
      clear M; intro M
      apply DG.pure_ [0, 1, 2, 4] 4 rfl (by kernel_rfl) (by kernel_rfl)
      ·intro w
       refine WL.move rfl rfl (WL.nilCheck rfl rfl (WL.fieldR (off := 2) Tryz.underlying98 rfl rfl Tryz.sizeOf96 rfl rfl rfl ?_))
       refine WL.fieldR (off := 0) Tryz.underlying101 rfl rfl Tryz.sizeOf47 rfl rfl rfl ?_
       exact Chain.end_ rfl
      apply DG.take [3, 5, 6] 1 rfl (by kernel_rfl) (by kernel_rfl) (M.sel Sel.a)
      ·intro w M
       refine WL.loadR Tryz.isAgg96 rfl M Has.a rfl rfl (WL.loadR Tryz.isAgg47 rfl M Has.a rfl rfl (WL.loadW Tryz.isAgg101 Tryz.sizeOf101 rfl M Has.a rfl rfl ?_))
       exact Chain.end_ rfl
      refine DG.step 7 0 rfl (by kernel_rfl) ?_
      refine WL.mapUpdate (E := heldM) (k := i.seq) (a := i) Tryz.underlying96 Tryz.underlying47 rfl rfl rfl M Has.a Upd.a ?_
      intro w M
      refine DG.go (G := fun j => [3, 5, 6].contains j) (i := 7) (f' := 0) (done := [0, 1, 2, 4, 3, 5, 6]) (fun h => by cases h) ?_
      refine DG.end_ (by kernel_rfl) ?_
      refine WX.next (W.sub [(0, _)] (.cons rfl .nil) (W.seq ?_))
      obtain ⟨hs2, hhs2⟩ : ∃ hs2, hs2 = mput hs i.seq i := ⟨_, rfl⟩
      rw [← hhs2] at M
      have hx2 : KiX.ok its ⟨g, gp, gh, cut, ps, hs2⟩ := ⟨hcut, fun p hp => by
       rw [hhs2] at hp
       rcases mput_mem hp with h | h
       ·exact hx.held p h
       ·rw [h]
        dsimp only
        exact ⟨by omega, by omega, by rw [hseq, hi]; rfl⟩, hx.pairs⟩
      refine W.region (WL.move rfl rfl (WL.nilCheck rfl rfl (WL.fieldR (off := 0) Tryz.underlying98 rfl rfl Tryz.sizeOf47 rfl rfl rfl ?_)))
      refine WL.loadR Tryz.isAgg47 rfl M Has.a rfl rfl (WL.assign rfl rfl (WL.nil (WX.next (W.sub [(0, _), (7, _)] (.cons rfl (.cons rfl .nil)) (W.seq (W.seq (W.region (WL.move rfl rfl (WL.nilCheck rfl rfl (WL.fieldR (off := 0) Tryz.underlying98 rfl rfl Tryz.sizeOf47 rfl rfl rfl ?_))))))))))
      refine WL.loadR Tryz.isAgg47 rfl M Has.a rfl rfl (WL.add rfl rfl (by first | exact wU64 (by omega) | exact mU64 _ | rfl) rfl ?_)
      refine WL.assign rfl rfl (WL.nil (WX.next (W.sub [(0, _), (7, _), (8, _)] (.cons rfl (.cons rfl (.cons rfl .nil))) (W.block ?_))))
      refine W.loop (ι := Nat × Nat) (fun z => [(0, .pointer (some ⟨g, 0, none⟩)), (7, .int .u64 (z.2 : Int)), (8, .int .u64 (z.1 : Int))]) (fun zz w => Mem w0 w ((fun z => kiRow g cut gp gh :: Asr.mp strV gp ps :: Asr.mp heldM gh hs2 :: L') zz) ∧ (fun z => (cut < z.1 ∧ z.1 ≤ its.length + 1) ∧ (cut ≤ z.2 ∧ z.2 < z.1) ∧ ∀ s, cut < s → s < z.1 → (mget hs2 s).isSome) zz) (fun z => its.length + 1 - z.1) ((cut + 1, cut)) envSub.sf ⟨M.sel Sel.a, ⟨⟨Nat.lt_succ_self _, by dsimp only; omega⟩, ⟨Nat.le_refl _, Nat.lt_succ_self _⟩, fun s h1 h2 => by dsimp only at h2; omega⟩⟩ ?_
      clear M; rintro (⟨at_, la⟩) w ⟨M, ⟨⟨ha1, ha2⟩, ⟨hl1, hl2⟩, hall⟩⟩; dsimp only at M ha1 ha2 hl1 hl2 hall ⊢
      refine W.sub [(0, _), (7, _), (8, _)] (.cons rfl (.cons rfl (.cons rfl .nil))) (W.seq (W.block (W.seq (W.region (WL.move rfl rfl (WL.nilCheck rfl rfl (WL.fieldR (off := 2) Tryz.underlying98 rfl rfl Tryz.sizeOf96 rfl rfl rfl ?_)))))))
      refine WL.loadR Tryz.isAgg96 rfl M Has.a rfl rfl (WL.move rfl rfl (WL.lookupIt (g := gh) (k := at_) (ms := hs2) Tryz.underlying96 Tryz.underlying47 Tryz.zeroValue101 rfl rfl M Has.a rfl ?_))
      refine WL.move rfl rfl (WL.extractL rfl rfl rfl (WL.extractL rfl rfl rfl (WL.alloc Tryz.zeroValue101 M rfl ?_)))
      intro g18_9 w M
      try simp only [Value.cells] at M
      try simp only [List.toList_toArray] at M
      refine WL.storeWA Tryz.sizeOf101 rfl rfl (by repeat (first | exact oneNil | refine oneCons rfl ?_)) rfl rfl M Upd.a ?_
      intro w M
      refine WL.assign rfl rfl (WL.nil (WX.next (W.sub [(0, _), (7, _), (8, _), (9, _), (10, _)] (.cons rfl (.cons rfl (.cons rfl (.cons rfl (.cons rfl .nil))))) (W.seq (W.seq (W.region (WL.move rfl rfl (WL.not rfl rfl (WL.nil (WX.next (W.sub [(0, _), (7, _), (8, _), (9, _), (82, _)] (.cons rfl (.cons rfl (.cons rfl (.cons rfl (.cons rfl .nil))))) (W.cond rfl (fun c7 => ?_) (fun c7 => ?_)))))))))))))
      ·(try simp only [Bool.not_eq_true'] at c7); (try simp only [Bool.not_eq_false'] at c7); (try simp only [decide_eq_true_eq] at c7); (try simp only [decide_eq_false_iff_not] at c7)
       refine W.exit (WX.thenExit (WX.blockPast rfl (WX.thenExit (WX.thenExit (WX.blockHere (WX.next (W.seq (W.region (WL.move rfl rfl (WL.move rfl rfl (WL.call Tryz.call67 rfl (kiAdvance_ok w0 w _ hits g gp gh cut la ps hs2 hx2 (by omega) (fun s h1 h2 => hall s h1 (by omega)) (M.sel (K := kiRow g cut gp gh :: Asr.mp strV gp ps :: Asr.mp heldM gh hs2 :: L') Sel.a)) rfl ?_)))))))))))
       rintro _ w ⟨x2, p1, p2, M⟩
       refine WL.nil (WX.next (W.sub [] .nil (W.seq (W.region (WL.assign rfl rfl (WL.nil (WX.next (W.sub [(4, _)] (.cons rfl .nil) (W.ret (WX.ret1 rfl rfl ?_))))))))))
       exact ⟨rfl, x2, p1, p2, M.sel Sel.a⟩
      ·(try simp only [Bool.not_eq_true'] at c7); (try simp only [Bool.not_eq_false'] at c7); (try simp only [decide_eq_true_eq] at c7); (try simp only [decide_eq_false_iff_not] at c7)
       have hhas : (mget hs2 at_).isSome = true := by simpa using c7
       obtain ⟨o, ho⟩ := Option.isSome_iff_exists.1 hhas
       obtain ⟨q1, q2, q3⟩ := hx2.held _ (mget_mem ho)
       dsimp only at q2
       have hall3 : ∀ s, cut < s → s < at_ + 1 → (mget hs2 s).isSome := fun s h1 h2 => by
        rcases Nat.lt_or_ge s at_ with h | h
        ·exact hall s h1 h
        ·obtain rfl : s = at_ := by omega
         exact hhas
       refine W.skip (WX.next (W.seq (W.region (WL.fieldR (off := 1) Tryz.underlying101 rfl rfl Tryz.sizeOf4 rfl rfl rfl ?_))))
       refine WL.loadR Tryz.isAgg4 rfl M Has.a rfl rfl (WL.nil (WX.next (W.sub [(0, _), (7, _), (8, _), (84, _)] (.cons rfl (.cons rfl (.cons rfl (.cons rfl .nil)))) (W.cond rfl (fun c8 => ?_) (fun c8 => ?_)))))
       ·(try simp only [Bool.not_eq_true'] at c8); (try simp only [Bool.not_eq_false'] at c8); (try simp only [decide_eq_true_eq] at c8); (try simp only [decide_eq_false_iff_not] at c8)
        refine W.region (WL.move rfl rfl (WL.assign rfl rfl (WL.nil (WX.blockNormal (WX.next (W.sub [(0, _), (7, _), (8, _)] (.cons rfl (.cons rfl (.cons rfl .nil))) (W.region (WL.move rfl rfl (WL.add rfl rfl (by first | exact wU64 (by omega) | exact mU64 _ | rfl) rfl ?_)))))))))
        refine WL.assign rfl rfl (WL.nil ?_)
        refine WX.round ((at_ + 1, at_)) envSub.sf ⟨M.sel Sel.a, ⟨⟨by dsimp only; omega, by dsimp only; omega⟩, ⟨by dsimp only; omega, by dsimp only; omega⟩, hall3⟩⟩ (by first | omega | (dsimp only; omega))
       ·(try simp only [Bool.not_eq_true'] at c8); (try simp only [Bool.not_eq_false'] at c8); (try simp only [decide_eq_true_eq] at c8); (try simp only [decide_eq_false_iff_not] at c8)
        refine W.skip (WX.blockNormal (WX.next (W.region (WL.move rfl rfl (WL.add rfl rfl (by first | exact wU64 (by omega) | exact mU64 _ | rfl) rfl ?_)))))
        refine WL.assign rfl rfl (WL.nil ?_)
        refine WX.round ((at_ + 1, la)) envSub.sf ⟨M.sel Sel.a, ⟨⟨by dsimp only; omega, by dsimp only; omega⟩, ⟨hl1, by dsimp only; omega⟩, hall3⟩⟩ (by first | omega | (dsimp only; omega))
set_option maxRecDepth 10000 in
theorem kiPairs_ok (x : KiX) (hx : x.ok its) (M : Mem w0 w L) (hd : Del x.O L L') : Fn Tryz.prog 33 [.pointer (some ⟨x.g, 0, none⟩)] w fun v w' => ∃ (l : List Pr) (A : Option Addr) (c : Nat), v = .slice A l.length c ∧ l.length ≤ 12 ∧ (∀ p ∈ l, p.1 ∈ keys6 ∧ p.2.length ≤ 20) ∧ Mem w0 w' (Asr.lst pairE A c l :: x.O :: L') := by
 have M1 := (M.del hd).unstar3
 clear M
 have M := M1
 obtain ⟨g, gp, gh, cut, ps, hs⟩ := x
 dsimp only at *
 have hnd := M.mapNodup (E := strV) (g := gp) (ms := ps) (.there .here)
 have hk6 : ∀ k ∈ ps.map (·.1), k ∈ keys6 := fun k hk => by
  obtain ⟨p, hp, rfl⟩ := List.mem_map.1 hk
  exact (hx.pairs p hp).1
 have hpl : ps.length ≤ 6 := by
  have := nodup_sub (ps.map (·.1)) keys6 hnd hk6
  rw [List.length_map] at this
  exact this
 refine Fn.enter Tryz.func33 rfl Tryz.ntmps33 rfl (W.sub [(0, _)] (.cons rfl .nil) (W.seq (W.region (WL.assign rfl rfl (WL.nil (WX.next (W.sub [(0, _)] (.cons rfl .nil) (W.seq (W.seq (W.region (WL.move rfl rfl (WL.eqNilF Tryz.underlying42 rfl rfl rfl (WL.nil (WX.next (W.sub [(0, _), (7, _)] (.cons rfl (.cons rfl .nil)) (W.condF rfl (W.skip (WX.next (W.seq (W.region (WL.assign rfl rfl (WL.nil (WX.next (W.sub [(0, _), (3, _)] (.cons rfl (.cons rfl .nil)) (W.seq (W.seq (W.region (WL.move rfl rfl (WL.nilCheck rfl rfl (WL.fieldR (off := 1) Tryz.underlying98 rfl rfl Tryz.sizeOf95 rfl rfl rfl ?_))))))))))))))))))))))))))))))
 refine WL.loadR Tryz.isAgg95 rfl M Has.a rfl rfl (WL.call Tryz.call69 rfl (mSorted_ok w0 w _ _ (g := gp) (ms := ps) (by omega) M Del.a) rfl ?_)
 rintro _ w ⟨A4, c4, ys, rfl, hy1, hy2, M⟩
 have hyl : ys.length = ps.length := by rw [hy1.length_eq, List.length_map]
 refine WL.len Tryz.underlying71 rfl rfl (WL.move rfl rfl (WL.nil (WX.next (W.sub [(0, _), (3, _), (12, _), (13, _), (14, _)] (.cons rfl (.cons rfl (.cons rfl (.cons rfl (.cons rfl .nil))))) (W.block (W.loop (ι := Nat × Option Addr × Nat × List Pr) (fun z => [(0, .pointer (some ⟨g, 0, none⟩)), (3, .slice z.2.1 z.2.2.2.length z.2.2.1), (12, .slice A4 ys.length c4), (13, .int .i64 (ys.length : Int)), (14, .int .i64 (z.1 : Int))]) (fun zz w => Mem w0 w ((fun z => Asr.lst pairE z.2.1 z.2.2.1 z.2.2.2 :: Asr.lst txE A4 c4 ys :: Asr.mp strV gp ps :: kiRow g cut gp gh :: Asr.mp heldM gh hs :: L') zz) ∧ (fun z => z.1 ≤ ys.length ∧ z.2.2.2.length = z.1 ∧ ∀ p ∈ z.2.2.2, p.1 ∈ keys6 ∧ p.2.length ≤ 20) zz) (fun z => ys.length - z.1) ((0, none, 0, [])) envSub.sf ⟨((M.nilOwn 124 2).sel Sel.a), ⟨Nat.zero_le _, rfl, fun p hp => (by cases hp)⟩⟩ ?_))))))
 clear M; rintro (⟨i, Ab, cb, l⟩) w ⟨M, ⟨hi, hll, hl6⟩⟩; dsimp only at M hi hll hl6 ⊢
 refine W.sub [(0, _), (3, _), (12, _), (13, _), (14, _)] (.cons rfl (.cons rfl (.cons rfl (.cons rfl (.cons rfl .nil))))) (W.seq (W.region (WL.lss rfl rfl rfl (WL.nil (WX.next (W.sub [(0, _), (3, _), (12, _), (13, _), (14, _), (15, _)] (.cons rfl (.cons rfl (.cons rfl (.cons rfl (.cons rfl (.cons rfl .nil)))))) (W.seq (W.ite rfl (fun c1 => ?_) (fun c1 => ?_)))))))))
 ·have hil : i < ys.length := by omega
  have hki : el ys i ∈ ps.map (·.1) := hy1.mem_iff.1 (el_mem hil)
  obtain ⟨p, hp, hpe⟩ := List.mem_map.1 hki
  have hget : mget ps (el ys i) = some p.2 := mget_of_mem hnd (by rw [← hpe]; exact hp)
  refine W.skip (WX.next (W.seq (W.block (W.seq (W.region (WL.idxA Tryz.underlying71 Tryz.sizeOf9 rfl rfl (RdL.isSome (E := txE) (by first | with_reducible assumption | with_reducible exact RdL.mem (by with_reducible assumption) M | exact M.rdL Has.a | exact RdLH.at (by assumption) (M.sel Sel.a) | exact RdL.nil _ _ _) (by omega)) (by omega) (by omega) (by first | exact rfl | exact (Int.toNat_of_nonneg (by omega)).symm) rfl ?_))))))
  refine WL.loadE0 (E := txE) Tryz.isAgg9 rfl (by first | with_reducible assumption | with_reducible exact RdL.mem (by with_reducible assumption) M | exact M.rdL Has.a | exact RdLH.at (by assumption) (M.sel Sel.a) | exact RdL.nil _ _ _) (by omega) rfl rfl ?_
  refine WL.assign rfl rfl (WL.nil (WX.next (W.sub [(0, _), (3, _), (5, _), (12, _), (13, _), (14, _)] (.cons rfl (.cons rfl (.cons rfl (.cons rfl (.cons rfl (.cons rfl .nil)))))) (W.region (WL.move rfl rfl (WL.move rfl rfl (WL.move rfl rfl (WL.nilCheck rfl rfl (WL.fieldR (off := 1) Tryz.underlying98 rfl rfl Tryz.sizeOf95 rfl rfl rfl ?_)))))))))
  refine WL.loadR Tryz.isAgg95 rfl M Has.a rfl rfl (WL.move rfl rfl (WL.lookupV (E := strV) (g := gp) (ms := ps) (k := el ys i) Tryz.underlying95 Tryz.underlying9 Tryz.zeroValue160 rfl rfl M Has.a rfl ?_))
  rw [hget]
  dsimp only [Option.elim]
  refine WL.fieldV Tryz.underlying160 rfl rfl (fun w => by rfl) rfl ?_
  refine WL.buildP (places := #[(0, 1), (1, 1)]) Tryz.underlying124 Tryz.zeroValue124 (fun _ => by simp [Tryz.sizeOf9, Tryz.sizeOf9]) rfl (by repeat (first | exact Puts.nil | exact SetAt.zero | apply SetAt.succ | apply Puts.cons rfl rfl)) rfl ?_
  refine WL.buildL (E := pairE) (l := [((el ys i, p.2) : Pr)]) Tryz.elem124 M rfl rfl rfl rfl rfl rfl ?_
  intro g7_10 w M
  refine WL.appendL (E := pairE) Tryz.elem124 rfl rfl M Del.a (by first | with_reducible assumption | with_reducible exact RdL.mem (by with_reducible assumption) M | exact M.rdL Has.a | exact RdLH.at (by assumption) (M.sel Sel.a) | exact RdL.nil _ _ _) rfl rfl (by first | omega | (simp; done) | (simp; omega)) (by first | (simp only [maxLen]; omega) | (simp [maxLen]; done) | (simp [maxLen]; omega)) rfl ?_
  intro A7_11 cap7_11 w M
  refine WL.assign rfl rfl (WL.nil (WX.blockNormal (WX.next (W.sub [(0, _), (3, _), (12, _), (13, _), (14, _)] (.cons rfl (.cons rfl (.cons rfl (.cons rfl (.cons rfl .nil))))) (W.region (WL.add rfl rfl (by first | exact wI64 (by omega) | rfl) rfl ?_))))))
  refine WL.move rfl rfl (WL.nil ?_)
  skip
  have q : ∀ z ∈ l ++ [((el ys i, p.2) : Pr)], z.1 ∈ keys6 ∧ z.2.length ≤ 20 := fun z hz => by
   rcases List.mem_append.1 hz with h | h
   ·exact hl6 z h
   ·rw [List.mem_singleton] at h
    subst h
    exact ⟨hk6 _ hki, (hx.pairs p hp).2⟩
  refine WX.round ((i + 1, A7_11, cap7_11, l ++ [((el ys i, p.2) : Pr)])) envSub.sf ⟨M.sel Sel.a, ⟨by dsimp only; omega, by dsimp only; rw [List.length_append, hll]; rfl, q⟩⟩ (by first | omega | (dsimp only; omega))
 ·refine W.exit (WX.thenExit (WX.thenExit (WX.blockHere (WX.next (W.seq (W.region (WL.move rfl rfl (WL.assign rfl rfl (WL.nil (WX.next (W.sub [(2, _)] (.cons rfl .nil) (W.ret (WX.ret1 rfl rfl ?_)))))))))))))
  have M4 : Mem w0 w (kiRow g cut gp gh :: Asr.mp strV gp ps :: Asr.mp heldM gh hs :: Asr.lst pairE Ab cb l :: L') := M.sel Sel.a
  exact ⟨l, Ab, cb, rfl, by omega, hl6, (Mem.star3 M4).sel Sel.a⟩
end
end Go.Proofs.YtlminileigfkcaaGreat
namespace Go.Proofs.YtlminileigfkcaaGreat
open Go Go.RowKit Go.Lib Bin
section
variable {P : Program} {n : Nat} {ρ : List (Nat × Value)} {w : World} {rest : List Oper} {X : SqV P n}
variable {d : Nat} {ty : TypeId} {pos : String} {aft : Array Edge} {x : Operand} {t : TypeId} {α : Type} {E : Enc α}
/-- A part of a thing of a list. -/
theorem WL.loadLP [Inhabited α] {A : Option Addr} {cap j o : Nat} {l : List α} {cs : List Value} (hA : ∀ w, (isAgg t).run P w = .ok true w) (hs : ∀ w, (sizeOf t).run P w = .ok cs.length w) (hx : ev ρ x = some (.pointer (some (atA A (j * E.size + o))))) (h : RdL w E A cap l) (hj : j < l.length)
 (hcs : ((E.cells (el l j)).drop o).take cs.length = cs) (hd : Nat.blt d n = true) (kk : X.S rest ((d, .agg cs.toArray) :: ρ) w) : X.S (⟨some d, .load t x, ty, pos, aft, none⟩ :: rest) ρ w := by
 refine WL.loadAgg hA hs hx (fun q v hv => ?_) hd kk
 rw [atA_add, Nat.add_assoc]
 refine h.cell hj ?_
 rw [← hcs, List.getElem?_take] at hv
 split at hv
 ·rw [List.getElem?_drop] at hv
  exact hv
 ·cases hv
end
/-- What the items up to a number come to. -/
def pairsF (l : List It) (n : Nat) : List Pr := layL [] ((l.filter fun i => decide (i.seq ≤ n) && !i.mark).map (·.c))
theorem pairsF_snoc (l : List It) (i : It) (n : Nat) : pairsF (l ++ [i]) n = if i.seq ≤ n ∧ i.mark = false then layL (pairsF l n) [i.c] else pairsF l n := by
 unfold pairsF
 rw [List.filter_append, List.map_append]
 by_cases h : i.seq ≤ n ∧ i.mark = false
 ·rw [if_pos h]
  simp [h.1, h.2, layL, List.foldl_append]
 ·rw [if_neg h]
  have : (decide (i.seq ≤ n) && !i.mark) = false := by
   rw [Bool.eq_false_iff]
   intro hh
   simp at hh
   exact h hh
  simp [this]
theorem pairsF_SP (l : List It) (n : Nat) : SP (pairsF l n) := layL_SP _ List.Pairwise.nil
theorem pairsF_len (l : List It) (n : Nat) : (pairsF l n).length ≤ l.length := by
 have h := layL_len ((l.filter fun i => decide (i.seq ≤ n) && !i.mark).map (·.c)) (l := []) List.Pairwise.nil
 rw [List.length_map] at h
 have h2 := List.length_filter_le (fun i : It => decide (i.seq ≤ n) && !i.mark) l
 have h3 : (pairsF l n).length ≤ [].length + _ := h
 simp only [List.length_nil] at h3
 omega
theorem pairsF_next {l : List It} {n k : Nat} (hk : k < l.length) : pairsF (l.take (k + 1)) n = if (el l k).seq ≤ n ∧ (el l k).mark = false then layL (pairsF (l.take k) n) [(el l k).c] else pairsF (l.take k) n := by
 rw [List.take_succ_eq_append_getElem hk, pairsF_snoc, show l[k] = el l k by simp [el, hk]]
section
variable (w0 w : World) (L : List Asr) {its : List It} {A : Option Addr} {ca n : Nat}
set_option maxRecDepth 10000 in
set_option maxHeartbeats 2000000 in
theorem rPairs_ok (hits : ItsOk its) (M : Mem w0 w (Asr.lst itE A ca its :: L)) :
 Fn Tryz.prog 40 [.slice A its.length ca, .int .u64 (n : Int)] w fun v w' => ∃ A' c', v = .slice A' (pairsF its n).length c' ∧ Mem w0 w' (Asr.lst pairE A' c' (pairsF its n) :: Asr.lst itE A ca its :: L) := by
 have hfew := hits.few
 refine Fn.enter Tryz.func40 rfl Tryz.ntmps40 rfl (W.sub [(0, _), (1, _)] (.cons rfl (.cons rfl .nil)) (W.seq (W.region (WL.assign rfl rfl (WL.nil (WX.next (W.sub [(0, _), (1, _)] (.cons rfl (.cons rfl .nil)) (W.seq (W.region (WL.assign rfl rfl (WL.nil (WX.next (W.sub [(0, _), (1, _), (5, _)] (.cons rfl (.cons rfl (.cons rfl .nil))) (W.seq (W.seq (W.region (WL.assign rfl rfl (WL.nil (WX.next (W.sub [(0, _), (1, _), (5, _), (6, _)] (.cons rfl (.cons rfl (.cons rfl (.cons rfl .nil)))) (W.block (W.loop (ι := Nat × Option Addr × Nat) (fun z => [(0, .slice A its.length ca), (1, .int .u64 (n : Int)), (5, .slice z.2.1 (pairsF (its.take z.1) n).length z.2.2), (6, .int .i64 (z.1 : Int))]) (fun zz w => Mem w0 w ((fun z => Asr.lst pairE z.2.1 z.2.2 (pairsF (its.take z.1) n) :: Asr.lst itE A ca its :: L) zz) ∧ (fun z => z.1 ≤ its.length) zz) (fun z => its.length - z.1) ((0, none, 0)) envSub.sf ⟨((M.nilOwn 124 2).sel Sel.a), (Nat.zero_le _)⟩ ?_))))))))))))))))))))))
 clear M; rintro (⟨i, A1, c1'⟩) w ⟨M, hi⟩; dsimp only at M hi ⊢
 refine W.sub [(0, _), (1, _), (5, _), (6, _)] (.cons rfl (.cons rfl (.cons rfl (.cons rfl .nil)))) (W.seq (W.seq (W.region (WL.move rfl rfl (WL.move rfl rfl (WL.len Tryz.underlying25 rfl rfl (WL.lss rfl rfl rfl (WL.nil (WX.next (W.sub [(0, _), (1, _), (5, _), (6, _), (10, _)] (.cons rfl (.cons rfl (.cons rfl (.cons rfl (.cons rfl .nil))))) (W.ite rfl (fun c0 => ?_) (fun c0 => ?_))))))))))))
 ·have hil : i < its.length := by omega
  obtain ⟨hseq, hio⟩ := hits.each i hil
  have hnx := pairsF_next (n := n) hil
  have hpl := pairsF_len (its.take i) n
  rw [List.length_take] at hpl
  refine W.skip (WX.next (W.seq (W.block (W.seq (W.region (WL.move rfl rfl (WL.move rfl rfl (WL.idxA Tryz.underlying25 Tryz.sizeOf101 rfl rfl (RdL.isSome (E := itE) (by first | with_reducible assumption | with_reducible exact RdL.mem (by with_reducible assumption) M | exact M.rdL Has.a | exact RdLH.at (by assumption) (M.sel Sel.a) | exact RdL.nil _ _ _) (by omega)) (by omega) (by omega) (by first | exact rfl | exact (Int.toNat_of_nonneg (by omega)).symm) rfl ?_))))))))
  refine WL.fieldA (off := 0) Tryz.underlying101 rfl rfl Tryz.sizeOf47 rfl rfl rfl ?_
  refine WL.loadE (E := itE) Tryz.isAgg47 rfl (by first | with_reducible assumption | with_reducible exact RdL.mem (by with_reducible assumption) M | exact M.rdL Has.a | exact RdLH.at (by assumption) (M.sel Sel.a) | exact RdL.nil _ _ _) (by omega) rfl rfl ?_
  refine WL.move rfl rfl (WL.leq rfl rfl rfl (WL.moveIf rfl rfl (fun c1 => ?_) (fun c1 => ?_)))
  ·refine WL.on rfl rfl (WL.move rfl rfl (WL.on rfl rfl (WL.move rfl rfl (WL.on rfl rfl (WL.idxA Tryz.underlying25 Tryz.sizeOf101 rfl rfl (RdL.isSome (E := itE) (by first | with_reducible assumption | with_reducible exact RdL.mem (by with_reducible assumption) M | exact M.rdL Has.a | exact RdLH.at (by assumption) (M.sel Sel.a) | exact RdL.nil _ _ _) (by omega)) (by omega) (by omega) (by first | exact rfl | exact (Int.toNat_of_nonneg (by omega)).symm) rfl ?_)))))
   refine WL.on rfl rfl (WL.fieldA (off := 1) Tryz.underlying101 rfl rfl Tryz.sizeOf4 rfl rfl rfl ?_)
   refine WL.on rfl rfl (WL.loadE (E := itE) Tryz.isAgg4 rfl (by first | with_reducible assumption | with_reducible exact RdL.mem (by with_reducible assumption) M | exact M.rdL Has.a | exact RdLH.at (by assumption) (M.sel Sel.a) | exact RdL.nil _ _ _) (by omega) rfl rfl ?_)
   refine WL.on rfl rfl (WL.not rfl rfl (WL.pickT rfl rfl rfl (WL.nil (WX.next (W.sub [(0, _), (1, _), (5, _), (6, _), (27, _)] (.cons rfl (.cons rfl (.cons rfl (.cons rfl (.cons rfl .nil))))) (W.cond rfl (fun c2 => ?_) (fun c2 => ?_)))))))
   ·(try simp only [Bool.not_eq_true'] at c2); (try simp only [Bool.not_eq_false'] at c2); (try simp only [decide_eq_true_eq] at c2); (try simp only [decide_eq_false_iff_not] at c2)
    have hmf : (el its i).mark = false := by simpa using c2
    have htm := hio.2 hmf
    have hk2 := keys6_len htm.1
    have hv20 := htm.2.1
    rw [if_pos ⟨by omega, hmf⟩] at hnx
    refine W.region (WL.move rfl rfl (WL.move rfl rfl (WL.move rfl rfl (WL.idxA Tryz.underlying25 Tryz.sizeOf101 rfl rfl (RdL.isSome (E := itE) (by first | with_reducible assumption | with_reducible exact RdL.mem (by with_reducible assumption) M | exact M.rdL Has.a | exact RdLH.at (by assumption) (M.sel Sel.a) | exact RdL.nil _ _ _) (by omega)) (by omega) (by omega) (by first | exact rfl | exact (Int.toNat_of_nonneg (by omega)).symm) rfl ?_))))
    refine WL.fieldA (off := 2) Tryz.underlying101 rfl rfl Tryz.sizeOf63 rfl rfl rfl ?_
    refine WL.loadLP (E := itE) (cs := [_, _, _]) Tryz.isAgg63 Tryz.sizeOf63 rfl (by first | with_reducible assumption | with_reducible exact RdL.mem (by with_reducible assumption) M | exact M.rdL Has.a | exact RdLH.at (by assumption) (M.sel Sel.a) | exact RdL.nil _ _ _) (by omega) rfl rfl ?_
    refine WL.buildL (E := cgE) (l := [(el its i).c]) Tryz.elem63 M rfl rfl rfl rfl rfl rfl ?_
    intro g6_6 w M
    refine WL.call Tryz.call29 rfl (refLay_ok w0 w _ _ (l := pairsF (its.take i) n) (bt := [(el its i).c]) (pairsF_SP _ _) (by omega) (by simp) (fun c hc => by rw [List.mem_singleton] at hc; subst hc; exact ⟨by omega, by omega⟩) M Del.a (by intro w M; exact (by first | with_reducible assumption | with_reducible exact RdL.mem (by with_reducible assumption) M | exact M.rdL Has.a | exact RdLH.at (by assumption) (M.sel Sel.a) | exact RdL.nil _ _ _))) rfl ?_
    rintro _ w ⟨A6, c6, rfl, M⟩
    rw [← hnx] at M ⊢
    refine WL.assign rfl rfl (WL.nil (WX.blockNormal (WX.next (W.sub [(0, _), (1, _), (5, _), (6, _)] (.cons rfl (.cons rfl (.cons rfl (.cons rfl .nil)))) (W.region (WL.move rfl rfl (WL.add rfl rfl (by first | exact wI64 (by omega) | rfl) rfl ?_)))))))
    refine WL.assign rfl rfl (WL.nil ?_)
    refine WX.round ((i + 1, A6, c6)) envSub.sf ⟨M.sel Sel.a, (by dsimp only; omega)⟩ (by first | omega | (dsimp only; omega))
   ·(try simp only [Bool.not_eq_true'] at c2); (try simp only [Bool.not_eq_false'] at c2); (try simp only [decide_eq_true_eq] at c2); (try simp only [decide_eq_false_iff_not] at c2)
    refine W.skip (WX.blockNormal (WX.next (W.region (WL.move rfl rfl (WL.add rfl rfl (by first | exact wI64 (by omega) | rfl) rfl ?_)))))
    refine WL.assign rfl rfl (WL.nil ?_)
    have hmf : ¬ ((el its i).seq ≤ n ∧ (el its i).mark = false) := fun h => by simp [h.2] at c2
    rw [if_neg hmf] at hnx
    rw [← hnx] at M ⊢
    refine WX.round ((i + 1, A1, c1')) envSub.sf ⟨M.sel Sel.a, (by dsimp only; omega)⟩ (by first | omega | (dsimp only; omega))
  ·refine WL.off rfl rfl rfl rfl (WL.off rfl rfl rfl rfl (WL.off rfl rfl rfl rfl (WL.off rfl rfl rfl rfl (WL.off rfl rfl rfl rfl (WL.off rfl rfl rfl rfl (WL.pickF rfl rfl rfl (WL.nil (WX.next (W.sub [(0, _), (1, _), (5, _), (6, _), (27, _)] (.cons rfl (.cons rfl (.cons rfl (.cons rfl (.cons rfl .nil))))) (W.condF rfl (W.skip (WX.blockNormal (WX.next (W.region (WL.move rfl rfl (WL.add rfl rfl (by first | exact wI64 (by omega) | rfl) rfl ?_))))))))))))))))
   refine WL.assign rfl rfl (WL.nil ?_)
   have hmf : ¬ ((el its i).seq ≤ n ∧ (el its i).mark = false) := fun h => by have := h.1; omega
   rw [if_neg hmf] at hnx
   rw [← hnx] at M ⊢
   refine WX.round ((i + 1, A1, c1')) envSub.sf ⟨M.sel Sel.a, (by dsimp only; omega)⟩ (by first | omega | (dsimp only; omega))
 ·refine W.exit (WX.thenExit (WX.thenExit (WX.blockHere (WX.next (W.seq (W.region (WL.move rfl rfl (WL.assign rfl rfl (WL.nil (WX.next (W.sub [(4, _)] (.cons rfl .nil) (W.ret (WX.ret1 rfl rfl ?_)))))))))))))
  have hie : i = its.length := by omega
  subst hie
  rw [List.take_length] at M ⊢
  exact ⟨A1, c1', rfl, M.sel Sel.a⟩
end
theorem keys6_at {k : Nat} (h : k < 6) : [107, UInt8.ofNat (48 + k)] ∈ keys6 := by
 have : k = 0 ∨ k = 1 ∨ k = 2 ∨ k = 3 ∨ k = 4 ∨ k = 5 := by omega
 rcases this with rfl | rfl | rfl | rfl | rfl | rfl <;> decide
theorem tmod6 {z : Int} {m : Nat} (h : z = (m : Int)) : z.tmod 6 = ((m % 6 : Nat) : Int) := by
 subst h
 rfl
theorem digit6 {k : Nat} (h : k < 6) : IntKind.u8.wrap (48 + (k : Int)) = ((UInt8.ofNat (48 + k)).toNat : Int) := by
 have e : (UInt8.ofNat (48 + k)).toNat = 48 + k := by rw [UInt8.toNat_ofNat', Nat.mod_eq_of_lt (by omega)]
 rw [e, wU8 (by omega)]
 push_cast
 rfl
set_option maxRecDepth 10000 in
set_option maxHeartbeats 2000000 in
theorem tame_ok (c : Cg) (hk : c.key.length ≤ maxLen) (w0 : World) : Fn Tryz.prog 19 [.agg #[str c.key, str c.value, .bool c.gone]] w0 fun v w' => ∃ c' : Cg, c'.tame ∧ v = .agg #[str c'.key, str c'.value, .bool c'.gone] ∧ Mem w0 w' [] := by
 have M := Mem.refl w0
 obtain ⟨w, hw⟩ : ∃ w, w = w0 := ⟨w0, rfl⟩
 refine Fn.enter Tryz.func19 rfl Tryz.ntmps19 rfl (W.sub [(0, _)] (.cons rfl .nil) (W.seq (W.region (WL.box rfl M rfl ?_))))
 intro g0_0 w M
 try simp only [Value.cells] at M
 try simp only [List.toList_toArray] at M
 refine WL.alloc Tryz.zeroValue63 M rfl ?_
 intro g0_1 w M
 try simp only [Value.cells] at M
 try simp only [List.toList_toArray] at M
 refine WL.nil (WX.next (W.sub [(1, _), (2, _)] (.cons rfl (.cons rfl .nil)) (W.seq (W.region (WL.assign rfl rfl (WL.nil (WX.next (W.sub [(1, _), (2, _), (3, _)] (.cons rfl (.cons rfl (.cons rfl .nil))) (W.seq (W.seq (W.region (WL.assign rfl rfl (WL.nil (WX.next (W.sub [(1, _), (2, _), (3, _), (4, _)] (.cons rfl (.cons rfl (.cons rfl (.cons rfl .nil)))) (W.block (W.loop (ι := Nat × Nat) (fun z => [(1, .pointer (some ⟨g0_0, 0, none⟩)), (2, .pointer (some ⟨g0_1, 0, none⟩)), (3, .int .i64 (z.2 : Int)), (4, .int .i64 (z.1 : Int))]) (fun zz w => Mem w0 w ((fun z => [Asr.row g0_0 63 [str c.key, str c.value, .bool c.gone], Asr.row g0_1 63 [str [], str [], .bool false]]) zz) ∧ (fun z => z.1 ≤ c.key.length ∧ z.2 < 6) zz) (fun z => c.key.length - z.1) ((0, 0)) envSub.sf ⟨M.sel Sel.a, ⟨Nat.zero_le _, by decide⟩⟩ ?_)))))))))))))))))
 clear M; rintro (⟨i, k⟩) w ⟨M, ⟨hi, hk6⟩⟩; dsimp only at M hi hk6 ⊢
 refine W.sub [(1, _), (2, _), (3, _), (4, _)] (.cons rfl (.cons rfl (.cons rfl (.cons rfl .nil)))) (W.seq (W.seq (W.region (WL.move rfl rfl (WL.fieldR (off := 0) Tryz.underlying63 rfl rfl Tryz.sizeOf9 rfl rfl rfl ?_)))))
 refine WL.loadR Tryz.isAgg9 rfl M Has.a rfl rfl (WL.lenS Tryz.underlying9 rfl rfl (WL.lss rfl rfl rfl (WL.nil (WX.next (W.sub [(1, _), (2, _), (3, _), (4, _), (10, _)] (.cons rfl (.cons rfl (.cons rfl (.cons rfl (.cons rfl .nil))))) (W.ite rfl (fun c0 => ?_) (fun c0 => ?_)))))))
 ·have hil : i < c.key.length := by omega
  have hb9 := (el c.key i).toNat_lt
  simp only [maxLen] at hk
  refine W.skip (WX.next (W.seq (W.block (W.region (WL.move rfl rfl (WL.mul rfl rfl (by first | exact wI64 (by omega) | rfl) rfl ?_))))))
  refine WL.fieldR (off := 0) Tryz.underlying63 rfl rfl Tryz.sizeOf9 rfl rfl rfl ?_
  refine WL.loadR Tryz.isAgg9 rfl M Has.a rfl rfl (WL.move rfl rfl ?_)
  refine WL.indexS (b := el c.key i) Tryz.underlying9 rfl rfl (by omega) (by rw [Int.toNat_natCast]; simp [el, hil]) rfl ?_
  refine WL.conv Tryz.underlying5 Tryz.underlying3 rfl (by first | exact wI64 (by omega) | rfl) rfl ?_
  refine WL.add rfl rfl (by first | exact wI64 (by omega) | rfl) rfl ?_
  refine WL.rem rfl rfl (by omega) (tmod6 (m := k * 3 + (el c.key i).toNat) (by push_cast; rfl)) rfl ?_
  refine WL.assign rfl rfl (WL.nil (WX.blockNormal (WX.next (W.sub [(1, _), (2, _), (3, _), (4, _)] (.cons rfl (.cons rfl (.cons rfl (.cons rfl .nil)))) (W.region (WL.move rfl rfl (WL.add rfl rfl (by first | exact wI64 (by omega) | rfl) rfl ?_)))))))
  refine WL.assign rfl rfl (WL.nil ?_)
  refine WX.round ((i + 1, (k * 3 + (el c.key i).toNat) % 6)) envSub.sf ⟨M.sel Sel.a, ⟨by dsimp only; omega, Nat.mod_lt _ (by decide)⟩⟩ (by first | omega | (dsimp only; omega))
 ·refine W.exit (WX.thenExit (WX.thenExit (WX.blockHere (WX.next (W.seq (W.region (WL.move rfl rfl (WL.conv Tryz.underlying3 Tryz.underlying5 rfl (by first | exact wU8 (by omega) | exact mU8 _ | rfl) rfl ?_))))))))
  refine WL.add rfl rfl (digit6 hk6) rfl ?_
  refine WL.buildB (es := [_]) Tryz.elem5 M rfl rfl (by (first | apply BytesOf.nat | apply BytesOf.any (by omega)); exact BytesOf.nil) (by rfl) rfl rfl ?_
  intro g6_3 w M
  refine WL.toStr Tryz.underlying84 Tryz.underlying5 Tryz.underlying9 rfl (by first | first | with_reducible assumption | with_reducible exact RdB.mem (by with_reducible assumption) M | exact M.rdB Has.a | exact RdH.at (by assumption) (M.sel Sel.a) | exact M.rdLit' Has.a | exact M.rdLent Has.a | exact RdB.nil _ _ | exact RdB.sub (by first | with_reducible assumption | with_reducible exact RdB.mem (by with_reducible assumption) M | exact M.rdB Has.a | exact RdH.at (by assumption) (M.sel Sel.a) | exact M.rdLit' Has.a | exact M.rdLent Has.a | exact RdB.nil _ _) (by omega) (by omega) | exact RdB.pre' (by first | with_reducible assumption | with_reducible exact RdB.mem (by with_reducible assumption) M | exact M.rdB Has.a | exact RdH.at (by assumption) (M.sel Sel.a) | exact M.rdLit' Has.a | exact M.rdLent Has.a | exact RdB.nil _ _) (by omega) | exact RdB.suf (by first | with_reducible assumption | with_reducible exact RdB.mem (by with_reducible assumption) M | exact M.rdB Has.a | exact RdH.at (by assumption) (M.sel Sel.a) | exact M.rdLit' Has.a | exact M.rdLent Has.a | exact RdB.nil _ _) (by omega)) rfl rfl ?_
  refine WL.addS (l := [107]) (m := [UInt8.ofNat (48 + k)]) rfl rfl (by simp) rfl ?_
  refine WL.fieldR (off := 2) Tryz.underlying63 rfl rfl Tryz.sizeOf4 rfl rfl rfl ?_
  refine WL.loadR Tryz.isAgg4 rfl M Has.a rfl rfl (WL.buildP (places := #[(0, 1), (1, 1), (2, 1)]) Tryz.underlying63 Tryz.zeroValue63 (fun _ => by simp [Tryz.sizeOf9, Tryz.sizeOf9, Tryz.sizeOf4]) rfl (by repeat (first | exact Puts.nil | exact SetAt.zero | apply SetAt.succ | apply Puts.cons rfl rfl)) rfl ?_)
  refine WL.alloc Tryz.zeroValue63 M rfl ?_
  intro g6_9 w M
  try simp only [Value.cells] at M
  try simp only [List.toList_toArray] at M
  refine WL.storeWA Tryz.sizeOf63 rfl rfl (by repeat (first | exact oneNil | refine oneCons rfl ?_)) rfl rfl M Upd.a ?_
  intro w M
  refine WL.nil (WX.next (W.sub [(1, _), (2, _), (5, _)] (.cons rfl (.cons rfl (.cons rfl .nil))) (W.seq (W.seq (W.region (WL.fieldR (off := 2) Tryz.underlying63 rfl rfl Tryz.sizeOf4 rfl rfl rfl ?_))))))
  refine WL.loadR Tryz.isAgg4 rfl M Has.a rfl rfl (WL.not rfl rfl (WL.nil (WX.next (W.sub [(1, _), (2, _), (5, _), (33, _)] (.cons rfl (.cons rfl (.cons rfl (.cons rfl .nil)))) (W.cond rfl (fun c1 => ?_) (fun c1 => ?_))))))
  ·(try simp only [Bool.not_eq_true'] at c1); (try simp only [Bool.not_eq_false'] at c1); (try simp only [decide_eq_true_eq] at c1); (try simp only [decide_eq_false_iff_not] at c1)
   refine W.region (WL.fieldR (off := 1) Tryz.underlying63 rfl rfl Tryz.sizeOf9 rfl rfl rfl ?_)
   refine WL.loadR Tryz.isAgg9 rfl M Has.a rfl rfl (WL.fieldR (off := 1) Tryz.underlying63 rfl rfl Tryz.sizeOf9 rfl rfl rfl ?_)
   refine WL.loadR Tryz.isAgg9 rfl M Has.a rfl rfl (WL.lenS Tryz.underlying9 rfl rfl (WL.min rfl rfl rfl (WL.sliceSH (min c.value.length 20) Tryz.underlying9 rfl rfl (by omega) (Nat.min_le_left _ _) rfl ?_)))
   refine WL.fieldR (off := 1) Tryz.underlying63 rfl rfl Tryz.sizeOf9 rfl rfl rfl ?_
   refine WL.storeR Tryz.sizeOf9 rfl rfl rfl M Has.a (by repeat (first | exact SetAt.zero | apply SetAt.succ)) Upd.a ?_
   intro w M
   refine WL.nil (WX.next (W.sub [(2, _), (5, _)] (.cons rfl (.cons rfl .nil)) (W.seq (W.region (WL.loadW Tryz.isAgg63 Tryz.sizeOf63 rfl M Has.a rfl rfl (WL.storeWA Tryz.sizeOf63 rfl rfl (by repeat (first | exact oneNil | refine oneCons rfl ?_)) rfl rfl M Upd.a ?_))))))
   intro w M
   refine WL.nil (WX.next (W.sub [(2, _)] (.cons rfl .nil) (W.ret (WX.retC1 (cs := [_, _, _]) rfl rfl Tryz.isAgg63 (by exact Tryz.sizeOf63) (M.cellsH Has.a) ?_))))
   have hg : c.gone = false := by simpa using c1
   exact ⟨⟨[107, UInt8.ofNat (48 + k)], c.value.take (min c.value.length 20), c.gone⟩, ⟨keys6_at hk6, by rw [List.length_take]; omega, fun h => by rw [hg] at h; cases h⟩, rfl, M.sel Sel.a⟩
  ·(try simp only [Bool.not_eq_true'] at c1); (try simp only [Bool.not_eq_false'] at c1); (try simp only [decide_eq_true_eq] at c1); (try simp only [decide_eq_false_iff_not] at c1)
   refine W.skip (WX.next (W.seq (W.region (WL.loadW Tryz.isAgg63 Tryz.sizeOf63 rfl M Has.a rfl rfl (WL.storeWA Tryz.sizeOf63 rfl rfl (by repeat (first | exact oneNil | refine oneCons rfl ?_)) rfl rfl M Upd.a ?_)))))
   intro w M
   refine WL.nil (WX.next (W.sub [(2, _)] (.cons rfl .nil) (W.ret (WX.retC1 (cs := [_, _, _]) rfl rfl Tryz.isAgg63 (by exact Tryz.sizeOf63) (M.cellsH Has.a) ?_))))
   exact ⟨⟨[107, UInt8.ofNat (48 + k)], [], c.gone⟩, ⟨keys6_at hk6, by simp, fun _ => rfl⟩, rfl, M.sel Sel.a⟩
end Go.Proofs.YtlminileigfkcaaGreat
namespace Go.Proofs.YtlminileigfkcaaGreat
open Go Go.RowKit Go.Lib Bin
def boolE : Enc Bool := ⟨4, 1, fun z => [.bool z], fun _ => rfl, (fun a v hv => by
 rw [List.mem_singleton] at hv
 subst hv
 rfl), by decide⟩
/-- A cut's batch. -/
def CutB (bt : List Cg) : Prop := ∃ v t, bt = ⟨[35], v, false⟩ :: t ∧ v.length ≤ 10 ∧ t.length = 6 ∧ ∀ c ∈ t, c.tame
theorem CutB.right {bt : List Cg} (h : CutB bt) : rightB bt := by
 obtain ⟨v, t, rfl, h1, h2, h3⟩ := h
 refine ⟨by rw [List.length_cons]; omega, fun c hc => ?_⟩
 rcases List.mem_cons.1 hc with rfl | hc
 ·exact ⟨by simp, by simp, by dsimp only; omega, by simp⟩
 ·exact (h3 c hc).right
theorem encC_le {c : Cg} (hk : c.key.length ≤ 2) (hv : c.value.length ≤ 20) : (encC c).length ≤ 34 := by
 unfold encC txtB
 have h1 := put_len10 (n := c.key.length) (by omega)
 have h2 := put_len10 (n := c.value.length) (by omega)
 have e1 : (put c.key.length).length = 1 := by
  have : c.key.length = 0 ∨ c.key.length = 1 ∨ c.key.length = 2 := by omega
  rcases this with h | h | h <;> rw [h] <;> rfl
 split
 ·simp only [List.length_append, List.length_singleton]; omega
 ·simp only [List.length_append, List.length_cons]; omega
theorem encC_all : ∀ (t : List Cg), (∀ c ∈ t, (encC c).length ≤ 34) → (t.flatMap encC).length ≤ 34 * t.length
 | [], _ => by simp
 | c :: t, h => by
   have h1 := encC_all t (fun x hx => h x (List.mem_cons_of_mem _ hx))
   have h2 := h c (List.mem_cons_self ..)
   rw [List.flatMap_cons, List.length_append, List.length_cons]
   omega
theorem CutB.len {bt : List Cg} (h : CutB bt) : (encB bt).length ≤ 248 := by
 obtain ⟨v, t, rfl, h1, h2, h3⟩ := h
 have h4 := encC_all (⟨[35], v, false⟩ :: t) (fun c hc => by
  rcases List.mem_cons.1 hc with rfl | hc
  ·exact encC_le (by simp) (by dsimp only; omega)
  ·have := keys6_len (h3 c hc).1
   exact encC_le (by omega) (h3 c hc).2.1)
 have h5 := put_len10 (n := (⟨[35], v, false⟩ :: t : List Cg).length) (by rw [List.length_cons]; omega)
 unfold encB
 rw [List.length_append]
 rw [List.length_cons, h2] at h4 h5
 rw [List.length_cons, h2]
 omega
theorem CutB.keys {bt : List Cg} (h : CutB bt) : ∀ c ∈ bt, c.key ∈ [35] :: keys6 := by
 obtain ⟨v, t, rfl, h1, h2, h3⟩ := h
 intro c hc
 rcases List.mem_cons.1 hc with rfl | hc
 ·exact List.mem_cons_self ..
 ·exact List.mem_cons_of_mem _ (h3 c hc).1
theorem ItsOk.snoc {l : List It} (h : ItsOk l) (h2 : l.length < 200) {m : Bool} {c : Cg} (ho : It.ok ⟨l.length + 1, m, c⟩) : ItsOk (l ++ [(⟨l.length + 1, m, c⟩ : It)]) := by
 refine ⟨by rw [List.length_append, List.length_singleton]; omega, fun i hi => ?_⟩
 rw [List.length_append, List.length_singleton] at hi
 rcases Nat.lt_or_ge i l.length with hl | hl
 ·rw [el_append_left hl]
  exact h.each i hl
 ·obtain rfl : i = l.length := by omega
  rw [el_append_right (Nat.le_refl _), Nat.sub_self]
  exact ⟨rfl, ho⟩
section
variable (w0 w : World) (L : List Asr) {A : Option Addr} {ca cut : Nat} {ps : List Pr}
set_option maxRecDepth 10000 in
set_option maxHeartbeats 4000000 in
theorem batch_ok (hp : ∀ p ∈ ps, p.1 ∈ keys6 ∧ p.2.length ≤ 20) (hpl : ps.length ≤ 12) (hcut : cut ≤ 200) (M : Mem w0 w (Asr.lst pairE A ca ps :: L)) :
 Fn Tryz.prog 32 [.slice A ps.length ca, .int .u64 (cut : Int)] w fun v w' => ∃ A' c' bt, v = .slice A' (List.length bt) c' ∧ CutB bt ∧ Mem w0 w' (Asr.lst cgE A' c' bt :: L) := by
 refine Fn.enter Tryz.func32 rfl Tryz.ntmps32 rfl (W.sub [(0, _), (1, _)] (.cons rfl (.cons rfl .nil)) (W.seq (W.region (WL.assign rfl rfl (WL.nil (WX.next (W.sub [(0, _), (1, _)] (.cons rfl (.cons rfl .nil)) (W.seq (W.region (WL.move rfl rfl (WL.call Tryz.call68 rfl (PutUint_ok cut (by omega) _) rfl ?_)))))))))))
 rintro _ w ⟨Au, cu, rfl, m⟩
 replace M := M.call1 m; clear m
 refine WL.toStr Tryz.underlying84 Tryz.underlying5 Tryz.underlying9 rfl (by first | first | with_reducible assumption | with_reducible exact RdB.mem (by with_reducible assumption) M | exact M.rdB Has.a | exact RdH.at (by assumption) (M.sel Sel.a) | exact M.rdLit' Has.a | exact M.rdLent Has.a | exact RdB.nil _ _ | exact RdB.sub (by first | with_reducible assumption | with_reducible exact RdB.mem (by with_reducible assumption) M | exact M.rdB Has.a | exact RdH.at (by assumption) (M.sel Sel.a) | exact M.rdLit' Has.a | exact M.rdLent Has.a | exact RdB.nil _ _) (by omega) (by omega) | exact RdB.pre' (by first | with_reducible assumption | with_reducible exact RdB.mem (by with_reducible assumption) M | exact M.rdB Has.a | exact RdH.at (by assumption) (M.sel Sel.a) | exact M.rdLit' Has.a | exact M.rdLent Has.a | exact RdB.nil _ _) (by omega) | exact RdB.suf (by first | with_reducible assumption | with_reducible exact RdB.mem (by with_reducible assumption) M | exact M.rdB Has.a | exact RdH.at (by assumption) (M.sel Sel.a) | exact M.rdLit' Has.a | exact M.rdLent Has.a | exact RdB.nil _ _) (by omega)) rfl rfl ?_
 refine WL.buildP (places := #[(0, 1), (1, 1), (2, 1)]) Tryz.underlying63 Tryz.zeroValue63 (fun _ => by simp [Tryz.sizeOf9, Tryz.sizeOf9, Tryz.sizeOf4]) rfl (by repeat (first | exact Puts.nil | exact SetAt.zero | apply SetAt.succ | apply Puts.cons rfl rfl)) rfl ?_
 refine WL.buildL (E := cgE) (l := [(⟨[35], put cut, false⟩ : Cg)]) Tryz.elem63 M rfl rfl rfl rfl rfl rfl ?_
 intro g1_4 w M
 refine WL.assign rfl rfl (WL.nil (WX.next (W.sub [(0, _), (5, _)] (.cons rfl (.cons rfl .nil)) (W.seq (W.seq (W.region (WL.assign rfl rfl (WL.nil (WX.next (W.sub [(0, _), (5, _), (6, _)] (.cons rfl (.cons rfl (.cons rfl .nil))) (W.block (W.loop (ι := Nat × Option Addr × Nat × List Cg) (fun z => [(0, .slice A ps.length ca), (5, .slice z.2.1 (z.2.2.2.length + 1) z.2.2.1), (6, .int .i64 (z.1 : Int))]) (fun zz w => Mem w0 w ((fun z => Asr.lst cgE z.2.1 z.2.2.1 (⟨[35], put cut, false⟩ :: z.2.2.2) :: Asr.lst pairE A ca ps :: L) zz) ∧ (fun z => z.1 ≤ 6 ∧ z.2.2.2.length = z.1 ∧ ∀ c ∈ z.2.2.2, c.tame) zz) (fun z => 6 - z.1) ((0, some ⟨g1_4, 0, none⟩, 1, [])) envSub.sf ⟨M.sel Sel.a, ⟨Nat.zero_le _, rfl, fun c hc => by cases hc⟩⟩ ?_))))))))))))
 clear M; rintro (⟨k, A1, c1', t⟩) w ⟨M, ⟨hk, htl, htm⟩⟩; dsimp only at M hk htl htm ⊢
 refine W.sub [(0, _), (5, _), (6, _)] (.cons rfl (.cons rfl (.cons rfl .nil))) (W.seq (W.seq (W.region (WL.move rfl rfl (WL.lss rfl rfl rfl (WL.nil (WX.next (W.sub [(0, _), (5, _), (6, _), (15, _)] (.cons rfl (.cons rfl (.cons rfl (.cons rfl .nil)))) (W.ite rfl (fun c0 => ?_) (fun c0 => ?_))))))))))
 ·have hk6 : k < 6 := by omega
  refine W.skip (WX.next (W.seq (W.block (W.seq (W.region (WL.move rfl rfl (WL.conv Tryz.underlying3 Tryz.underlying5 rfl (by first | exact wU8 (by omega) | exact mU8 _ | rfl) rfl ?_)))))))
  refine WL.add rfl rfl (digit6 hk6) rfl ?_
  refine WL.buildB (es := [_]) Tryz.elem5 M rfl rfl (by (first | apply BytesOf.nat | apply BytesOf.any (by omega)); exact BytesOf.nil) (by rfl) rfl rfl ?_
  intro g5_3 w M
  refine WL.toStr Tryz.underlying84 Tryz.underlying5 Tryz.underlying9 rfl (by first | first | with_reducible assumption | with_reducible exact RdB.mem (by with_reducible assumption) M | exact M.rdB Has.a | exact RdH.at (by assumption) (M.sel Sel.a) | exact M.rdLit' Has.a | exact M.rdLent Has.a | exact RdB.nil _ _ | exact RdB.sub (by first | with_reducible assumption | with_reducible exact RdB.mem (by with_reducible assumption) M | exact M.rdB Has.a | exact RdH.at (by assumption) (M.sel Sel.a) | exact M.rdLit' Has.a | exact M.rdLent Has.a | exact RdB.nil _ _) (by omega) (by omega) | exact RdB.pre' (by first | with_reducible assumption | with_reducible exact RdB.mem (by with_reducible assumption) M | exact M.rdB Has.a | exact RdH.at (by assumption) (M.sel Sel.a) | exact M.rdLit' Has.a | exact M.rdLent Has.a | exact RdB.nil _ _) (by omega) | exact RdB.suf (by first | with_reducible assumption | with_reducible exact RdB.mem (by with_reducible assumption) M | exact M.rdB Has.a | exact RdH.at (by assumption) (M.sel Sel.a) | exact M.rdLit' Has.a | exact M.rdLent Has.a | exact RdB.nil _ _) (by omega)) rfl rfl ?_
  refine WL.addS (l := [107]) (m := [UInt8.ofNat (48 + k)]) rfl rfl (by simp) rfl ?_
  refine WL.buildP (places := #[(0, 1), (1, 1), (2, 1)]) Tryz.underlying63 Tryz.zeroValue63 (fun _ => by simp [Tryz.sizeOf9, Tryz.sizeOf9, Tryz.sizeOf4]) rfl (by repeat (first | exact Puts.nil | exact SetAt.zero | apply SetAt.succ | apply Puts.cons rfl rfl)) rfl ?_
  refine WL.alloc Tryz.zeroValue63 M rfl ?_
  intro g5_7 w M
  try simp only [Value.cells] at M
  try simp only [List.toList_toArray] at M
  refine WL.storeWA Tryz.sizeOf63 rfl rfl (by repeat (first | exact oneNil | refine oneCons rfl ?_)) rfl rfl M Upd.a ?_
  intro w M
  refine WL.nil (WX.next (W.sub [(0, _), (5, _), (6, _), (7, _)] (.cons rfl (.cons rfl (.cons rfl (.cons rfl .nil)))) (W.seq (W.seq (W.region (WL.assign rfl rfl (WL.nil (WX.next (W.sub [(0, _), (5, _), (6, _), (7, _), (8, _)] (.cons rfl (.cons rfl (.cons rfl (.cons rfl (.cons rfl .nil))))) (W.block (W.loop (ι := Nat × List UInt8 × Bool) (fun z => [(0, .slice A ps.length ca), (5, .slice A1 (t.length + 1) c1'), (6, .int .i64 (k : Int)), (7, .pointer (some ⟨g5_7, 0, none⟩)), (8, .int .i64 (z.1 : Int))]) (fun zz w => Mem w0 w ((fun z => Asr.row g5_7 63 [str [107, UInt8.ofNat (48 + k)], str z.2.1, .bool z.2.2] :: Asr.lst cgE A1 c1' (⟨[35], put cut, false⟩ :: t) :: Asr.lst pairE A ca ps :: L) zz) ∧ (fun z => z.1 ≤ ps.length ∧ z.2.1.length ≤ 20 ∧ (z.2.2 = true → z.2.1 = [])) zz) (fun z => ps.length - z.1) ((0, [], true)) envSub.sf ⟨M.sel Sel.a, ⟨Nat.zero_le _, by simp, fun _ => rfl⟩⟩ ?_)))))))))))
  clear M; rintro (⟨j, v, gn⟩) w ⟨M, ⟨hj, hv, hg⟩⟩; dsimp only at M hj hv hg ⊢
  refine W.sub [(0, _), (5, _), (6, _), (7, _), (8, _)] (.cons rfl (.cons rfl (.cons rfl (.cons rfl (.cons rfl .nil))))) (W.seq (W.seq (W.region (WL.move rfl rfl (WL.move rfl rfl (WL.len Tryz.underlying53 rfl rfl (WL.lss rfl rfl rfl (WL.nil (WX.next (W.sub [(0, _), (5, _), (6, _), (7, _), (8, _), (28, _)] (.cons rfl (.cons rfl (.cons rfl (.cons rfl (.cons rfl (.cons rfl .nil)))))) (W.ite rfl (fun c1 => ?_) (fun c1 => ?_))))))))))))
  ·have hjl : j < ps.length := by omega
   have hpj := hp _ (el_mem hjl)
   refine W.skip (WX.next (W.seq (W.block (W.seq (W.drawM ([Asr.row g5_7 63 [str [107, UInt8.ofNat (48 + k)], str v, .bool gn], Asr.lst pairE A ca ps]) (by kernel_rfl) (fun j => [4, 6].contains j) M Sel.a ?_)))))
   clear M; intro M
   apply DG.pure_ [0, 1, 2, 3, 5] 3 rfl (by kernel_rfl) (by kernel_rfl)
   ·intro w
    refine WL.move rfl rfl (WL.move rfl rfl (WL.idxA Tryz.underlying53 Tryz.sizeOf124 rfl rfl (RdL.isSome (E := pairE) (by first | with_reducible assumption | with_reducible exact RdL.mem (by with_reducible assumption) M | exact M.rdL Has.a | exact RdLH.at (by assumption) (M.sel Sel.a) | exact RdL.nil _ _ _) (by omega)) (by omega) (by omega) (by first | exact rfl | exact (Int.toNat_of_nonneg (by omega)).symm) rfl ?_))
    refine WL.fieldA (off := 0) Tryz.underlying124 rfl rfl Tryz.sizeOf9 rfl rfl rfl ?_
    refine WL.fieldR (off := 0) Tryz.underlying63 rfl rfl Tryz.sizeOf9 rfl rfl rfl ?_
    exact Chain.end_ rfl
   apply DG.take [4, 6, 7] 0 rfl (by kernel_rfl) (by kernel_rfl) (M.sel Sel.a)
   ·intro w M
    refine WL.loadE (E := pairE) Tryz.isAgg9 rfl (by first | with_reducible assumption | with_reducible exact RdL.mem (by with_reducible assumption) M | exact M.rdL Has.a | exact RdLH.at (by assumption) (M.sel Sel.a) | exact RdL.nil _ _ _) (by omega) rfl rfl ?_
    refine WL.loadR Tryz.isAgg9 rfl M Has.a rfl rfl (WL.eqS rfl rfl rfl ?_)
    exact Chain.end_ rfl
   refine DG.end_ (by kernel_rfl) ?_
   refine WX.next (W.sub [(0, _), (5, _), (6, _), (7, _), (8, _), (38, _)] (.cons rfl (.cons rfl (.cons rfl (.cons rfl (.cons rfl (.cons rfl .nil)))))) (W.ite rfl (fun c2 => ?_) (fun c2 => ?_)))
   ·refine W.seq (W.region (WL.move rfl rfl (WL.move rfl rfl (WL.idxA Tryz.underlying53 Tryz.sizeOf124 rfl rfl (RdL.isSome (E := pairE) (by first | with_reducible assumption | with_reducible exact RdL.mem (by with_reducible assumption) M | exact M.rdL Has.a | exact RdLH.at (by assumption) (M.sel Sel.a) | exact RdL.nil _ _ _) (by omega)) (by omega) (by omega) (by first | exact rfl | exact (Int.toNat_of_nonneg (by omega)).symm) rfl ?_))))
    refine WL.fieldA (off := 1) Tryz.underlying124 rfl rfl Tryz.sizeOf9 rfl rfl rfl ?_
    refine WL.loadE (E := pairE) Tryz.isAgg9 rfl (by first | with_reducible assumption | with_reducible exact RdL.mem (by with_reducible assumption) M | exact M.rdL Has.a | exact RdLH.at (by assumption) (M.sel Sel.a) | exact RdL.nil _ _ _) (by omega) rfl rfl ?_
    refine WL.fieldR (off := 1) Tryz.underlying63 rfl rfl Tryz.sizeOf9 rfl rfl rfl ?_
    refine WL.storeR Tryz.sizeOf9 rfl rfl rfl M Has.a (by repeat (first | exact SetAt.zero | apply SetAt.succ)) Upd.a ?_
    intro w M
    refine WL.nil (WX.next (W.sub [(0, _), (5, _), (6, _), (7, _), (8, _)] (.cons rfl (.cons rfl (.cons rfl (.cons rfl (.cons rfl .nil))))) (W.region (WL.fieldR (off := 2) Tryz.underlying63 rfl rfl Tryz.sizeOf4 rfl rfl rfl ?_))))
    refine WL.storeR Tryz.sizeOf4 rfl rfl rfl M Has.a (by repeat (first | exact SetAt.zero | apply SetAt.succ)) Upd.a ?_
    intro w M
    refine WL.nil (WX.blockNormal (WX.next (W.sub [(0, _), (5, _), (6, _), (7, _), (8, _)] (.cons rfl (.cons rfl (.cons rfl (.cons rfl (.cons rfl .nil))))) (W.region (WL.move rfl rfl (WL.add rfl rfl (by first | exact wI64 (by omega) | rfl) rfl ?_))))))
    refine WL.assign rfl rfl (WL.nil ?_)
    refine WX.round ((j + 1, (el ps j).2, false)) envSub.sf ⟨M.sel Sel.a, ⟨by dsimp only; omega, hpj.2, fun h => by cases h⟩⟩ (by first | omega | (dsimp only; omega))
   ·refine W.skip (WX.blockNormal (WX.next (W.region (WL.move rfl rfl (WL.add rfl rfl (by first | exact wI64 (by omega) | rfl) rfl ?_)))))
    refine WL.assign rfl rfl (WL.nil ?_)
    refine WX.round ((j + 1, v, gn)) envSub.sf ⟨M.sel Sel.a, ⟨by dsimp only; omega, hv, hg⟩⟩ (by first | omega | (dsimp only; omega))
  ·refine W.exit (WX.thenExit (WX.thenExit (WX.blockHere (WX.next (W.region (WL.move rfl rfl (WL.loadW Tryz.isAgg63 Tryz.sizeOf63 rfl M Has.a rfl rfl (WL.buildL (E := cgE) (l := [(⟨[107, UInt8.ofNat (48 + k)], v, gn⟩ : Cg)]) Tryz.elem63 M rfl rfl rfl rfl rfl rfl ?_))))))))
   intro g12_2 w M
   refine WL.appendL (E := cgE) Tryz.elem63 rfl rfl M Del.a (by first | with_reducible assumption | with_reducible exact RdL.mem (by with_reducible assumption) M | exact M.rdL Has.a | exact RdLH.at (by assumption) (M.sel Sel.a) | exact RdL.nil _ _ _) rfl rfl (by first | omega | (simp; done) | (simp; omega)) (by first | (simp only [maxLen]; omega) | (simp [maxLen]; done) | (simp [maxLen]; omega)) rfl ?_
   intro A12_3 cap12_3 w M
   refine WL.assign rfl rfl (WL.nil (WX.blockNormal (WX.next (W.sub [(0, _), (5, _), (6, _)] (.cons rfl (.cons rfl (.cons rfl .nil))) (W.region (WL.move rfl rfl (WL.add rfl rfl (by first | exact wI64 (by omega) | rfl) rfl ?_)))))))
   refine WL.assign rfl rfl (WL.nil ?_)
   skip
   have htm2 : ∀ c ∈ t ++ [(⟨[107, UInt8.ofNat (48 + k)], v, gn⟩ : Cg)], c.tame := fun c hc => by
    rcases List.mem_append.1 hc with h | h
    ·exact htm c h
    ·rw [List.mem_singleton] at h
     subst h
     exact ⟨keys6_at hk6, hv, hg⟩
   refine WX.round ((k + 1, A12_3, cap12_3, t ++ [(⟨[107, UInt8.ofNat (48 + k)], v, gn⟩ : Cg)])) envSub.sf ⟨M.sel Sel.a, ⟨by dsimp only; omega, by dsimp only; rw [List.length_append, htl]; rfl, htm2⟩⟩ (by first | omega | (dsimp only; omega))
 ·refine W.exit (WX.thenExit (WX.thenExit (WX.blockHere (WX.next (W.seq (W.region (WL.move rfl rfl (WL.assign rfl rfl (WL.nil (WX.next (W.sub [(4, _)] (.cons rfl .nil) (W.ret (WX.ret1 rfl rfl ?_)))))))))))))
  exact ⟨A1, c1', ⟨[35], put cut, false⟩ :: t, rfl, ⟨put cut, t, rfl, put_len10 (by omega), by omega, htm⟩, M.sel Sel.a⟩
end
set_option maxRecDepth 10000 in
set_option maxHeartbeats 4000000 in
theorem sown_ok (A0 : Option Addr) (k0 : Nat) (l : List Cg) (A1 : Option Addr) (k1 : Nat) (mk : List Bool) (w0 : World) (h0 : RdL w0 cgE A0 k0 l) (h1 : RdL w0 boolE A1 k1 mk) (hq : ∀ c ∈ l, c.key.length ≤ maxLen) (hm0 : k0 ≤ maxLen) (hm1 : k1 ≤ maxLen) :
 Fn Tryz.prog 4 [.slice A0 l.length k0, .slice A1 mk.length k1] w0 fun v w' => ∃ (its : List It) (A : Option Addr) (c : Nat), v = .tuple #[.slice A its.length c, .bool true] ∧ ItsOk its ∧ Mem w0 w' [Asr.lst itE A c its] := by
 have M := Mem.refl w0
 obtain ⟨w, hw⟩ : ∃ w, w = w0 := ⟨w0, rfl⟩
 have hl0 : l.length ≤ maxLen := Nat.le_trans h0.le hm0
 have hl1 : mk.length ≤ maxLen := Nat.le_trans h1.le hm1
 unfold maxLen at hl0 hl1
 refine Fn.enter Tryz.func4 rfl Tryz.ntmps4 rfl (W.sub [(0, _), (1, _)] (.cons rfl (.cons rfl .nil)) (W.seq (W.region (WL.assign rfl rfl (WL.assign rfl rfl (WL.nil (WX.next (W.sub [(0, _), (1, _)] (.cons rfl (.cons rfl .nil)) (W.seq (W.region (WL.call Tryz.call17 rfl (newSource_ok _) rfl ?_)))))))))))
 rintro _ w ⟨gs, rfl, m⟩
 replace M := M.callN m; clear m
 refine WL.assign rfl rfl (WL.nil (WX.next (W.sub [(0, _), (1, _), (6, _)] (.cons rfl (.cons rfl (.cons rfl .nil))) (W.seq (W.seq (W.region (WL.move rfl rfl (WL.eqNilF Tryz.underlying58 rfl rfl rfl (WL.nil (WX.next (W.sub [(0, _), (1, _), (6, _), (13, _)] (.cons rfl (.cons rfl (.cons rfl (.cons rfl .nil)))) (W.condF rfl (W.skip (WX.next (W.seq (W.seq (W.region (WL.assign rfl rfl (WL.nil (WX.next (W.sub [(0, _), (1, _), (6, _), (7, _)] (.cons rfl (.cons rfl (.cons rfl (.cons rfl .nil)))) (W.block (W.loop (ι := Nat × Option Addr × Nat × List It) (fun z => [(0, .slice A0 l.length k0), (1, .slice A1 mk.length k1), (6, .pointer (some ⟨gs, 0, none⟩)), (7, .int .i64 (z.1 : Int))]) (fun zz w => Mem w0 w ((fun z => soRow gs z.2.1 z.2.2.2.length z.2.2.1 :: Asr.lst itE z.2.1 z.2.2.1 z.2.2.2 :: []) zz) ∧ (fun z => z.1 ≤ 40 ∧ z.1 ≤ l.length ∧ z.1 ≤ z.2.2.2.length ∧ z.2.2.2.length ≤ 2 * z.1 ∧ ItsOk z.2.2.2) zz) (fun z => 40 - z.1) ((0, none, 0, [])) envSub.sf ⟨M.sel Sel.a, ⟨Nat.zero_le _, Nat.zero_le _, Nat.zero_le _, Nat.zero_le _, ⟨Nat.zero_le _, fun i hi => absurd hi (Nat.not_lt_zero _)⟩⟩⟩ ?_)))))))))))))))))))))))
 clear M; rintro (⟨i, A2, k2, its⟩) w ⟨M, ⟨hi, hil, hin, hi2, hits⟩⟩; dsimp only at M hi hil hin hi2 hits ⊢
 refine W.sub [(0, _), (1, _), (6, _), (7, _)] (.cons rfl (.cons rfl (.cons rfl (.cons rfl .nil)))) (W.seq (W.seq (W.region (WL.move rfl rfl (WL.move rfl rfl (WL.len Tryz.underlying22 rfl rfl (WL.lss rfl rfl rfl (WL.moveIf rfl rfl (fun c1 => ?_) (fun c1 => ?_)))))))))
 ·refine WL.on rfl rfl (WL.move rfl rfl (WL.on rfl rfl (WL.lss rfl rfl rfl (WL.pickT rfl rfl rfl (WL.nil (WX.next (W.sub [(0, _), (1, _), (6, _), (7, _), (21, _)] (.cons rfl (.cons rfl (.cons rfl (.cons rfl (.cons rfl .nil))))) (W.ite rfl (fun c2 => ?_) (fun c2 => ?_)))))))))
  ·refine W.skip (WX.next (W.seq (W.block (W.seq (W.region (WL.move rfl rfl (WL.move rfl rfl (WL.move rfl rfl (WL.idxA Tryz.underlying22 Tryz.sizeOf63 rfl rfl (RdL.isSome (E := cgE) (by first | with_reducible assumption | with_reducible exact RdL.mem (by with_reducible assumption) M | exact M.rdL Has.a | exact RdLH.at (by assumption) (M.sel Sel.a) | exact RdL.nil _ _ _) (by omega)) (by omega) (by omega) (by first | exact rfl | exact (Int.toNat_of_nonneg (by omega)).symm) rfl ?_)))))))))
   refine WL.loadL (E := cgE) (cs := [_, _, _]) Tryz.isAgg63 Tryz.sizeOf63 rfl (by first | with_reducible assumption | with_reducible exact RdL.mem (by with_reducible assumption) M | exact M.rdL Has.a | exact RdLH.at (by assumption) (M.sel Sel.a) | exact RdL.nil _ _ _) rfl (by omega) rfl rfl ?_
   refine WL.call Tryz.call19 rfl (tame_ok (el l i) (hq _ (el_mem (by omega))) _) rfl ?_
   rintro _ w ⟨c', htm, rfl, m⟩
   replace M := M.call0 m; clear m
   refine WL.call Tryz.call18 rfl (moDo_ok w0 w _ (by omega) c' htm.right M) rfl ?_
   rintro _ w ⟨rfl, A3, k3, M⟩
   refine WL.move rfl rfl (WL.extractL rfl rfl rfl (WL.extractL rfl rfl rfl (WL.assign rfl rfl (WL.assign rfl rfl (WL.nil (WX.next (W.sub [(0, _), (1, _), (6, _), (7, _), (9, _)] (.cons rfl (.cons rfl (.cons rfl (.cons rfl (.cons rfl .nil))))) (W.seq (W.seq (W.region (WL.move rfl rfl (WL.neI rfl rfl rfl (WL.nil (WX.next (W.sub [(0, _), (1, _), (6, _), (7, _), (35, _)] (.cons rfl (.cons rfl (.cons rfl (.cons rfl (.cons rfl .nil))))) (W.ite rfl (fun c3 => ?_) (fun c3 => ?_)))))))))))))))))
   ·exact absurd rfl c3
   ·obtain ⟨its2, hi2e⟩ : ∃ its2, its2 = its ++ [(⟨its.length + 1, false, c'⟩ : It)] := ⟨_, rfl⟩
    have hits2 : ItsOk its2 := by rw [hi2e]; exact ItsOk.snoc hits (by omega) ⟨fun h => (by cases h), fun _ => htm⟩
    have hl2 : its2.length = its.length + 1 := by rw [hi2e, List.length_append]; rfl
    rw [← hi2e] at M
    refine W.skip (WX.next (W.seq (W.region (WL.move rfl rfl (WL.move rfl rfl (WL.len Tryz.underlying23 rfl rfl (WL.lss rfl rfl rfl (WL.moveIf rfl rfl (fun c4 => ?_) (fun c4 => ?_)))))))))
    ·refine WL.on rfl rfl (WL.move rfl rfl (WL.on rfl rfl (WL.move rfl rfl (WL.on rfl rfl (WL.idxA Tryz.underlying23 Tryz.sizeOf4 rfl rfl (RdL.isSome (E := boolE) (by first | with_reducible assumption | with_reducible exact RdL.mem (by with_reducible assumption) M | exact M.rdL Has.a | exact RdLH.at (by assumption) (M.sel Sel.a) | exact RdL.nil _ _ _) (by omega)) (by omega) (by omega) (by first | exact rfl | exact (Int.toNat_of_nonneg (by omega)).symm) rfl ?_)))))
     refine WL.on rfl rfl (WL.loadE0 (E := boolE) Tryz.isAgg4 rfl (by first | with_reducible assumption | with_reducible exact RdL.mem (by with_reducible assumption) M | exact M.rdL Has.a | exact RdLH.at (by assumption) (M.sel Sel.a) | exact RdL.nil _ _ _) (by omega) rfl rfl ?_)
     refine WL.pickT rfl rfl rfl (WL.nil (WX.next (W.sub [(0, _), (1, _), (6, _), (7, _), (45, _)] (.cons rfl (.cons rfl (.cons rfl (.cons rfl (.cons rfl .nil))))) (W.cond rfl (fun c5 => ?_) (fun c5 => ?_)))))
     ·(try simp only [Bool.not_eq_true'] at c5); (try simp only [Bool.not_eq_false'] at c5); (try simp only [decide_eq_true_eq] at c5); (try simp only [decide_eq_false_iff_not] at c5)
      refine W.region (WL.move rfl rfl (WL.call Tryz.call20 rfl (moMark_ok w0 w _ (by omega) M) rfl ?_))
      rintro _ w ⟨rfl, A5, k5, M⟩
      refine WL.nil (WX.blockNormal (WX.next (W.sub [(0, _), (1, _), (6, _), (7, _)] (.cons rfl (.cons rfl (.cons rfl (.cons rfl .nil)))) (W.region (WL.move rfl rfl (WL.add rfl rfl (by first | exact wI64 (by omega) | rfl) rfl ?_))))))
      refine WL.assign rfl rfl (WL.nil ?_)
      skip
      have hits3 := ItsOk.snoc hits2 (m := true) (c := ⟨[], [], false⟩) (by omega) ⟨fun _ => rfl, fun h => (by cases h)⟩
      have hl3 : (its2 ++ [(⟨its2.length + 1, true, ⟨[], [], false⟩⟩ : It)]).length = its2.length + 1 := by rw [List.length_append]; rfl
      refine WX.round ((i + 1, A5, k5, its2 ++ [(⟨its2.length + 1, true, ⟨[], [], false⟩⟩ : It)])) envSub.sf ⟨M.sel Sel.a, ⟨by dsimp only; omega, by dsimp only; omega, by dsimp only; omega, by dsimp only; omega, hits3⟩⟩ (by first | omega | (dsimp only; omega))
     ·(try simp only [Bool.not_eq_true'] at c5); (try simp only [Bool.not_eq_false'] at c5); (try simp only [decide_eq_true_eq] at c5); (try simp only [decide_eq_false_iff_not] at c5)
      refine W.skip (WX.blockNormal (WX.next (W.region (WL.move rfl rfl (WL.add rfl rfl (by first | exact wI64 (by omega) | rfl) rfl ?_)))))
      refine WL.assign rfl rfl (WL.nil ?_)
      refine WX.round ((i + 1, A3, k3, its2)) envSub.sf ⟨M.sel Sel.a, ⟨by dsimp only; omega, by dsimp only; omega, by dsimp only; omega, by dsimp only; omega, hits2⟩⟩ (by first | omega | (dsimp only; omega))
    ·refine WL.off rfl rfl rfl rfl (WL.off rfl rfl rfl rfl (WL.off rfl rfl rfl rfl (WL.off rfl rfl rfl rfl (WL.pickF rfl rfl rfl (WL.nil (WX.next (W.sub [(0, _), (1, _), (6, _), (7, _), (45, _)] (.cons rfl (.cons rfl (.cons rfl (.cons rfl (.cons rfl .nil))))) (W.condF rfl (W.skip (WX.blockNormal (WX.next (W.region (WL.move rfl rfl (WL.add rfl rfl (by first | exact wI64 (by omega) | rfl) rfl ?_))))))))))))))
     refine WL.assign rfl rfl (WL.nil ?_)
     refine WX.round ((i + 1, A3, k3, its2)) envSub.sf ⟨M.sel Sel.a, ⟨by dsimp only; omega, by dsimp only; omega, by dsimp only; omega, by dsimp only; omega, hits2⟩⟩ (by first | omega | (dsimp only; omega))
  ·refine W.exit (WX.thenExit (WX.thenExit (WX.blockHere (WX.next (W.seq (W.region (WL.move rfl rfl ?_)))))))
   refine WL.call Tryz.call21 rfl (moFrom_ok (l := its) (A := A2) (g := gs) (c := k2) w0 w _ (by have := hits.few; omega) M Has.a Has.a) rfl ?_
   rintro _ w ⟨A4, k4, rfl, M⟩
   refine WL.assign rfl rfl (WL.nil (WX.next (W.sub [(0, _), (10, _)] (.cons rfl (.cons rfl .nil)) (W.seq (W.region (WL.move rfl rfl (WL.move rfl rfl (WL.len Tryz.underlying25 rfl rfl (WL.move rfl rfl (WL.len Tryz.underlying22 rfl rfl (WL.min rfl rfl rfl (WL.geq rfl rfl rfl (WL.assign rfl rfl (WL.assign rfl rfl (WL.nil (WX.next (W.sub [(4, _), (5, _)] (.cons rfl (.cons rfl .nil)) (W.ret (WX.ret2 rfl rfl rfl ?_)))))))))))))))))))
   exact ⟨its, A4, k4, by rw [decide_eq_true (by omega)], hits, M.sel Sel.a⟩
 ·refine WL.off rfl rfl rfl rfl (WL.off rfl rfl rfl rfl (WL.pickF rfl rfl rfl (WL.nil (WX.next (W.sub [(0, _), (1, _), (6, _), (7, _), (21, _)] (.cons rfl (.cons rfl (.cons rfl (.cons rfl (.cons rfl .nil))))) (W.condF rfl (W.exit (WX.thenExit (WX.thenExit (WX.blockHere (WX.next (W.seq (W.region (WL.move rfl rfl ?_))))))))))))))
  refine WL.call Tryz.call21 rfl (moFrom_ok (l := its) (A := A2) (g := gs) (c := k2) w0 w _ (by have := hits.few; omega) M Has.a Has.a) rfl ?_
  rintro _ w ⟨A4, k4, rfl, M⟩
  refine WL.assign rfl rfl (WL.nil (WX.next (W.sub [(0, _), (10, _)] (.cons rfl (.cons rfl .nil)) (W.seq (W.region (WL.move rfl rfl (WL.move rfl rfl (WL.len Tryz.underlying25 rfl rfl (WL.move rfl rfl (WL.len Tryz.underlying22 rfl rfl (WL.min rfl rfl rfl (WL.geq rfl rfl rfl (WL.assign rfl rfl (WL.assign rfl rfl (WL.nil (WX.next (W.sub [(4, _), (5, _)] (.cons rfl (.cons rfl .nil)) (W.ret (WX.ret2 rfl rfl rfl ?_)))))))))))))))))))
  exact ⟨its, A4, k4, by rw [decide_eq_true (by omega)], hits, M.sel Sel.a⟩
end Go.Proofs.YtlminileigfkcaaGreat
namespace Go.Proofs.YtlminileigfkcaaGreat
open Go Go.RowKit Go.Lib Bin
section
variable {w0 w : World} {L L' : List Asr} {g : Nat} {A : Option Addr} {cap : Nat} {r : Rs} {b : List UInt8}
def brRow (g : Nat) (A : Option Addr) (cap : Nat) (r : Rs) : Asr := Asr.row g 179 [.slice A r.b.length cap, .int .i64 r.at_, .int .i64 r.err]
theorem rdUint2 (M : Mem w0 w L) (hd : Del (brRow g A cap r) L L') (hr : r.ok) (hb : RdH w0 L' A cap b) (e : r.b = b) :
 Fn Tryz.prog 55 [.pointer (some ⟨g, 0, none⟩)] w fun v w' => v = .int .u64 (uintV r : Int) ∧ Mem w0 w' (brRow g A cap (uintS r) :: L') := by
 subst e
 refine (rdUint_ok g A cap r hr w0 w L L' M hd hb).mono ?_
 rintro v w' ⟨rfl, M'⟩
 exact ⟨rfl, by unfold brRow; rw [uintS_b]; exact M'⟩
theorem rdBytes2 (m : Int) (hm : 0 ≤ m ∧ m ≤ 1000) (M : Mem w0 w L) (hd : Del (brRow g A cap r) L L') (hr : r.ok) (hb : RdH w0 L' A cap b) (e : r.b = b) :
 Fn Tryz.prog 57 [.pointer (some ⟨g, 0, none⟩), .int .i64 m] w fun v w' => ∃ A' cap', v = .slice A' (textV r m).length cap' ∧ Mem w0 w' (Asr.own 5 1 A' (textV r m).length cap' (bs (textV r m)) :: brRow g A cap (textS r m) :: L') := by
 subst e
 refine (rdBytes_ok g A cap r hr w0 w L L' m (by omega) M hd hb).mono ?_
 rintro v w' ⟨A', cap', rfl, M'⟩
 exact ⟨A', cap', rfl, by unfold brRow; rw [textS_b]; exact M'⟩
theorem rdErr2 (M : Mem w0 w L) (hd : Del (brRow g A cap r) L L') : Fn Tryz.prog 56 [.pointer (some ⟨g, 0, none⟩)] w fun v w' => v = .int .i64 r.err ∧ Mem w0 w' (brRow g A cap r :: L') :=
 rdErr_ok g A cap r w0 w L L' M hd
theorem rdLeft2 (M : Mem w0 w L) (hd : Del (brRow g A cap r) L L') (hr : r.ok) : Fn Tryz.prog 58 [.pointer (some ⟨g, 0, none⟩)] w fun v w' => v = .int .i64 (leftV r) ∧ Mem w0 w' (brRow g A cap r :: L') :=
 rdLeft_ok g A cap r hr w0 w L L' M hd
end
/-- All changes that are read, and up to where. -/
def decT (b : List UInt8) : Option (List Cg × Nat) := if (rdU b 0).2.2 ≠ 0 then none else decN b (rdU b 0).1 (rdU b 0).2.1.toNat
def decOf (b : List UInt8) : Option (List Cg × Nat) → Option (List Cg)
 | none => none
 | some p => if rightB p.1 ∧ p.2 = b.length ∧ b.length ≤ 1024 then some p.1 else none
theorem decB_T (b : List UInt8) : decB b = if 32 < uintV ⟨b, 0, 0⟩ then none else decOf b (decT b) := by
 by_cases h : (rdU b 0).2.2 = 0
 ·have e1 : uintV ⟨b, 0, 0⟩ = (rdU b 0).1 := by unfold uintV; rw [if_pos ⟨rfl, h⟩]
  have e2 : decT b = decN b (rdU b 0).1 (rdU b 0).2.1.toNat := by unfold decT; rw [if_neg (by simpa using h)]
  rw [e1, e2]
  unfold decB
  by_cases h2 : 32 < (rdU b 0).1
  ·rw [if_pos (.inr h2), if_pos h2]
  ·rw [if_neg (by rintro (h3 | h3); exact h3 h; exact h2 h3), if_neg h2]
   cases decN b (rdU b 0).1 (rdU b 0).2.1.toNat with
   | none => rfl
   | some p => rfl
 ·have e1 : uintV ⟨b, 0, 0⟩ = 0 := by unfold uintV; rw [if_neg (fun h3 => h h3.2)]
  have e2 : decT b = none := by unfold decT; rw [if_pos h]
  rw [e1, e2]
  unfold decB
  rw [if_pos (.inl h), if_neg (by decide)]
  rfl
theorem decOf_no {b : List UInt8} {T : Option (List Cg × Nat)} (h : ∀ l a, T = some (l, a) → ¬ (rightB l ∧ a = b.length ∧ b.length ≤ 1024)) : decOf b T = none := by
 cases T with
 | none => rfl
 | some p => exact if_neg (h p.1 p.2 rfl)
/-- What Decode answers. -/
def DecAns (b : List UInt8) (w0 : World) (v : Value) (w' : World) : Prop :=
 ∃ (A : Option Addr) (c : Nat), v = .tuple #[.slice A ((decB b).getD []).length c, .int .i64 (if (decB b).isSome then 0 else 50)] ∧ Mem w0 w' [Asr.lst cgE A c ((decB b).getD [])]
theorem DecAns.no {b : List UInt8} {w0 w : World} {L : List Asr} (M : Mem w0 w L) (h : decB b = none) : DecAns b w0 (.tuple #[.slice none 0 0, .int .i64 50]) w := by
 unfold DecAns
 rw [h]
 exact ⟨none, 0, rfl, (M.sel (.nil)).nilOwn 63 3⟩
theorem DecAns.yes {b : List UInt8} {w0 w : World} {A : Option Addr} {c : Nat} {l : List Cg} (M : Mem w0 w [Asr.lst cgE A c l]) (h : decB b = some l) : DecAns b w0 (.tuple #[.slice A l.length c, .int .i64 0]) w := by
 unfold DecAns
 rw [h]
 exact ⟨A, c, rfl, M⟩
section
variable {A : Option Addr} {cap : Nat} {b : List UInt8} {w0 : World}
set_option maxRecDepth 10000 in
set_option maxHeartbeats 2000000 in
theorem stDecode_ok (h : RdB w0 A cap b) (hl : b.length ≤ 1000000) : Fn Tryz.prog 25 [.slice A b.length cap] w0 (DecAns b w0) := by
 have M := Mem.refl w0
 obtain ⟨w, hw⟩ : ∃ w, w = w0 := ⟨w0, rfl⟩
 have r0ok : Rs.ok ⟨b, 0, 0⟩ := ⟨by dsimp only; omega, by dsimp only; omega, by dsimp only; omega⟩
 have hDB := decB_T b
 obtain ⟨n, hn⟩ : ∃ m, m = uintV ⟨b, 0, 0⟩ := ⟨_, rfl⟩
 have hnl := uintV_lt ⟨b, 0, 0⟩
 obtain ⟨r1, hr1⟩ : ∃ r, r = uintS ⟨b, 0, 0⟩ := ⟨_, rfl⟩
 have r1ok : r1.ok := by rw [hr1]; exact uintS_ok r0ok
 have r1b : r1.b = b := by rw [hr1, uintS_b]
 obtain ⟨T, hT⟩ : ∃ T, T = decT b := ⟨_, rfl⟩
 rw [← hn] at hDB hnl
 rw [← hT] at hDB
 have hT1 : (r1.err ≠ 0 → T = none) ∧ (r1.err = 0 → remD b [] (n - 0) r1.at_.toNat = T) := by
  rw [hr1, hn, hT]
  by_cases h0 : (rdU b 0).2.2 = 0
  ·have e1 : uintV ⟨b, 0, 0⟩ = (rdU b 0).1 := by unfold uintV; rw [if_pos ⟨rfl, h0⟩]
   have e2 : decT b = decN b (rdU b 0).1 (rdU b 0).2.1.toNat := by unfold decT; rw [if_neg (by simpa using h0)]
   have e3 : uintS ⟨b, 0, 0⟩ = ⟨b, (rdU b 0).2.1, 0⟩ := by unfold uintS; rw [if_neg (by simp), if_neg (by simpa using h0)]
   rw [e1, e2, e3]
   exact ⟨fun h => absurd rfl h, fun _ => by rw [remD_nil]; rfl⟩
  ·have e2 : decT b = none := by unfold decT; rw [if_pos h0]
   have e3 : uintS ⟨b, 0, 0⟩ = ⟨b, 0, (rdU b 0).2.2⟩ := by unfold uintS; rw [if_neg (by simp), if_pos h0]
   rw [e2, e3]
   exact ⟨fun _ => rfl, fun h => absurd h h0⟩
 refine Fn.enter Tryz.func25 rfl Tryz.ntmps25 rfl (W.sub [(0, _)] (.cons rfl .nil) (W.seq (W.region (WL.assign rfl rfl (WL.assign rfl rfl (WL.nil (WX.next (W.sub [(0, _)] (.cons rfl .nil) (W.seq (W.region (WL.move rfl rfl (WL.call Tryz.call54 rfl (New_ok b A cap w0 h (by omega)) rfl ?_))))))))))))
 rintro _ w ⟨gr, A1, cap1, rfl, m⟩
 replace M := M.callN m; clear m
 replace M : Mem w0 w (brRow gr A1 cap1 ⟨b, 0, 0⟩ :: Asr.own 5 1 A1 b.length cap1 (bs b) :: []) := M
 refine WL.assign rfl rfl (WL.nil (WX.next (W.sub [(0, _), (4, _)] (.cons rfl (.cons rfl .nil)) (W.seq (W.region (WL.move rfl rfl ?_))))))
 refine WL.call Tryz.call55 rfl (rdUint2 M Del.a r0ok (b := b) (by intro w M; exact (by first | first | with_reducible assumption | with_reducible exact RdB.mem (by with_reducible assumption) M | exact M.rdB Has.a | exact RdH.at (by assumption) (M.sel Sel.a) | exact M.rdLit' Has.a | exact M.rdLent Has.a | exact RdB.nil _ _ | exact RdB.sub (by first | with_reducible assumption | with_reducible exact RdB.mem (by with_reducible assumption) M | exact M.rdB Has.a | exact RdH.at (by assumption) (M.sel Sel.a) | exact M.rdLit' Has.a | exact M.rdLent Has.a | exact RdB.nil _ _) (by omega) (by omega) | exact RdB.pre' (by first | with_reducible assumption | with_reducible exact RdB.mem (by with_reducible assumption) M | exact M.rdB Has.a | exact RdH.at (by assumption) (M.sel Sel.a) | exact M.rdLit' Has.a | exact M.rdLent Has.a | exact RdB.nil _ _) (by omega) | exact RdB.suf (by first | with_reducible assumption | with_reducible exact RdB.mem (by with_reducible assumption) M | exact M.rdB Has.a | exact RdH.at (by assumption) (M.sel Sel.a) | exact M.rdLit' Has.a | exact M.rdLent Has.a | exact RdB.nil _ _) (by omega))) rfl) rfl ?_
 rintro _ w ⟨rfl, M⟩
 rw [← hn]
 rw [← hr1] at M
 refine WL.assign rfl rfl (WL.nil (WX.next (W.sub [(0, _), (4, _), (5, _)] (.cons rfl (.cons rfl (.cons rfl .nil))) (W.seq (W.region (WL.assign rfl rfl (WL.nil (WX.next (W.sub [(0, _), (4, _), (5, _), (6, _)] (.cons rfl (.cons rfl (.cons rfl (.cons rfl .nil)))) (W.joint (fun (z : Nat × Rs × Option Addr × Nat × List Cg) => [(0, .slice A b.length cap), (4, .pointer (some ⟨gr, 0, none⟩)), (5, .int .u64 (n : Int)), (6, .slice z.2.2.1 z.2.2.2.2.length z.2.2.2.1)]) (fun zj w => Mem w0 w ((fun z => [brRow gr A1 cap1 z.2.1, Asr.own 5 1 A1 b.length cap1 (bs b), Asr.lst cgE z.2.2.1 z.2.2.2.1 z.2.2.2.2]) zj) ∧ (fun z => (z.1 ≤ n ∧ z.1 ≤ 33 ∧ z.2.2.2.2.length = z.1 ∧ z.2.1.ok ∧ z.2.1.b = b) ∧ ((z.2.1.err ≠ 0 → T = none) ∧ (z.2.1.err = 0 → remD b z.2.2.2.2 (n - z.1) z.2.1.at_.toNat = T)) ∧ (z.1 = n ∨ z.2.1.err ≠ 0 ∨ z.1 = 33)) zj) ?_ ?_))))))))))
 ·refine W.seq (W.region (WL.assign rfl rfl (WL.nil (WX.next (W.sub [(0, _), (4, _), (5, _), (6, _), (7, _)] (.cons rfl (.cons rfl (.cons rfl (.cons rfl (.cons rfl .nil))))) (W.block (W.loop (ι := Nat × Rs × Option Addr × Nat × List Cg) (fun z => [(0, .slice A b.length cap), (4, .pointer (some ⟨gr, 0, none⟩)), (5, .int .u64 (n : Int)), (6, .slice z.2.2.1 z.2.2.2.2.length z.2.2.2.1), (7, .int .u64 (z.1 : Int))]) (fun zz w => Mem w0 w ((fun z => [brRow gr A1 cap1 z.2.1, Asr.own 5 1 A1 b.length cap1 (bs b), Asr.lst cgE z.2.2.1 z.2.2.2.1 z.2.2.2.2]) zz) ∧ (fun z => (z.1 ≤ n ∧ z.1 ≤ 33 ∧ z.2.2.2.2.length = z.1 ∧ z.2.1.ok ∧ z.2.1.b = b) ∧ (z.2.1.err ≠ 0 → T = none) ∧ (z.2.1.err = 0 → remD b z.2.2.2.2 (n - z.1) z.2.1.at_.toNat = T)) zz) (fun z => n - z.1) ((0, r1, none, 0, [])) envSub.sf ⟨((M.nilOwn 63 3).sel Sel.a), ⟨⟨Nat.zero_le _, Nat.zero_le _, rfl, r1ok, r1b⟩, hT1⟩⟩ ?_)))))))
  clear M; rintro (⟨i, r, Al, cl, l⟩) w ⟨M, ⟨⟨hi, hi33, hll, hrok, hrb⟩, ht1, ht2⟩⟩; dsimp only at M hi hi33 hll hrok hrb ht1 ht2 ⊢
  refine W.sub [(0, _), (4, _), (5, _), (6, _), (7, _)] (.cons rfl (.cons rfl (.cons rfl (.cons rfl (.cons rfl .nil))))) (W.seq (W.seq (W.region (WL.move rfl rfl (WL.move rfl rfl (WL.lss rfl rfl rfl (WL.moveIf rfl rfl (fun c0 => ?_) (fun c0 => ?_))))))))
  ·refine WL.on rfl rfl (WL.move rfl rfl (WL.on rfl rfl (WL.call Tryz.call56 rfl (rdErr2 M Del.a) rfl ?_)))
   rintro _ w ⟨rfl, M⟩
   refine WL.on rfl rfl (WL.eqI rfl rfl rfl (WL.pickT rfl rfl rfl (WL.moveIf rfl rfl (fun c1 => ?_) (fun c1 => ?_))))
   ·refine WL.on rfl rfl (WL.move rfl rfl (WL.on rfl rfl (WL.leq rfl rfl rfl (WL.pickT rfl rfl rfl (WL.nil (WX.next (W.sub [(0, _), (4, _), (5, _), (6, _), (7, _), (25, _)] (.cons rfl (.cons rfl (.cons rfl (.cons rfl (.cons rfl (.cons rfl .nil)))))) (W.ite rfl (fun c2 => ?_) (fun c2 => ?_)))))))))
    ·have hin : i < n := by omega
     have he0 : r.err = 0 := by omega
     have hreq : r = ⟨b, (r.at_.toNat : Int), 0⟩ := by
      have := hrok.lo
      obtain ⟨b', a, e⟩ := r
      dsimp only at *
      subst hrb
      rw [he0]
      congr 1
      omega
     have hrem := ht2 he0
     obtain ⟨d1, d2, d3⟩ := dec_prog (b := b) (a := r.at_.toNat)
     rw [← hreq] at d1 d2 d3
     rw [show n - i = (n - (i + 1)) + 1 by omega] at hrem
     have k1ok := textS_ok hrok 16
     have k2ok := uintS_ok k1ok
     have k1b : (textS r 16).b = b := by rw [textS_b]; exact hrb
     have k2b : (uintS (textS r 16)).b = b := by rw [uintS_b]; exact k1b
     have hkv := textV_le r 16
     have hvv := textV_le (uintS (textS r 16)) 128
     rw [hrb] at hkv
     rw [k2b] at hvv
     obtain ⟨f, hf⟩ : ∃ f, f = stepF r := ⟨_, rfl⟩
     have hf2 : uintV (textS r 16) = f := by rw [hf]; rfl
     rw [← hf] at d1 d2 d3
     refine W.skip (WX.next (W.seq (W.block (W.seq (W.region (WL.move rfl rfl ?_))))))
     refine WL.call Tryz.call57 rfl (rdBytes2 16 (by omega) M Del.a hrok (b := b) (by intro w M; exact (by first | first | with_reducible assumption | with_reducible exact RdB.mem (by with_reducible assumption) M | exact M.rdB Has.a | exact RdH.at (by assumption) (M.sel Sel.a) | exact M.rdLit' Has.a | exact M.rdLent Has.a | exact RdB.nil _ _ | exact RdB.sub (by first | with_reducible assumption | with_reducible exact RdB.mem (by with_reducible assumption) M | exact M.rdB Has.a | exact RdH.at (by assumption) (M.sel Sel.a) | exact M.rdLit' Has.a | exact M.rdLent Has.a | exact RdB.nil _ _) (by omega) (by omega) | exact RdB.pre' (by first | with_reducible assumption | with_reducible exact RdB.mem (by with_reducible assumption) M | exact M.rdB Has.a | exact RdH.at (by assumption) (M.sel Sel.a) | exact M.rdLit' Has.a | exact M.rdLent Has.a | exact RdB.nil _ _) (by omega) | exact RdB.suf (by first | with_reducible assumption | with_reducible exact RdB.mem (by with_reducible assumption) M | exact M.rdB Has.a | exact RdH.at (by assumption) (M.sel Sel.a) | exact M.rdLit' Has.a | exact M.rdLent Has.a | exact RdB.nil _ _) (by omega))) hrb) rfl ?_
     rintro _ w ⟨A7, c7', rfl, M⟩
     refine WL.toStr Tryz.underlying84 Tryz.underlying5 Tryz.underlying9 rfl (by first | first | with_reducible assumption | with_reducible exact RdB.mem (by with_reducible assumption) M | exact M.rdB Has.a | exact RdH.at (by assumption) (M.sel Sel.a) | exact M.rdLit' Has.a | exact M.rdLent Has.a | exact RdB.nil _ _ | exact RdB.sub (by first | with_reducible assumption | with_reducible exact RdB.mem (by with_reducible assumption) M | exact M.rdB Has.a | exact RdH.at (by assumption) (M.sel Sel.a) | exact M.rdLit' Has.a | exact M.rdLent Has.a | exact RdB.nil _ _) (by omega) (by omega) | exact RdB.pre' (by first | with_reducible assumption | with_reducible exact RdB.mem (by with_reducible assumption) M | exact M.rdB Has.a | exact RdH.at (by assumption) (M.sel Sel.a) | exact M.rdLit' Has.a | exact M.rdLent Has.a | exact RdB.nil _ _) (by omega) | exact RdB.suf (by first | with_reducible assumption | with_reducible exact RdB.mem (by with_reducible assumption) M | exact M.rdB Has.a | exact RdH.at (by assumption) (M.sel Sel.a) | exact M.rdLit' Has.a | exact M.rdLent Has.a | exact RdB.nil _ _) (by omega)) rfl rfl ?_
     refine WL.buildP (places := #[(0, 1), (1, 1), (2, 1)]) Tryz.underlying63 Tryz.zeroValue63 (fun _ => by simp [Tryz.sizeOf9, Tryz.sizeOf9, Tryz.sizeOf4]) rfl (by repeat (first | exact Puts.nil | exact SetAt.zero | apply SetAt.succ | apply Puts.cons rfl rfl)) rfl ?_
     refine WL.alloc Tryz.zeroValue63 M rfl ?_
     intro g7_4 w M
     try simp only [Value.cells] at M
     try simp only [List.toList_toArray] at M
     refine WL.storeWA Tryz.sizeOf63 rfl rfl (by repeat (first | exact oneNil | refine oneCons rfl ?_)) rfl rfl M Upd.a ?_
     intro w M
     refine WL.nil (WX.next (W.sub [(0, _), (4, _), (5, _), (6, _), (7, _), (8, _)] (.cons rfl (.cons rfl (.cons rfl (.cons rfl (.cons rfl (.cons rfl .nil)))))) (W.seq (W.region (WL.move rfl rfl ?_)))))
     refine WL.call Tryz.call55 rfl (rdUint2 M Del.a k1ok (b := b) (by intro w M; exact (by first | first | with_reducible assumption | with_reducible exact RdB.mem (by with_reducible assumption) M | exact M.rdB Has.a | exact RdH.at (by assumption) (M.sel Sel.a) | exact M.rdLit' Has.a | exact M.rdLent Has.a | exact RdB.nil _ _ | exact RdB.sub (by first | with_reducible assumption | with_reducible exact RdB.mem (by with_reducible assumption) M | exact M.rdB Has.a | exact RdH.at (by assumption) (M.sel Sel.a) | exact M.rdLit' Has.a | exact M.rdLent Has.a | exact RdB.nil _ _) (by omega) (by omega) | exact RdB.pre' (by first | with_reducible assumption | with_reducible exact RdB.mem (by with_reducible assumption) M | exact M.rdB Has.a | exact RdH.at (by assumption) (M.sel Sel.a) | exact M.rdLit' Has.a | exact M.rdLent Has.a | exact RdB.nil _ _) (by omega) | exact RdB.suf (by first | with_reducible assumption | with_reducible exact RdB.mem (by with_reducible assumption) M | exact M.rdB Has.a | exact RdH.at (by assumption) (M.sel Sel.a) | exact M.rdLit' Has.a | exact M.rdLent Has.a | exact RdB.nil _ _) (by omega))) k1b) rfl ?_
     rintro _ w ⟨rfl, M⟩
     rw [hf2]
     refine WL.assign rfl rfl (WL.nil (WX.next (W.sub [(0, _), (4, _), (5, _), (6, _), (7, _), (8, _), (9, _)] (.cons rfl (.cons rfl (.cons rfl (.cons rfl (.cons rfl (.cons rfl (.cons rfl .nil))))))) (W.seq (W.seq (W.region (WL.move rfl rfl (WL.gtr rfl rfl rfl (WL.nil (WX.next (W.sub [(0, _), (4, _), (5, _), (6, _), (7, _), (8, _), (9, _), (35, _)] (.cons rfl (.cons rfl (.cons rfl (.cons rfl (.cons rfl (.cons rfl (.cons rfl (.cons rfl .nil)))))))) (W.ite rfl (fun c3 => ?_) (fun c3 => ?_)))))))))))))
     ·refine W.seq (W.region (WL.assign rfl rfl (WL.assign rfl rfl (WL.nil (WX.next (W.sub [(2, _), (3, _)] (.cons rfl (.cons rfl .nil)) (W.ret (WX.thenRet (WX.blockRet (WX.thenRet (WX.thenRet (WX.blockRet (WX.thenRet (WX.ret2 rfl rfl rfl ?_))))))))))))))
      have hTn : T = none := by rw [← hrem]; exact remD_none (d1 (by omega))
      exact DecAns.no M (by rw [hDB, hTn]; split <;> rfl)
     ·refine W.skip (WX.next (W.seq (W.seq (W.region (WL.move rfl rfl (WL.eqI rfl rfl rfl ?_))))))
      rw [show decide ((f : Int) = 1) = decide (f = 1) by rw [decide_eq_decide]; omega]
      refine WL.fieldR (off := 2) Tryz.underlying63 rfl rfl Tryz.sizeOf4 rfl rfl rfl ?_
      refine WL.storeR Tryz.sizeOf4 rfl rfl rfl M Has.a (by repeat (first | exact SetAt.zero | apply SetAt.succ)) Upd.a ?_
      intro w M
      refine WL.nil (WX.next (W.sub [(0, _), (4, _), (5, _), (6, _), (7, _), (8, _)] (.cons rfl (.cons rfl (.cons rfl (.cons rfl (.cons rfl (.cons rfl .nil)))))) (W.seq (W.region (WL.fieldR (off := 2) Tryz.underlying63 rfl rfl Tryz.sizeOf4 rfl rfl rfl ?_)))))
      refine WL.loadR Tryz.isAgg4 rfl M Has.a rfl rfl (WL.not rfl rfl (WL.nil (WX.next (W.sub [(0, _), (4, _), (5, _), (6, _), (7, _), (8, _), (41, _)] (.cons rfl (.cons rfl (.cons rfl (.cons rfl (.cons rfl (.cons rfl (.cons rfl .nil))))))) (W.cond rfl (fun c4 => ?_) (fun c4 => ?_))))))
      ·(try simp only [Bool.not_eq_true'] at c4); (try simp only [Bool.not_eq_false'] at c4); (try simp only [decide_eq_true_eq] at c4); (try simp only [decide_eq_false_iff_not] at c4)
       have hf0 : ¬ f = 1 := by simpa using c4
       have hS : stepS r = textS (uintS (textS r 16)) 128 := by unfold stepS; rw [← hf, if_neg hf0]
       have hC : stepC r = ⟨textV r 16, textV (uintS (textS r 16)) 128, decide (f = 1)⟩ := by unfold stepC; rw [← hf, if_neg hf0]
       obtain ⟨vv, hvv9⟩ : ∃ vv, vv = textV (uintS (textS r 16)) 128 := ⟨_, rfl⟩
       rw [← hvv9] at hC
       refine W.region (WL.move rfl rfl ?_)
       refine WL.call Tryz.call57 rfl (rdBytes2 128 (by omega) M Del.a k2ok (b := b) (by intro w M; exact (by first | first | with_reducible assumption | with_reducible exact RdB.mem (by with_reducible assumption) M | exact M.rdB Has.a | exact RdH.at (by assumption) (M.sel Sel.a) | exact M.rdLit' Has.a | exact M.rdLent Has.a | exact RdB.nil _ _ | exact RdB.sub (by first | with_reducible assumption | with_reducible exact RdB.mem (by with_reducible assumption) M | exact M.rdB Has.a | exact RdH.at (by assumption) (M.sel Sel.a) | exact M.rdLit' Has.a | exact M.rdLent Has.a | exact RdB.nil _ _) (by omega) (by omega) | exact RdB.pre' (by first | with_reducible assumption | with_reducible exact RdB.mem (by with_reducible assumption) M | exact M.rdB Has.a | exact RdH.at (by assumption) (M.sel Sel.a) | exact M.rdLit' Has.a | exact M.rdLent Has.a | exact RdB.nil _ _) (by omega) | exact RdB.suf (by first | with_reducible assumption | with_reducible exact RdB.mem (by with_reducible assumption) M | exact M.rdB Has.a | exact RdH.at (by assumption) (M.sel Sel.a) | exact M.rdLit' Has.a | exact M.rdLent Has.a | exact RdB.nil _ _) (by omega))) k2b) rfl ?_
       rintro _ w ⟨A13, c13', rfl, M⟩
       rw [← hvv9] at M ⊢
       refine WL.toStr Tryz.underlying84 Tryz.underlying5 Tryz.underlying9 rfl (by first | first | with_reducible assumption | with_reducible exact RdB.mem (by with_reducible assumption) M | exact M.rdB Has.a | exact RdH.at (by assumption) (M.sel Sel.a) | exact M.rdLit' Has.a | exact M.rdLent Has.a | exact RdB.nil _ _ | exact RdB.sub (by first | with_reducible assumption | with_reducible exact RdB.mem (by with_reducible assumption) M | exact M.rdB Has.a | exact RdH.at (by assumption) (M.sel Sel.a) | exact M.rdLit' Has.a | exact M.rdLent Has.a | exact RdB.nil _ _) (by omega) (by omega) | exact RdB.pre' (by first | with_reducible assumption | with_reducible exact RdB.mem (by with_reducible assumption) M | exact M.rdB Has.a | exact RdH.at (by assumption) (M.sel Sel.a) | exact M.rdLit' Has.a | exact M.rdLent Has.a | exact RdB.nil _ _) (by omega) | exact RdB.suf (by first | with_reducible assumption | with_reducible exact RdB.mem (by with_reducible assumption) M | exact M.rdB Has.a | exact RdH.at (by assumption) (M.sel Sel.a) | exact M.rdLit' Has.a | exact M.rdLent Has.a | exact RdB.nil _ _) (by omega)) rfl rfl ?_
       refine WL.fieldR (off := 1) Tryz.underlying63 rfl rfl Tryz.sizeOf9 rfl rfl rfl ?_
       refine WL.storeR Tryz.sizeOf9 rfl rfl rfl M Has.a (by repeat (first | exact SetAt.zero | apply SetAt.succ)) Upd.a ?_
       intro w M
       refine WL.nil (WX.next (W.sub [(0, _), (4, _), (5, _), (6, _), (7, _), (8, _)] (.cons rfl (.cons rfl (.cons rfl (.cons rfl (.cons rfl (.cons rfl .nil)))))) (W.region (WL.move rfl rfl (WL.loadW Tryz.isAgg63 Tryz.sizeOf63 rfl M Has.a rfl rfl (WL.buildL (E := cgE) (l := [(⟨textV r 16, vv, decide (f = 1)⟩ : Cg)]) Tryz.elem63 M rfl rfl rfl rfl rfl rfl ?_))))))
       intro g14_2 w M
       refine WL.appendL (E := cgE) Tryz.elem63 rfl rfl M Del.a (by first | with_reducible assumption | with_reducible exact RdL.mem (by with_reducible assumption) M | exact M.rdL Has.a | exact RdLH.at (by assumption) (M.sel Sel.a) | exact RdL.nil _ _ _) rfl rfl (by first | omega | (simp; done) | (simp; omega)) (by first | (simp only [maxLen]; omega) | (simp [maxLen]; done) | (simp [maxLen]; omega)) rfl ?_
       intro A14_3 cap14_3 w M
       refine WL.assign rfl rfl (WL.nil (WX.blockNormal (WX.next (W.sub [(0, _), (4, _), (5, _), (6, _), (7, _)] (.cons rfl (.cons rfl (.cons rfl (.cons rfl (.cons rfl .nil))))) (W.region (WL.move rfl rfl (WL.add rfl rfl (by first | exact wU64 (by omega) | exact mU64 _ | rfl) rfl ?_)))))))
       refine WL.assign rfl rfl (WL.nil ?_)
       skip
       have q1 : (textS (uintS (textS r 16)) 128).ok := textS_ok k2ok 128
       have q2 : (textS (uintS (textS r 16)) 128).b = b := by rw [textS_b]; exact k2b
       have q3 : (textS (uintS (textS r 16)) 128).err ≠ 0 → T = none := fun h => by rw [← hrem]; exact remD_none (d2 (by omega) (by rw [hS]; exact h))
       have q4 : (textS (uintS (textS r 16)) 128).err = 0 → remD b (l ++ [(⟨textV r 16, vv, decide (f = 1)⟩ : Cg)]) (n - (i + 1)) (textS (uintS (textS r 16)) 128).at_.toNat = T := fun h => by
        obtain ⟨a2, e1, e2, e3⟩ := d3 (by omega) (by rw [hS]; exact h)
        rw [hS] at e1
        rw [← hrem, remD_step e3, hC, e1, Int.toNat_natCast]
       refine WX.round ((i + 1, textS (uintS (textS r 16)) 128, A14_3, cap14_3, l ++ [(⟨textV r 16, vv, decide (f = 1)⟩ : Cg)])) envSub.sf ⟨M.sel Sel.a, ⟨⟨by dsimp only; omega, by dsimp only; omega, by dsimp only; rw [List.length_append, hll]; rfl, q1, q2⟩, q3, q4⟩⟩ (by first | omega | (dsimp only; omega))
      ·(try simp only [Bool.not_eq_true'] at c4); (try simp only [Bool.not_eq_false'] at c4); (try simp only [decide_eq_true_eq] at c4); (try simp only [decide_eq_false_iff_not] at c4)
       have hf1 : f = 1 := by simpa using c4
       have hS : stepS r = uintS (textS r 16) := by unfold stepS; rw [← hf, if_pos hf1]
       have hC : stepC r = ⟨textV r 16, [], decide (f = 1)⟩ := by unfold stepC; rw [← hf, if_pos hf1]
       obtain ⟨vv, hvv9⟩ : ∃ vv : List UInt8, vv = [] := ⟨_, rfl⟩
       rw [← hvv9] at hC
       have hs9 : Value.string (ByteArray.mk #[]) = str vv := by rw [hvv9]; rfl
       rw [hs9] at M
       refine W.skip (WX.next (W.region (WL.move rfl rfl (WL.loadW Tryz.isAgg63 Tryz.sizeOf63 rfl M Has.a rfl rfl (WL.buildL (E := cgE) (l := [(⟨textV r 16, vv, decide (f = 1)⟩ : Cg)]) Tryz.elem63 M rfl rfl rfl rfl rfl rfl ?_)))))
       intro g14_2 w M
       refine WL.appendL (E := cgE) Tryz.elem63 rfl rfl M Del.a (by first | with_reducible assumption | with_reducible exact RdL.mem (by with_reducible assumption) M | exact M.rdL Has.a | exact RdLH.at (by assumption) (M.sel Sel.a) | exact RdL.nil _ _ _) rfl rfl (by first | omega | (simp; done) | (simp; omega)) (by first | (simp only [maxLen]; omega) | (simp [maxLen]; done) | (simp [maxLen]; omega)) rfl ?_
       intro A14_3 cap14_3 w M
       refine WL.assign rfl rfl (WL.nil (WX.blockNormal (WX.next (W.sub [(0, _), (4, _), (5, _), (6, _), (7, _)] (.cons rfl (.cons rfl (.cons rfl (.cons rfl (.cons rfl .nil))))) (W.region (WL.move rfl rfl (WL.add rfl rfl (by first | exact wU64 (by omega) | exact mU64 _ | rfl) rfl ?_)))))))
       refine WL.assign rfl rfl (WL.nil ?_)
       skip
       have q3 : (uintS (textS r 16)).err ≠ 0 → T = none := fun h => by rw [← hrem]; exact remD_none (d2 (by omega) (by rw [hS]; exact h))
       have q4 : (uintS (textS r 16)).err = 0 → remD b (l ++ [(⟨textV r 16, vv, decide (f = 1)⟩ : Cg)]) (n - (i + 1)) (uintS (textS r 16)).at_.toNat = T := fun h => by
        obtain ⟨a2, e1, e2, e3⟩ := d3 (by omega) (by rw [hS]; exact h)
        rw [hS] at e1
        rw [← hrem, remD_step e3, hC, e1, Int.toNat_natCast]
       refine WX.round ((i + 1, uintS (textS r 16), A14_3, cap14_3, l ++ [(⟨textV r 16, vv, decide (f = 1)⟩ : Cg)])) envSub.sf ⟨M.sel Sel.a, ⟨⟨by dsimp only; omega, by dsimp only; omega, by dsimp only; rw [List.length_append, hll]; rfl, k2ok, k2b⟩, q3, q4⟩⟩ (by first | omega | (dsimp only; omega))
    ·refine W.exit (WX.thenExit (WX.thenExit (WX.blockHere ?_)))
     refine WX.join ((i, r, Al, cl, l)) envSub.sf ⟨M.sel Sel.a, ⟨⟨hi, hi33, hll, hrok, hrb⟩, ⟨ht1, ht2⟩, .inr (.inr (by dsimp only; omega))⟩⟩
   ·refine WL.off rfl rfl rfl rfl (WL.off rfl rfl rfl rfl (WL.pickF rfl rfl rfl (WL.nil (WX.next (W.sub [(0, _), (4, _), (5, _), (6, _), (7, _), (25, _)] (.cons rfl (.cons rfl (.cons rfl (.cons rfl (.cons rfl (.cons rfl .nil)))))) (W.condF rfl (W.exit (WX.thenExit (WX.thenExit (WX.blockHere ?_))))))))))
    refine WX.join ((i, r, Al, cl, l)) envSub.sf ⟨M.sel Sel.a, ⟨⟨hi, hi33, hll, hrok, hrb⟩, ⟨ht1, ht2⟩, .inr (.inl (by dsimp only; omega))⟩⟩
  ·refine WL.off rfl rfl rfl rfl (WL.off rfl rfl rfl rfl (WL.off rfl rfl rfl rfl (WL.pickF rfl rfl rfl (WL.move rfl rfl (WL.off rfl rfl rfl rfl (WL.off rfl rfl rfl rfl (WL.pickF rfl rfl rfl (WL.nil (WX.next (W.sub [(0, _), (4, _), (5, _), (6, _), (7, _), (25, _)] (.cons rfl (.cons rfl (.cons rfl (.cons rfl (.cons rfl (.cons rfl .nil)))))) (W.condF rfl (W.exit (WX.thenExit (WX.thenExit (WX.blockHere ?_)))))))))))))))
   refine WX.join ((i, r, Al, cl, l)) envSub.sf ⟨M.sel Sel.a, ⟨⟨hi, hi33, hll, hrok, hrb⟩, ⟨ht1, ht2⟩, .inl (by dsimp only; omega)⟩⟩
 clear M; rintro (⟨i, r, Al, cl, l⟩) w ⟨M, ⟨⟨hi, hi33, hll, hrok, hrb⟩, ⟨ht1, ht2⟩, hend⟩⟩; dsimp only at M hi hi33 hll hrok hrb ht1 ht2 hend ⊢
 refine W.sub [(0, _), (4, _), (5, _), (6, _)] (.cons rfl (.cons rfl (.cons rfl (.cons rfl .nil)))) (W.seq (W.seq (W.region (WL.move rfl rfl (WL.call Tryz.call56 rfl (rdErr2 M Del.a) rfl ?_)))))
 rintro _ w ⟨rfl, M⟩
 refine WL.neI rfl rfl rfl (WL.moveIf rfl rfl (fun c5 => ?_) (fun c5 => ?_))
 ·refine WL.off rfl rfl rfl rfl (WL.off rfl rfl rfl rfl (WL.off rfl rfl rfl rfl (WL.pickT rfl rfl rfl (WL.move rfl rfl (WL.off rfl rfl rfl rfl (WL.off rfl rfl rfl rfl (WL.off rfl rfl rfl rfl (WL.off rfl rfl rfl rfl (WL.off rfl rfl rfl rfl (WL.pickT rfl rfl rfl (WL.move rfl rfl (WL.off rfl rfl rfl rfl (WL.off rfl rfl rfl rfl (WL.off rfl rfl rfl rfl (WL.pickT rfl rfl rfl (WL.move rfl rfl (WL.off rfl rfl rfl rfl (WL.off rfl rfl rfl rfl (WL.off rfl rfl rfl rfl (WL.pickT rfl rfl rfl (WL.nil (WX.next (W.sub [(6, _), (74, _)] (.cons rfl (.cons rfl .nil)) (W.condT rfl (W.seq (W.region (WL.assign rfl rfl (WL.assign rfl rfl (WL.nil (WX.next (W.sub [(2, _), (3, _)] (.cons rfl (.cons rfl .nil)) (W.ret (WX.thenRet (WX.ret2 rfl rfl rfl ?_))))))))))))))))))))))))))))))))))
  exact DecAns.no M (by rw [hDB, ht1 c5]; split <;> rfl)
 ·have he0 : r.err = 0 := by omega
  have hleft : leftV r = (b.length : Int) - r.at_ := by unfold leftV; rw [if_neg (by omega), hrb]
  have hlo := hrok.lo
  have hhi := hrok.hi
  rw [hrb] at hhi
  have hTs : i = n → T = some (l, r.at_.toNat) := fun h => by rw [← ht2 he0, h, Nat.sub_self, remD_0]
  have hbig : ¬ i = n → 32 < n := fun h => by
   rcases hend with h1 | h1 | h1
   ·exact absurd h1 h
   ·exact absurd he0 h1
   ·omega
  refine WL.on rfl rfl (WL.move rfl rfl (WL.on rfl rfl (WL.call Tryz.call58 rfl (rdLeft2 M Del.a hrok) rfl ?_)))
  rintro _ w ⟨rfl, M⟩
  refine WL.on rfl rfl (WL.gtr rfl rfl rfl (WL.pickF rfl rfl rfl (WL.moveIf rfl rfl (fun c6 => ?_) (fun c6 => ?_))))
  ·refine WL.off rfl rfl rfl rfl (WL.off rfl rfl rfl rfl (WL.off rfl rfl rfl rfl (WL.off rfl rfl rfl rfl (WL.off rfl rfl rfl rfl (WL.pickT rfl rfl rfl (WL.move rfl rfl (WL.off rfl rfl rfl rfl (WL.off rfl rfl rfl rfl (WL.off rfl rfl rfl rfl (WL.pickT rfl rfl rfl (WL.move rfl rfl (WL.off rfl rfl rfl rfl (WL.off rfl rfl rfl rfl (WL.off rfl rfl rfl rfl (WL.pickT rfl rfl rfl (WL.nil (WX.next (W.sub [(6, _), (74, _)] (.cons rfl (.cons rfl .nil)) (W.condT rfl (W.seq (W.region (WL.assign rfl rfl (WL.assign rfl rfl (WL.nil (WX.next (W.sub [(2, _), (3, _)] (.cons rfl (.cons rfl .nil)) (W.ret (WX.thenRet (WX.ret2 rfl rfl rfl ?_)))))))))))))))))))))))))))))
   exact DecAns.no M (by
    rw [hDB]
    by_cases hin : i = n
    ·split
     ·rfl
     ·exact decOf_no (fun l' a' e hh => by rw [hTs hin] at e; cases e; have := hh.2.1; omega)
    ·rw [if_pos (hbig hin)])
  ·refine WL.on rfl rfl (WL.move rfl rfl (WL.on rfl rfl (WL.len Tryz.underlying22 rfl rfl (WL.on rfl rfl (WL.conv Tryz.underlying3 Tryz.underlying47 rfl (by first | exact wU64 (by omega) | exact mU64 _ | rfl) rfl ?_)))))
   refine WL.on rfl rfl (WL.move rfl rfl (WL.on rfl rfl (WL.neI rfl rfl rfl (WL.pickF rfl rfl rfl (WL.moveIf rfl rfl (fun c7 => ?_) (fun c7 => ?_))))))
   ·refine WL.off rfl rfl rfl rfl (WL.off rfl rfl rfl rfl (WL.off rfl rfl rfl rfl (WL.pickT rfl rfl rfl (WL.move rfl rfl (WL.off rfl rfl rfl rfl (WL.off rfl rfl rfl rfl (WL.off rfl rfl rfl rfl (WL.pickT rfl rfl rfl (WL.nil (WX.next (W.sub [(6, _), (74, _)] (.cons rfl (.cons rfl .nil)) (W.condT rfl (W.seq (W.region (WL.assign rfl rfl (WL.assign rfl rfl (WL.nil (WX.next (W.sub [(2, _), (3, _)] (.cons rfl (.cons rfl .nil)) (W.ret (WX.thenRet (WX.ret2 rfl rfl rfl ?_))))))))))))))))))))))
    exact DecAns.no M (by rw [hDB, if_pos (hbig (by omega))])
   ·have hin : i = n := by omega
    refine WL.on rfl rfl (WL.move rfl rfl (WL.on rfl rfl (WL.call Tryz.call42 rfl (stRight_ok (M.rdL Has.a)) rfl ?_)))
    rintro _ w ⟨rfl, m⟩
    replace M := M.call0 m; clear m
    refine WL.on rfl rfl (WL.neI rfl rfl rfl (WL.pickF rfl rfl rfl (WL.moveIf rfl rfl (fun c8 => ?_) (fun c8 => ?_))))
    ·refine WL.off rfl rfl rfl rfl (WL.off rfl rfl rfl rfl (WL.off rfl rfl rfl rfl (WL.pickT rfl rfl rfl (WL.nil (WX.next (W.sub [(6, _), (74, _)] (.cons rfl (.cons rfl .nil)) (W.condT rfl (W.seq (W.region (WL.assign rfl rfl (WL.assign rfl rfl (WL.nil (WX.next (W.sub [(2, _), (3, _)] (.cons rfl (.cons rfl .nil)) (W.ret (WX.thenRet (WX.ret2 rfl rfl rfl ?_)))))))))))))))))
     have hnr : ¬ rightB l := fun h => by unfold rightE at c8; rw [if_pos h] at c8; exact c8 rfl
     exact DecAns.no M (by
      rw [hDB]
      split
      ·rfl
      ·exact decOf_no (fun l' a' e hh => by rw [hTs hin] at e; cases e; exact hnr hh.1))
    ·refine WL.on rfl rfl (WL.move rfl rfl (WL.on rfl rfl (WL.len Tryz.underlying84 rfl rfl (WL.on rfl rfl (WL.gtr rfl rfl rfl (WL.pickF rfl rfl rfl (WL.nil (WX.next (W.sub [(6, _), (74, _)] (.cons rfl (.cons rfl .nil)) (W.ite rfl (fun c9 => ?_) (fun c9 => ?_)))))))))))
     ·refine W.seq (W.region (WL.assign rfl rfl (WL.assign rfl rfl (WL.nil (WX.next (W.sub [(2, _), (3, _)] (.cons rfl (.cons rfl .nil)) (W.ret (WX.thenRet (WX.ret2 rfl rfl rfl ?_)))))))))
      exact DecAns.no M (by
       rw [hDB]
       split
       ·rfl
       ·exact decOf_no (fun l' a' e hh => by have := hh.2.2; omega))
     ·refine W.skip (WX.next (W.seq (W.region (WL.move rfl rfl (WL.assign rfl rfl (WL.assign rfl rfl (WL.nil (WX.next (W.sub [(2, _), (3, _)] (.cons rfl (.cons rfl .nil)) (W.ret (WX.ret2 rfl rfl rfl ?_)))))))))))
      have hrb2 : rightB l := Classical.byContradiction fun h => c8 (by unfold rightE; rw [if_neg h]; decide)
      have h32 := hrb2.1
      have hfin : decB b = some l := by
       rw [hDB, if_neg (by omega), hTs hin]
       exact if_pos ⟨hrb2, by dsimp only; omega, by omega⟩
      exact DecAns.yes (M.sel Sel.a) hfin
end
end Go.Proofs.YtlminileigfkcaaGreat
