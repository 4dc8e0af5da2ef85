/-
  Walks: where a block lies (span: set, Check, Chunks, Where), of one shape; rules for parts of a variable.
-/
import Derived.Test.YtcmlehggfkjagaaFarmLaw
import Derived.Test.YtcmlehggfkjagaaMet1
import Derived.Test.YtcmlehggfkjagaaArr
namespace Go.Proofs.Ytcmlehggfkjagaa
open Go Go.RowKit Bin

section
variable {P : Program} {n : Nat} {ρ : List (Nat × Value)} {w0 w : World} {rest : List Oper} {L L' : List Asr} {Y : Sq P n}
variable {x y : Operand} {t ty : TypeId} {pos : String} {aft : Array Edge}
/-- A store over a part of a variable. -/
theorem WL.storeSub {g o : Nat} {te : TypeId} {cs cs' vs : List Value} {s : Nat} (hs : ∀ w, (sizeOf t).run P w = .ok s w) (hx : ev ρ x = some (.pointer (some ⟨g, o, none⟩))) (hy : ev ρ y = some (.agg vs.toArray))
    (hv : ∀ u ∈ vs, u.oneCell' = true) (hl : vs.length = s) (ho : o + s ≤ cs.length) (hc : cs.take o ++ vs ++ cs.drop (o + s) = cs') (M : Mem w0 w L) (h : Upd (Asr.row g te cs) (Asr.row g te cs') L L') (kk : ∀ w', Mem w0 w' L' → Y.S rest ρ w') :
    Y.S (⟨none, .store t x y, ty, pos, aft, none⟩ :: rest) ρ w := by
  obtain ⟨K, h1, h2⟩ := h.perm
  have M1 := M.perm h1
  have e : cs.take o ++ (cs.drop o).take s ++ cs.drop (o + s) = cs := by
    rw [List.append_assoc, ← List.drop_drop, List.take_append_drop, List.take_append_drop]
  rw [← e] at M1
  refine WL.storeV (v := .agg vs.toArray) M1 hs hx hy (by simpa [Value.cells] using hv) (by rw [List.length_take]; omega) (by rw [List.length_take, List.length_drop]; omega) (by simpa [Value.cells] using hl) fun w' M' => kk w' ?_
  have M2 : Mem w0 w' (Asr.row g te (cs.take o ++ vs ++ cs.drop (o + s)) :: K) := by simpa [Value.cells] using M'
  rw [hc] at M2
  exact M2.perm h2.symm
end
section
variable {P : Program} {n : Nat} {ρ : List (Nat × Value)} {w0 w : World} {rest : List Oper} {X : SqV P n} {d : Nat} {ty : TypeId} {pos : String} {aft : Array Edge} {x y : Operand} {t e : TypeId} {k : IntKind} {j : Int}
/-- An element of an array in a variable. -/
theorem WL.idxArrR {g o m size jn : Nat} (ht : P.underlying t = some (.array m e)) (hs : ∀ w, (sizeOf e).run P w = .ok size w) (hx : ev ρ x = some (.pointer (some ⟨g, o, none⟩))) (hy : ev ρ y = some (.int k j))
    (h0 : 0 ≤ j) (h1 : j < m) (hj : j = (jn : Int)) (hd : Nat.blt d n = true)
    (kk : X.S rest ((d, .pointer (some ⟨g, o + jn * size, none⟩)) :: ρ) w) : X.S (⟨some d, .indexAddr t x y, ty, pos, aft, none⟩ :: rest) ρ w := by
  refine WL.idxArr ht hs hx hy h0 h1 hj hd ?_
  rw [add_lit]
  exact kk
theorem WL.bandNot {i r : Int} {t' : TypeId} (hx : ev ρ x = some (.int k i)) (hy : ev ρ y = some (.int k j)) (hr : bits .andNot k i j = r) (hd : Nat.blt d n = true)
    (kk : X.S rest ((d, .int k r) :: ρ) w) : X.S (⟨some d, .binOp .andNot t x y t', ty, pos, aft, none⟩ :: rest) ρ w :=
  WL.bin hx hy (eqGuard_at_int ..) (by simp [binOp_andNot, intBits_andNot, hr]) hd kk
end
theorem bs_el {l : List UInt8} {k : Nat} (h : k < l.length) : (bs l)[k]? = some (.int .u8 ((el l k).toNat : Int)) := by
  unfold bs
  rw [List.getElem?_map, el_get h]
  rfl
theorem SetAt.bs {v : UInt8} : ∀ {l : List UInt8} {k : Nat}, k < l.length → SetAt (.int .u8 (v.toNat : Int)) (Go.Proofs.Ytcmlehggfkjagaa.bs l) k (Go.Proofs.Ytcmlehggfkjagaa.bs (l.set k v))
  | _ :: _, 0, _ => .zero
  | _ :: _, _ + 1, h => .succ (SetAt.bs (by simpa using h))
theorem SetAt.bools {v : Bool} : ∀ {l : List Bool} {k : Nat}, k < l.length → SetAt (.bool v) (l.map .bool) k ((l.set k v).map .bool)
  | _ :: _, 0, _ => .zero
  | _ :: _, _ + 1, h => .succ (SetAt.bools (by simpa using h))
theorem bool_get {l : List Bool} {k : Nat} (h : k < l.length) : (l.map Value.bool)[k]? = some (.bool (el l k)) := by
  rw [List.getElem?_map, el_get h]
  rfl

def shapeC : List Value := [.int .u64 24, .int .i64 6, .int .i64 2, .int .i64 3]
def shapeV : Value := .agg #[.int .u64 24, .int .i64 6, .int .i64 2, .int .i64 3]
theorem spanSet_ok (w0 : World) : Fn Try.prog 16 [.agg #[.int .u64 24, .int .i64 6, .int .i64 2, .int .i64 3]] w0 fun v w' => v = .int .u64 12 ∧ Mem w0 w' [] := by
  have M := Mem.refl w0
  obtain ⟨w, hw⟩ : ∃ w, w = w0 := ⟨w0, rfl⟩
  refine Fn.enter Try.func16 rfl Try.ntmps16 rfl ?_
  refine W.sub [(0, _)] (.cons rfl .nil) ?_
  refine W.seq ?_
  refine W.region ?_
  refine WL.box rfl M rfl ?_
  intro g0_0 w M
  try simp only [Value.cells] at M
  try simp only [List.toList_toArray] at M
  refine WL.assign rfl rfl ?_
  refine WL.nil ?_
  refine WX.next ?_
  refine W.sub [(1, _)] (.cons rfl .nil) ?_
  refine W.seq ?_
  refine W.region ?_
  refine WL.fieldR (off := 2) Try.underlying25 rfl rfl Try.sizeOf3 rfl rfl rfl ?_
  refine WL.loadR Try.isAgg3 rfl M (by first | ((repeat (first | with_reducible exact Has.here | with_reducible refine Has.there ?_)); done) | (repeat (first | exact Has.here | refine Has.there ?_))) rfl rfl ?_
  refine WL.conv Try.underlying3 Try.underlying23 rfl (by first | exact wU64 (by omega) | exact mU64 _ | rfl) rfl ?_
  refine WL.fieldR (off := 1) Try.underlying25 rfl rfl Try.sizeOf3 rfl rfl rfl ?_
  refine WL.loadR Try.isAgg3 rfl M (by first | ((repeat (first | with_reducible exact Has.here | with_reducible refine Has.there ?_)); done) | (repeat (first | exact Has.here | refine Has.there ?_))) rfl rfl ?_
  refine WL.conv Try.underlying3 Try.underlying23 rfl (by first | exact wU64 (by omega) | exact mU64 _ | rfl) rfl ?_
  refine WL.call Try.call30 rfl (Mul64_ok 2 6 (by omega) (by omega) _) rfl ?_
  rintro _ _ ⟨rfl, rfl⟩
  refine WL.move rfl rfl ?_
  refine WL.extractL rfl rfl rfl ?_
  refine WL.extractL rfl rfl rfl ?_
  refine WL.assign rfl rfl ?_
  refine WL.assign rfl rfl ?_
  refine WL.nil ?_
  refine WX.next ?_
  refine W.sub [(4, _)] (.cons rfl .nil) ?_
  refine W.seq ?_
  refine W.region ?_
  refine WL.move rfl rfl ?_
  refine WL.assign rfl rfl ?_
  refine WL.nil ?_
  refine WX.next ?_
  refine W.sub [(2, _)] (.cons rfl .nil) ?_
  refine W.ret ?_
  refine WX.ret1 rfl rfl ?_
  exact ⟨rfl, M.sel (by first | ((repeat (first | with_reducible exact Sel.refl | with_reducible exact Sel.nil | with_reducible exact Del.here | with_reducible apply Del.there | with_reducible apply Sel.cons | with_reducible apply Sel.drop)); done) | (repeat (first | exact Sel.refl | exact Sel.nil | exact Del.here | apply Del.there | apply Sel.cons | apply Sel.drop)))⟩
set_option maxRecDepth 10000 in
theorem spanCheck_ok (w0 : World) : Fn Try.prog 9 [.agg #[.int .u64 24, .int .i64 6, .int .i64 2, .int .i64 3]] w0 fun v w' => v = .int .i64 0 ∧ Mem w0 w' [] := by
  have M := Mem.refl w0
  obtain ⟨w, hw⟩ : ∃ w, w = w0 := ⟨w0, rfl⟩
  refine Fn.enter Try.func9 rfl Try.ntmps9 rfl ?_
  refine W.sub [(0, _)] (.cons rfl .nil) ?_
  refine W.seq ?_
  refine W.region ?_
  refine WL.box rfl M rfl ?_
  intro g0_0 w M
  try simp only [Value.cells] at M
  try simp only [List.toList_toArray] at M
  refine WL.assign rfl rfl ?_
  refine WL.nil ?_
  refine WX.next ?_
  refine W.sub [(1, _)] (.cons rfl .nil) ?_
  refine W.seq ?_
  refine W.seq ?_
  refine W.region ?_
  refine WL.fieldR (off := 3) Try.underlying25 rfl rfl Try.sizeOf3 rfl rfl rfl ?_
  refine WL.loadR Try.isAgg3 rfl M (by first | ((repeat (first | with_reducible exact Has.here | with_reducible refine Has.there ?_)); done) | (repeat (first | exact Has.here | refine Has.there ?_))) rfl rfl ?_
  refine WL.lss rfl rfl rfl ?_
  refine WL.moveIf rfl rfl (fun c0 => ?_) (fun c0 => ?_)
  · exact absurd c0 (by omega)
  · refine WL.on rfl rfl ?_
    refine WL.fieldR (off := 3) Try.underlying25 rfl rfl Try.sizeOf3 rfl rfl rfl ?_
    refine WL.on rfl rfl ?_
    refine WL.loadR Try.isAgg3 rfl M (by first | ((repeat (first | with_reducible exact Has.here | with_reducible refine Has.there ?_)); done) | (repeat (first | exact Has.here | refine Has.there ?_))) rfl rfl ?_
    refine WL.on rfl rfl ?_
    refine WL.gtr rfl rfl rfl ?_
    refine WL.pickF rfl rfl rfl ?_
    refine WL.moveIf rfl rfl (fun c1 => ?_) (fun c1 => ?_)
    · exact absurd c1 (by omega)
    · refine WL.on rfl rfl ?_
      refine WL.fieldR (off := 1) Try.underlying25 rfl rfl Try.sizeOf3 rfl rfl rfl ?_
      refine WL.on rfl rfl ?_
      refine WL.loadR Try.isAgg3 rfl M (by first | ((repeat (first | with_reducible exact Has.here | with_reducible refine Has.there ?_)); done) | (repeat (first | exact Has.here | refine Has.there ?_))) rfl rfl ?_
      refine WL.on rfl rfl ?_
      refine WL.lss rfl rfl rfl ?_
      refine WL.pickF rfl rfl rfl ?_
      refine WL.moveIf rfl rfl (fun c2 => ?_) (fun c2 => ?_)
      · exact absurd c2 (by omega)
      · refine WL.on rfl rfl ?_
        refine WL.fieldR (off := 1) Try.underlying25 rfl rfl Try.sizeOf3 rfl rfl rfl ?_
        refine WL.on rfl rfl ?_
        refine WL.loadR Try.isAgg3 rfl M (by first | ((repeat (first | with_reducible exact Has.here | with_reducible refine Has.there ?_)); done) | (repeat (first | exact Has.here | refine Has.there ?_))) rfl rfl ?_
        refine WL.on rfl rfl ?_
        refine WL.gtr rfl rfl rfl ?_
        refine WL.pickF rfl rfl rfl ?_
        refine WL.moveIf rfl rfl (fun c3 => ?_) (fun c3 => ?_)
        · exact absurd c3 (by omega)
        · refine WL.on rfl rfl ?_
          refine WL.fieldR (off := 1) Try.underlying25 rfl rfl Try.sizeOf3 rfl rfl rfl ?_
          refine WL.on rfl rfl ?_
          refine WL.loadR Try.isAgg3 rfl M (by first | ((repeat (first | with_reducible exact Has.here | with_reducible refine Has.there ?_)); done) | (repeat (first | exact Has.here | refine Has.there ?_))) rfl rfl ?_
          refine WL.on rfl rfl ?_
          refine WL.fieldR (off := 3) Try.underlying25 rfl rfl Try.sizeOf3 rfl rfl rfl ?_
          refine WL.on rfl rfl ?_
          refine WL.loadR Try.isAgg3 rfl M (by first | ((repeat (first | with_reducible exact Has.here | with_reducible refine Has.there ?_)); done) | (repeat (first | exact Has.here | refine Has.there ?_))) rfl rfl ?_
          refine WL.on rfl rfl ?_
          refine WL.rem rfl rfl (by omega) (remN (by omega)) rfl ?_
          refine WL.on rfl rfl ?_
          refine WL.neI rfl rfl rfl ?_
          refine WL.pickF rfl rfl rfl ?_
          refine WL.moveIf rfl rfl (fun c4 => ?_) (fun c4 => ?_)
          · exact absurd c4 (by omega)
          · refine WL.on rfl rfl ?_
            refine WL.fieldR (off := 2) Try.underlying25 rfl rfl Try.sizeOf3 rfl rfl rfl ?_
            refine WL.on rfl rfl ?_
            refine WL.loadR Try.isAgg3 rfl M (by first | ((repeat (first | with_reducible exact Has.here | with_reducible refine Has.there ?_)); done) | (repeat (first | exact Has.here | refine Has.there ?_))) rfl rfl ?_
            refine WL.on rfl rfl ?_
            refine WL.lss rfl rfl rfl ?_
            refine WL.pickF rfl rfl rfl ?_
            refine WL.moveIf rfl rfl (fun c5 => ?_) (fun c5 => ?_)
            · exact absurd c5 (by omega)
            · refine WL.on rfl rfl ?_
              refine WL.fieldR (off := 2) Try.underlying25 rfl rfl Try.sizeOf3 rfl rfl rfl ?_
              refine WL.on rfl rfl ?_
              refine WL.loadR Try.isAgg3 rfl M (by first | ((repeat (first | with_reducible exact Has.here | with_reducible refine Has.there ?_)); done) | (repeat (first | exact Has.here | refine Has.there ?_))) rfl rfl ?_
              refine WL.on rfl rfl ?_
              refine WL.gtr rfl rfl rfl ?_
              refine WL.pickF rfl rfl rfl ?_
              refine WL.nil ?_
              refine WX.next ?_
              refine W.sub [(1, _), (38, _)] (.cons rfl (.cons rfl .nil)) ?_
              refine W.ite rfl (fun c6 => ?_) (fun c6 => ?_)
              · exact absurd c6 (by omega)
              · refine W.skip ?_
                refine WX.next ?_
                refine W.seq ?_
                refine W.seq ?_
                refine W.drawM ([Asr.row g0_0 25 [.int .u64 24, .int .i64 6, .int .i64 2, .int .i64 3]]) (by kernel_rfl) (fun j => [9, 10, 11, 12, 17, 18, 19, 20, 21].contains j) M (by first | ((repeat (first | with_reducible exact Sel.refl | with_reducible exact Sel.nil | with_reducible exact Del.here | with_reducible apply Del.there | with_reducible apply Sel.cons | with_reducible apply Sel.drop)); done) | (repeat (first | exact Sel.refl | exact Sel.nil | exact Del.here | apply Del.there | apply Sel.cons | apply Sel.drop))) ?_
                clear M; intro M
                apply DG.pure_ [0] 24 rfl (by kernel_rfl) (by kernel_rfl)
                · intro w
                  refine WL.fieldR (off := 0) Try.underlying25 rfl rfl Try.sizeOf23 rfl rfl rfl ?_
                  exact Chain.end_ rfl
                apply DG.take [1, 2] 22 rfl (by kernel_rfl) (by kernel_rfl) (M.sel (by first | ((repeat (first | with_reducible exact Sel.refl | with_reducible exact Sel.nil | with_reducible exact Del.here | with_reducible apply Del.there | with_reducible apply Sel.cons | with_reducible apply Sel.drop)); done) | (repeat (first | exact Sel.refl | exact Sel.nil | exact Del.here | apply Del.there | apply Sel.cons | apply Sel.drop))))
                · intro w M
                  refine WL.loadR Try.isAgg23 rfl M (by first | ((repeat (first | with_reducible exact Has.here | with_reducible refine Has.there ?_)); done) | (repeat (first | exact Has.here | refine Has.there ?_))) rfl rfl ?_
                  refine WL.lss rfl rfl rfl ?_
                  exact Chain.end_ rfl
                refine DG.knowP (t := 41) rfl (fun c7 => ?_) (fun c7 => ?_)
                · exact absurd c7 (by omega)
                · apply DG.pure_ [3, 4] 20 rfl (by kernel_rfl) (by kernel_rfl)
                  · intro w
                    refine WL.move rfl rfl ?_
                    refine WL.on rfl rfl ?_
                    refine WL.fieldR (off := 0) Try.underlying25 rfl rfl Try.sizeOf23 rfl rfl rfl ?_
                    exact Chain.end_ rfl
                  apply DG.take [5, 6, 7] 17 rfl (by kernel_rfl) (by kernel_rfl) (M.sel (by first | ((repeat (first | with_reducible exact Sel.refl | with_reducible exact Sel.nil | with_reducible exact Del.here | with_reducible apply Del.there | with_reducible apply Sel.cons | with_reducible apply Sel.drop)); done) | (repeat (first | exact Sel.refl | exact Sel.nil | exact Del.here | apply Del.there | apply Sel.cons | apply Sel.drop))))
                  · intro w M
                    refine WL.on rfl rfl ?_
                    refine WL.loadR Try.isAgg23 rfl M (by first | ((repeat (first | with_reducible exact Has.here | with_reducible refine Has.there ?_)); done) | (repeat (first | exact Has.here | refine Has.there ?_))) rfl rfl ?_
                    refine WL.on rfl rfl ?_
                    refine WL.gtr rfl rfl rfl ?_
                    refine WL.pickF rfl rfl rfl ?_
                    exact Chain.end_ rfl
                  refine DG.knowP (t := 46) rfl (fun c8 => ?_) (fun c8 => ?_)
                  · exact absurd c8 (by omega)
                  · apply DG.pure_ [8] 16 rfl (by kernel_rfl) (by kernel_rfl)
                    · intro w
                      refine WL.move rfl rfl ?_
                      exact Chain.end_ rfl
                    apply DG.take [9, 10, 11] 13 rfl (by kernel_rfl) (by kernel_rfl) (M.sel (by first | ((repeat (first | with_reducible exact Sel.refl | with_reducible exact Sel.nil | with_reducible exact Del.here | with_reducible apply Del.there | with_reducible apply Sel.cons | with_reducible apply Sel.drop)); done) | (repeat (first | exact Sel.refl | exact Sel.nil | exact Del.here | apply Del.there | apply Sel.cons | apply Sel.drop))))
                    · intro w M
                      refine WL.on rfl rfl ?_
                      refine WL.fieldR (off := 0) Try.underlying25 rfl rfl Try.sizeOf23 rfl rfl rfl ?_
                      refine WL.on rfl rfl ?_
                      refine WL.loadR Try.isAgg23 rfl M (by first | ((repeat (first | with_reducible exact Has.here | with_reducible refine Has.there ?_)); done) | (repeat (first | exact Has.here | refine Has.there ?_))) rfl rfl ?_
                      refine WL.on rfl rfl ?_
                      refine WL.loadW Try.isAgg25 Try.sizeOf25 rfl M (by first | ((repeat (first | with_reducible exact Has.here | with_reducible refine Has.there ?_)); done) | (repeat (first | exact Has.here | refine Has.there ?_))) rfl rfl ?_
                      exact Chain.end_ rfl
                    refine DG.step 12 12 rfl (by kernel_rfl) ?_
                    refine WL.on rfl rfl ?_
                    refine WL.call Try.call16 rfl (spanSet_ok _) rfl ?_
                    rintro _ w ⟨rfl, m⟩
                    replace M := M.call0 m; clear m
                    refine DG.go (G := fun j => [9, 10, 11, 12, 17, 18, 19, 20, 21].contains j) (i := 12) (f' := 12) (done := [0, 1, 2, 3, 4, 5, 6, 7, 8, 9, 10, 11]) (fun _ => M.sel (by first | ((repeat (first | with_reducible exact Sel.refl | with_reducible exact Sel.nil | with_reducible exact Del.here | with_reducible apply Del.there | with_reducible apply Sel.cons | with_reducible apply Sel.drop)); done) | (repeat (first | exact Sel.refl | exact Sel.nil | exact Del.here | apply Del.there | apply Sel.cons | apply Sel.drop)))) ?_
                    apply DG.pure_ [13, 14, 15] 9 rfl (by kernel_rfl) (by kernel_rfl)
                    · intro w
                      refine WL.on rfl rfl ?_
                      refine WL.rem rfl rfl (by omega) (remN (by omega)) rfl ?_
                      refine WL.on rfl rfl ?_
                      refine WL.neI rfl rfl rfl ?_
                      refine WL.pickF rfl rfl rfl ?_
                      exact Chain.end_ rfl
                    refine DG.knowP (t := 54) rfl (fun c9 => ?_) (fun c9 => ?_)
                    · exact absurd c9 (by omega)
                    · apply DG.pure_ [16] 8 rfl (by kernel_rfl) (by kernel_rfl)
                      · intro w
                        refine WL.move rfl rfl ?_
                        exact Chain.end_ rfl
                      apply DG.take [17, 18, 19, 20, 21, 22, 23, 24] 0 rfl (by kernel_rfl) (by kernel_rfl) (M.sel (by first | ((repeat (first | with_reducible exact Sel.refl | with_reducible exact Sel.nil | with_reducible exact Del.here | with_reducible apply Del.there | with_reducible apply Sel.cons | with_reducible apply Sel.drop)); done) | (repeat (first | exact Sel.refl | exact Sel.nil | exact Del.here | apply Del.there | apply Sel.cons | apply Sel.drop))))
                      · intro w M
                        refine WL.on rfl rfl ?_
                        refine WL.fieldR (off := 0) Try.underlying25 rfl rfl Try.sizeOf23 rfl rfl rfl ?_
                        refine WL.on rfl rfl ?_
                        refine WL.loadR Try.isAgg23 rfl M (by first | ((repeat (first | with_reducible exact Has.here | with_reducible refine Has.there ?_)); done) | (repeat (first | exact Has.here | refine Has.there ?_))) rfl rfl ?_
                        refine WL.on rfl rfl ?_
                        refine WL.fieldR (off := 1) Try.underlying25 rfl rfl Try.sizeOf3 rfl rfl rfl ?_
                        refine WL.on rfl rfl ?_
                        refine WL.loadR Try.isAgg3 rfl M (by first | ((repeat (first | with_reducible exact Has.here | with_reducible refine Has.there ?_)); done) | (repeat (first | exact Has.here | refine Has.there ?_))) rfl rfl ?_
                        refine WL.on rfl rfl ?_
                        refine WL.conv Try.underlying3 Try.underlying23 rfl (by first | exact wU64 (by omega) | exact mU64 _ | rfl) rfl ?_
                        refine WL.on rfl rfl ?_
                        refine WL.quo rfl rfl (by omega) (quoU64 (by omega)) rfl ?_
                        refine WL.on rfl rfl ?_
                        refine WL.gtr rfl rfl rfl ?_
                        refine WL.pickF rfl rfl rfl ?_
                        exact Chain.end_ rfl
                      refine DG.end_ (by kernel_rfl) ?_
                      refine WX.next ?_
                      refine W.sub [(63, _)] (.cons rfl .nil) ?_
                      refine W.ite rfl (fun c10 => ?_) (fun c10 => ?_)
                      · exact absurd c10 (by omega)
                      · refine W.skip ?_
                        refine WX.next ?_
                        refine W.seq ?_
                        refine W.region ?_
                        refine WL.assign rfl rfl ?_
                        refine WL.nil ?_
                        refine WX.next ?_
                        refine W.sub [(2, _)] (.cons rfl .nil) ?_
                        refine W.ret ?_
                        refine WX.ret1 rfl rfl ?_
                        exact ⟨rfl, M.sel (by first | ((repeat (first | with_reducible exact Sel.refl | with_reducible exact Sel.nil | with_reducible exact Del.here | with_reducible apply Del.there | with_reducible apply Sel.cons | with_reducible apply Sel.drop)); done) | (repeat (first | exact Sel.refl | exact Sel.nil | exact Del.here | apply Del.there | apply Sel.cons | apply Sel.drop)))⟩
theorem Chunks_ok (w0 : World) : Fn Try.prog 4 [.agg #[.int .u64 24, .int .i64 6, .int .i64 2, .int .i64 3]] w0 fun v w' => v = .int .i64 4 ∧ Mem w0 w' [] := by
  have M := Mem.refl w0
  obtain ⟨w, hw⟩ : ∃ w, w = w0 := ⟨w0, rfl⟩
  refine Fn.enter Try.func4 rfl Try.ntmps4 rfl ?_
  refine W.sub [(0, _)] (.cons rfl .nil) ?_
  refine W.seq ?_
  refine W.region ?_
  refine WL.box rfl M rfl ?_
  intro g0_0 w M
  try simp only [Value.cells] at M
  try simp only [List.toList_toArray] at M
  refine WL.assign rfl rfl ?_
  refine WL.nil ?_
  refine WX.next ?_
  refine W.sub [(1, _)] (.cons rfl .nil) ?_
  refine W.seq ?_
  refine W.seq ?_
  refine W.region ?_
  refine WL.loadW Try.isAgg25 Try.sizeOf25 rfl M (by first | ((repeat (first | with_reducible exact Has.here | with_reducible refine Has.there ?_)); done) | (repeat (first | exact Has.here | refine Has.there ?_))) rfl rfl ?_
  refine WL.call Try.call9 rfl (spanCheck_ok w) rfl ?_
  rintro _ w ⟨rfl, m⟩
  replace M := M.call0 m; clear m
  refine WL.neI rfl rfl rfl ?_
  refine WL.nil ?_
  refine WX.next ?_
  refine W.sub [(1, _), (5, _)] (.cons rfl (.cons rfl .nil)) ?_
  refine W.ite rfl (fun c0 => ?_) (fun c0 => ?_)
  · exact absurd rfl c0
  · refine W.skip ?_
    refine WX.next ?_
    refine W.seq ?_
    refine W.region ?_
    refine WL.fieldR (off := 0) Try.underlying25 rfl rfl Try.sizeOf23 rfl rfl rfl ?_
    refine WL.loadR Try.isAgg23 rfl M (by first | ((repeat (first | with_reducible exact Has.here | with_reducible refine Has.there ?_)); done) | (repeat (first | exact Has.here | refine Has.there ?_))) rfl rfl ?_
    refine WL.fieldR (off := 1) Try.underlying25 rfl rfl Try.sizeOf3 rfl rfl rfl ?_
    refine WL.loadR Try.isAgg3 rfl M (by first | ((repeat (first | with_reducible exact Has.here | with_reducible refine Has.there ?_)); done) | (repeat (first | exact Has.here | refine Has.there ?_))) rfl rfl ?_
    refine WL.conv Try.underlying3 Try.underlying23 rfl (by first | exact wU64 (by omega) | exact mU64 _ | rfl) rfl ?_
    refine WL.quo rfl rfl (by omega) (quoU64 (by omega)) rfl ?_
    refine WL.conv Try.underlying23 Try.underlying3 rfl (by first | exact wI64 (by omega) | rfl) rfl ?_
    refine WL.assign rfl rfl ?_
    refine WL.nil ?_
    refine WX.next ?_
    refine W.sub [(2, _)] (.cons rfl .nil) ?_
    refine W.ret ?_
    refine WX.ret1 rfl rfl ?_
    exact ⟨rfl, M.sel (by first | ((repeat (first | with_reducible exact Sel.refl | with_reducible exact Sel.nil | with_reducible exact Del.here | with_reducible apply Del.there | with_reducible apply Sel.cons | with_reducible apply Sel.drop)); done) | (repeat (first | exact Sel.refl | exact Sel.nil | exact Del.here | apply Del.there | apply Sel.cons | apply Sel.drop)))⟩
theorem Div64_ok {b : Nat} (hb : b < 24) (w0 : World) : Fn Try.prog 18 [.int .u64 0, .int .u64 (b : Int), .int .u64 12] w0 fun v w' => v = .tuple #[.int .u64 ((b / 12 : Nat) : Int), .int .u64 ((b % 12 : Nat) : Int)] ∧ Mem w0 w' [] := by
  have M := Mem.refl w0
  obtain ⟨w, hw⟩ : ∃ w, w = w0 := ⟨w0, rfl⟩
  refine Fn.enter Try.func18 rfl Try.ntmps18 rfl ?_
  refine W.sub [(0, _), (1, _), (2, _)] (.cons rfl (.cons rfl (.cons rfl .nil))) ?_
  refine W.seq ?_
  refine W.region ?_
  refine WL.assign rfl rfl ?_
  refine WL.assign rfl rfl ?_
  refine WL.nil ?_
  refine WX.next ?_
  refine W.sub [(0, _), (1, _), (2, _)] (.cons rfl (.cons rfl (.cons rfl .nil))) ?_
  refine W.seq ?_
  refine W.seq ?_
  refine W.region ?_
  refine WL.move rfl rfl ?_
  refine WL.eqI rfl rfl rfl ?_
  refine WL.nil ?_
  refine WX.next ?_
  refine W.sub [(0, _), (1, _), (2, _), (20, _)] (.cons rfl (.cons rfl (.cons rfl (.cons rfl .nil)))) ?_
  refine W.ite rfl (fun c0 => ?_) (fun c0 => ?_)
  · exact absurd c0 (by omega)
  · refine W.skip ?_
    refine WX.next ?_
    refine W.seq ?_
    refine W.seq ?_
    refine W.region ?_
    refine WL.move rfl rfl ?_
    refine WL.move rfl rfl ?_
    refine WL.leq rfl rfl rfl ?_
    refine WL.nil ?_
    refine WX.next ?_
    refine W.sub [(0, _), (1, _), (2, _), (24, _)] (.cons rfl (.cons rfl (.cons rfl (.cons rfl .nil)))) ?_
    refine W.ite rfl (fun c1 => ?_) (fun c1 => ?_)
    · exact absurd c1 (by omega)
    · refine W.skip ?_
      refine WX.next ?_
      refine W.seq ?_
      refine W.seq ?_
      refine W.region ?_
      refine WL.move rfl rfl ?_
      refine WL.eqI rfl rfl rfl ?_
      refine WL.nil ?_
      refine WX.next ?_
      refine W.sub [(0, _), (1, _), (2, _), (27, _)] (.cons rfl (.cons rfl (.cons rfl (.cons rfl .nil)))) ?_
      refine W.ite rfl (fun c2 => ?_) (fun c2 => ?_)
      · refine W.seq ?_
        refine W.drawM ([]) (by kernel_rfl) (fun _ => false) M (by first | ((repeat (first | with_reducible exact Sel.refl | with_reducible exact Sel.nil | with_reducible exact Del.here | with_reducible apply Del.there | with_reducible apply Sel.cons | with_reducible apply Sel.drop)); done) | (repeat (first | exact Sel.refl | exact Sel.nil | exact Del.here | apply Del.there | apply Sel.cons | apply Sel.drop))) ?_
        clear M; intro M
        apply DG.pure_ [0, 1, 2, 3, 4, 5, 6, 7] 0 rfl (by kernel_rfl) (by kernel_rfl)
        · intro w
          refine WL.move rfl rfl ?_
          refine WL.move rfl rfl ?_
          refine WL.quo rfl rfl (by omega) (quoU64 (by omega)) rfl ?_
          refine WL.move rfl rfl ?_
          refine WL.move rfl rfl ?_
          refine WL.rem rfl rfl (by omega) (remN (by omega)) rfl ?_
          refine WL.assign rfl rfl ?_
          refine WL.assign rfl rfl ?_
          exact Chain.end_ rfl
        refine DG.end_ (by kernel_rfl) ?_
        refine WX.next ?_
        refine W.sub [(6, _), (7, _)] (.cons rfl (.cons rfl .nil)) ?_
        refine W.ret ?_
        refine WX.thenRet ?_
        refine WX.ret2 rfl rfl rfl ?_
        exact ⟨by push_cast; rfl, M.sel (by first | ((repeat (first | with_reducible exact Sel.refl | with_reducible exact Sel.nil | with_reducible exact Del.here | with_reducible apply Del.there | with_reducible apply Sel.cons | with_reducible apply Sel.drop)); done) | (repeat (first | exact Sel.refl | exact Sel.nil | exact Del.here | apply Del.there | apply Sel.cons | apply Sel.drop)))⟩
      · exact absurd rfl c2
set_option maxRecDepth 10000 in
theorem where_ok {b : Nat} (hb : b < 24) (w0 : World) : Fn Try.prog 13 [.agg #[.int .u64 24, .int .i64 6, .int .i64 2, .int .i64 3], .int .u64 (b : Int)] w0 fun v w' => v = .tuple #[.int .i64 (cOf b : Int), .int .i64 (aOf b : Int)] ∧ Mem w0 w' [] := by
  have M := Mem.refl w0
  obtain ⟨w, hw⟩ : ∃ w, w = w0 := ⟨w0, rfl⟩
  refine Fn.enter Try.func13 rfl Try.ntmps13 rfl ?_
  refine W.sub [(0, _), (1, _)] (.cons rfl (.cons rfl .nil)) ?_
  refine W.seq ?_
  refine W.region ?_
  refine WL.box rfl M rfl ?_
  intro g0_0 w M
  try simp only [Value.cells] at M
  try simp only [List.toList_toArray] at M
  refine WL.assign rfl rfl ?_
  refine WL.assign rfl rfl ?_
  refine WL.nil ?_
  refine WX.next ?_
  refine W.sub [(1, _), (2, _)] (.cons rfl (.cons rfl .nil)) ?_
  refine W.seq ?_
  refine W.region ?_
  refine WL.move rfl rfl ?_
  refine WL.loadW Try.isAgg25 Try.sizeOf25 rfl M (by first | ((repeat (first | with_reducible exact Has.here | with_reducible refine Has.there ?_)); done) | (repeat (first | exact Has.here | refine Has.there ?_))) rfl rfl ?_
  refine WL.call Try.call16 rfl (spanSet_ok w) rfl ?_
  rintro _ w ⟨rfl, m⟩
  replace M := M.call0 m; clear m
  refine WL.call Try.call18 rfl (Div64_ok hb w) rfl ?_
  rintro _ w ⟨rfl, m⟩
  replace M := M.call0 m; clear m
  refine WL.move rfl rfl ?_
  refine WL.extractL rfl rfl rfl ?_
  refine WL.extractL rfl rfl rfl ?_
  refine WL.assign rfl rfl ?_
  refine WL.assign rfl rfl ?_
  refine WL.nil ?_
  refine WX.next ?_
  refine W.sub [(2, _), (6, _), (7, _)] (.cons rfl (.cons rfl (.cons rfl .nil))) ?_
  refine W.seq ?_
  refine W.drawM ([Asr.row g0_0 25 [.int .u64 24, .int .i64 6, .int .i64 2, .int .i64 3]]) (by kernel_rfl) (fun j => [3, 4, 8, 9, 10].contains j) M (by first | ((repeat (first | with_reducible exact Sel.refl | with_reducible exact Sel.nil | with_reducible exact Del.here | with_reducible apply Del.there | with_reducible apply Sel.cons | with_reducible apply Sel.drop)); done) | (repeat (first | exact Sel.refl | exact Sel.nil | exact Del.here | apply Del.there | apply Sel.cons | apply Sel.drop))) ?_
  clear M; intro M
  apply DG.pure_ [0, 1, 2, 5, 6, 7] 6 rfl (by kernel_rfl) (by kernel_rfl)
  · intro w
    refine WL.move rfl rfl ?_
    refine WL.conv Try.underlying23 Try.underlying3 rfl (by first | exact wI64 (by omega) | rfl) rfl ?_
    refine WL.fieldR (off := 3) Try.underlying25 rfl rfl Try.sizeOf3 rfl rfl rfl ?_
    refine WL.move rfl rfl ?_
    refine WL.conv Try.underlying23 Try.underlying3 rfl (by first | exact wI64 (by omega) | rfl) rfl ?_
    refine WL.fieldR (off := 3) Try.underlying25 rfl rfl Try.sizeOf3 rfl rfl rfl ?_
    exact Chain.end_ rfl
  apply DG.take [3, 4, 8, 9, 10, 11] 0 rfl (by kernel_rfl) (by kernel_rfl) (M.sel (by first | ((repeat (first | with_reducible exact Sel.refl | with_reducible exact Sel.nil | with_reducible exact Del.here | with_reducible apply Del.there | with_reducible apply Sel.cons | with_reducible apply Sel.drop)); done) | (repeat (first | exact Sel.refl | exact Sel.nil | exact Del.here | apply Del.there | apply Sel.cons | apply Sel.drop))))
  · intro w M
    refine WL.loadR Try.isAgg3 rfl M (by first | ((repeat (first | with_reducible exact Has.here | with_reducible refine Has.there ?_)); done) | (repeat (first | exact Has.here | refine Has.there ?_))) rfl rfl ?_
    refine WL.quo rfl rfl (by omega) (quoI64 (by omega)) rfl ?_
    refine WL.loadR Try.isAgg3 rfl M (by first | ((repeat (first | with_reducible exact Has.here | with_reducible refine Has.there ?_)); done) | (repeat (first | exact Has.here | refine Has.there ?_))) rfl rfl ?_
    refine WL.rem rfl rfl (by omega) (remN (by omega)) rfl ?_
    refine WL.assign rfl rfl ?_
    refine WL.assign rfl rfl ?_
    exact Chain.end_ rfl
  refine DG.end_ (by kernel_rfl) ?_
  refine WX.next ?_
  refine W.sub [(2, _), (6, _), (8, _), (9, _)] (.cons rfl (.cons rfl (.cons rfl (.cons rfl .nil)))) ?_
  refine W.seq ?_
  refine W.drawM ([Asr.row g0_0 25 [.int .u64 24, .int .i64 6, .int .i64 2, .int .i64 3]]) (by kernel_rfl) (fun j => [3, 4, 7, 8, 9, 12, 13, 15, 16, 18, 19].contains j) M (by first | ((repeat (first | with_reducible exact Sel.refl | with_reducible exact Sel.nil | with_reducible exact Del.here | with_reducible apply Del.there | with_reducible apply Sel.cons | with_reducible apply Sel.drop)); done) | (repeat (first | exact Sel.refl | exact Sel.nil | exact Del.here | apply Del.there | apply Sel.cons | apply Sel.drop))) ?_
  clear M; intro M
  apply DG.pure_ [0, 1, 2, 5, 6, 10, 11, 14, 17] 12 rfl (by kernel_rfl) (by kernel_rfl)
  · intro w
    refine WL.move rfl rfl ?_
    refine WL.conv Try.underlying23 Try.underlying3 rfl (by first | exact wI64 (by omega) | rfl) rfl ?_
    refine WL.fieldR (off := 2) Try.underlying25 rfl rfl Try.sizeOf3 rfl rfl rfl ?_
    refine WL.move rfl rfl ?_
    refine WL.fieldR (off := 2) Try.underlying25 rfl rfl Try.sizeOf3 rfl rfl rfl ?_
    refine WL.move rfl rfl ?_
    refine WL.fieldR (off := 2) Try.underlying25 rfl rfl Try.sizeOf3 rfl rfl rfl ?_
    refine WL.fieldR (off := 3) Try.underlying25 rfl rfl Try.sizeOf3 rfl rfl rfl ?_
    refine WL.move rfl rfl ?_
    exact Chain.end_ rfl
  apply DG.take [3, 4, 7, 8, 9, 12, 13, 15, 16, 18, 19, 20] 0 rfl (by kernel_rfl) (by kernel_rfl) (M.sel (by first | ((repeat (first | with_reducible exact Sel.refl | with_reducible exact Sel.nil | with_reducible exact Del.here | with_reducible apply Del.there | with_reducible apply Sel.cons | with_reducible apply Sel.drop)); done) | (repeat (first | exact Sel.refl | exact Sel.nil | exact Del.here | apply Del.there | apply Sel.cons | apply Sel.drop))))
  · intro w M
    refine WL.loadR Try.isAgg3 rfl M (by first | ((repeat (first | with_reducible exact Has.here | with_reducible refine Has.there ?_)); done) | (repeat (first | exact Has.here | refine Has.there ?_))) rfl rfl ?_
    refine WL.mul rfl rfl (by first | exact wI64 (by omega) | rfl) rfl ?_
    refine WL.loadR Try.isAgg3 rfl M (by first | ((repeat (first | with_reducible exact Has.here | with_reducible refine Has.there ?_)); done) | (repeat (first | exact Has.here | refine Has.there ?_))) rfl rfl ?_
    refine WL.rem rfl rfl (by omega) (remN (by omega)) rfl ?_
    refine WL.add rfl rfl (by first | exact wI64 (by omega) | rfl) rfl ?_
    refine WL.loadR Try.isAgg3 rfl M (by first | ((repeat (first | with_reducible exact Has.here | with_reducible refine Has.there ?_)); done) | (repeat (first | exact Has.here | refine Has.there ?_))) rfl rfl ?_
    refine WL.quo rfl rfl (by omega) (quoI64 (by omega)) rfl ?_
    refine WL.loadR Try.isAgg3 rfl M (by first | ((repeat (first | with_reducible exact Has.here | with_reducible refine Has.there ?_)); done) | (repeat (first | exact Has.here | refine Has.there ?_))) rfl rfl ?_
    refine WL.mul rfl rfl (by first | exact wI64 (by omega) | rfl) rfl ?_
    refine WL.add rfl rfl (by first | exact wI64 (by omega) | rfl) rfl ?_
    refine WL.assign rfl rfl ?_
    refine WL.assign rfl rfl ?_
    exact Chain.end_ rfl
  refine DG.end_ (by kernel_rfl) ?_
  refine WX.next ?_
  refine W.sub [(4, _), (5, _)] (.cons rfl (.cons rfl .nil)) ?_
  refine W.ret ?_
  refine WX.ret2 rfl rfl rfl ?_
  refine ⟨?_, M.sel (by first | ((repeat (first | with_reducible exact Sel.refl | with_reducible exact Sel.nil | with_reducible exact Del.here | with_reducible apply Del.there | with_reducible apply Sel.cons | with_reducible apply Sel.drop)); done) | (repeat (first | exact Sel.refl | exact Sel.nil | exact Del.here | apply Del.there | apply Sel.cons | apply Sel.drop)))⟩
  have e1 : ((b / 12 : Nat) : Int) * 2 + ((b % 12 : Nat) : Int) / 3 % 2 = (cOf b : Int) := by unfold cOf; omega
  have e2 : ((b % 12 : Nat) : Int) / 3 / 2 * 3 + ((b % 12 : Nat) : Int) % 3 = (aOf b : Int) := by unfold aOf; omega
  rw [e1, e2]
theorem Where_ok {b : Nat} (hb : b < 24) (w0 : World) : Fn Try.prog 6 [.agg #[.int .u64 24, .int .i64 6, .int .i64 2, .int .i64 3], .int .u64 (b : Int)] w0 fun v w' => v = .tuple #[.int .i64 (cOf b : Int), .int .i64 (aOf b : Int), .int .i64 0] ∧ Mem w0 w' [] := by
  have M := Mem.refl w0
  obtain ⟨w, hw⟩ : ∃ w, w = w0 := ⟨w0, rfl⟩
  refine Fn.enter Try.func6 rfl Try.ntmps6 rfl ?_
  refine W.sub [(0, _), (1, _)] (.cons rfl (.cons rfl .nil)) ?_
  refine W.seq ?_
  refine W.region ?_
  refine WL.box rfl M rfl ?_
  intro g0_0 w M
  try simp only [Value.cells] at M
  try simp only [List.toList_toArray] at M
  refine WL.assign rfl rfl ?_
  refine WL.assign rfl rfl ?_
  refine WL.assign rfl rfl ?_
  refine WL.nil ?_
  refine WX.next ?_
  refine W.sub [(1, _), (2, _)] (.cons rfl (.cons rfl .nil)) ?_
  refine W.seq ?_
  refine W.seq ?_
  refine W.region ?_
  refine WL.loadW Try.isAgg25 Try.sizeOf25 rfl M (by first | ((repeat (first | with_reducible exact Has.here | with_reducible refine Has.there ?_)); done) | (repeat (first | exact Has.here | refine Has.there ?_))) rfl rfl ?_
  refine WL.call Try.call9 rfl (spanCheck_ok w) rfl ?_
  rintro _ w ⟨rfl, m⟩
  replace M := M.call0 m; clear m
  refine WL.assign rfl rfl ?_
  refine WL.nil ?_
  refine WX.next ?_
  refine W.sub [(1, _), (2, _), (7, _)] (.cons rfl (.cons rfl (.cons rfl .nil))) ?_
  refine W.seq ?_
  refine W.region ?_
  refine WL.move rfl rfl ?_
  refine WL.neI rfl rfl rfl ?_
  refine WL.nil ?_
  refine WX.next ?_
  refine W.sub [(1, _), (2, _), (7, _), (13, _)] (.cons rfl (.cons rfl (.cons rfl (.cons rfl .nil)))) ?_
  refine W.ite rfl (fun c0 => ?_) (fun c0 => ?_)
  · exact absurd rfl c0
  · refine W.skip ?_
    refine WX.next ?_
    refine W.seq ?_
    refine W.seq ?_
    refine W.region ?_
    refine WL.move rfl rfl ?_
    refine WL.fieldR (off := 0) Try.underlying25 rfl rfl Try.sizeOf23 rfl rfl rfl ?_
    refine WL.loadR Try.isAgg23 rfl M (by first | ((repeat (first | with_reducible exact Has.here | with_reducible refine Has.there ?_)); done) | (repeat (first | exact Has.here | refine Has.there ?_))) rfl rfl ?_
    refine WL.geq rfl rfl rfl ?_
    refine WL.nil ?_
    refine WX.next ?_
    refine W.sub [(1, _), (2, _), (18, _)] (.cons rfl (.cons rfl (.cons rfl .nil))) ?_
    refine W.ite rfl (fun c1 => ?_) (fun c1 => ?_)
    · exact absurd c1 (by omega)
    · refine W.skip ?_
      refine WX.next ?_
      refine W.seq ?_
      refine W.region ?_
      refine WL.loadW Try.isAgg25 Try.sizeOf25 rfl M (by first | ((repeat (first | with_reducible exact Has.here | with_reducible refine Has.there ?_)); done) | (repeat (first | exact Has.here | refine Has.there ?_))) rfl rfl ?_
      refine WL.move rfl rfl ?_
      refine WL.call Try.call13 rfl (where_ok hb w) rfl ?_
      rintro _ w ⟨rfl, m⟩
      replace M := M.call0 m; clear m
      refine WL.move rfl rfl ?_
      refine WL.extractL rfl rfl rfl ?_
      refine WL.extractL rfl rfl rfl ?_
      refine WL.assign rfl rfl ?_
      refine WL.assign rfl rfl ?_
      refine WL.nil ?_
      refine WX.next ?_
      refine W.sub [(8, _), (9, _)] (.cons rfl (.cons rfl .nil)) ?_
      refine W.seq ?_
      refine W.region ?_
      refine WL.move rfl rfl ?_
      refine WL.move rfl rfl ?_
      refine WL.assign rfl rfl ?_
      refine WL.assign rfl rfl ?_
      refine WL.assign rfl rfl ?_
      refine WL.nil ?_
      refine WX.next ?_
      refine W.sub [(4, _), (5, _), (6, _)] (.cons rfl (.cons rfl (.cons rfl .nil))) ?_
      refine W.ret ?_
      refine WX.ret3 rfl rfl rfl rfl ?_
      exact ⟨rfl, M.sel (by first | ((repeat (first | with_reducible exact Sel.refl | with_reducible exact Sel.nil | with_reducible exact Del.here | with_reducible apply Del.there | with_reducible apply Sel.cons | with_reducible apply Sel.drop)); done) | (repeat (first | exact Sel.refl | exact Sel.nil | exact Del.here | apply Del.there | apply Sel.cons | apply Sel.drop)))⟩
end Go.Proofs.Ytcmlehggfkjagaa
