/-
  Walks: jobs, flows (drr); what of package slices is used.
-/
import Derived.Test.YtdhmopmfnnlhcaaSlices
namespace Go.Proofs.Ytdhmopmfnnlhcaa
open Go Go.RowKit

/-- A job. -/
structure JX where
  flow : Int
  cost : Int
  id : Nat
deriving DecidableEq
instance : Inhabited JX := ⟨⟨0, 0, 0⟩⟩
def jobE : Enc JX := ⟨31, 3, fun j => [.int .i64 j.flow, .int .i64 j.cost, .int .u64 (j.id : Int)], fun _ => rfl, (fun a v hv => by
  simp only [List.mem_cons, List.not_mem_nil, or_false] at hv
  rcases hv with rfl | rfl | rfl <;> rfl), by decide⟩
def JX.v (j : JX) : Value := .agg #[.int .i64 j.flow, .int .i64 j.cost, .int .u64 (j.id : Int)]
theorem Try.elem31 : Elem Try.prog 27 31 3 24 := by
  obtain ⟨i, hi, h1, h2, h3⟩ := info_parts (P := Try.prog) (e := 31) (z := .agg #[.int .i64 0, .int .i64 0, .int .u64 0]) (size := 3) (bytes := 24) (by kernel_rfl)
  exact ⟨Try.underlying27, ⟨i, _, hi, h1, h2, h3, rfl⟩, by decide⟩
/-- A flow as it lies. -/
structure FwX where
  share : Int
  credit : Int
  A : Option Addr
  cap : Nat
  jobs : List JX
instance : Inhabited FwX := ⟨⟨0, 0, none, 0, []⟩⟩
def flowE : Enc FwX := ⟨62, 3, fun f => [.int .i64 f.share, .int .i64 f.credit, .slice f.A f.jobs.length f.cap], fun _ => rfl, (fun a v hv => by
  simp only [List.mem_cons, List.not_mem_nil, or_false] at hv
  rcases hv with rfl | rfl | rfl <;> rfl), by decide⟩
def FwX.O (f : FwX) : Asr := Asr.lst jobE f.A f.cap f.jobs
theorem Try.elem62 : Elem Try.prog 57 62 3 40 := by
  obtain ⟨i, hi, h1, h2, h3⟩ := info_parts (P := Try.prog) (e := 62) (z := .agg #[.int .i64 0, .int .i64 0, .slice none 0 0]) (size := 3) (bytes := 40) (by kernel_rfl)
  exact ⟨Try.underlying57, ⟨i, _, hi, h1, h2, h3, rfl⟩, by decide⟩

theorem sDelI_ok {A : Option Addr} {cap : Nat} {l : List Int} (i j : Nat) (hij : i < j) (hj : j ≤ l.length) (hl : l.length ≤ 1000000) (w0 w : World) (L L' : List Asr) (M : Mem w0 w L) (hd : Del (Asr.lst intE A cap l) L L') :
    Fn Try.prog 29 [.slice A l.length cap, .int .i64 (i : Int), .int .i64 (j : Int)] w fun v w' => v = .slice A (l.take i ++ l.drop j).length cap ∧ Mem w0 w' (Asr.lst intE A cap (l.take i ++ l.drop j) :: L') := by
  replace M := M.del hd
  obtain ⟨g, rfl⟩ := M.lstSome (by omega)
  have hcap : l.length ≤ cap := (M.rdL .here : RdL w intE _ _ l).le
  have hlen : (l.take i ++ l.drop j).length = l.length - (j - i) := by rw [List.length_append, List.length_take, List.length_drop]; omega
  have hone : ∀ z, (∀ w : World, (zeroValue 3).run Try.prog w = .ok z w) → ∀ v ∈ z.cells.toList, v.oneCell' = true := by
    intro z hz
    have h := (Try.zeroValue3 w0).symm.trans (hz w0)
    cases h
    intro v hv
    simp [Value.cells] at hv
    first
    | (subst hv; rfl)
    | (rcases hv with rfl | rfl <;> rfl)
    | (rcases hv with rfl | rfl | rfl <;> rfl)
  refine Fn.enter Try.func29 rfl Try.ntmps29 rfl ?_
  refine W.sub [(0, _), (1, _), (2, _)] (.cons rfl (.cons rfl (.cons rfl .nil))) ?_
  refine W.seq ?_
  refine W.region ?_
  refine WL.assign rfl rfl ?_
  refine WL.nil ?_
  refine WX.next ?_
  refine W.sub [(0, _), (1, _), (2, _)] (.cons rfl (.cons rfl (.cons rfl .nil))) ?_
  refine W.seq ?_
  refine W.region ?_
  refine WL.move rfl rfl ?_
  refine WL.move rfl rfl ?_
  refine WL.move rfl rfl ?_
  refine WL.move rfl rfl ?_
  refine WL.len Try.underlying22 rfl rfl ?_
  refine WL.slice3 Try.underlying22 Try.sizeOf3 rfl rfl rfl rfl (by omega) (by omega) (by omega) rfl ?_
  intro v13
  refine WL.nil ?_
  refine WX.next ?_
  refine W.sub [(0, _), (1, _), (2, _)] (.cons rfl (.cons rfl (.cons rfl .nil))) ?_
  refine W.seq ?_
  refine W.seq ?_
  refine W.region ?_
  refine WL.move rfl rfl ?_
  refine WL.move rfl rfl ?_
  refine WL.eqI rfl rfl rfl ?_
  refine WL.nil ?_
  refine WX.next ?_
  refine W.sub [(0, _), (1, _), (2, _), (16, _)] (.cons rfl (.cons rfl (.cons rfl (.cons rfl .nil)))) ?_
  refine W.ite rfl (fun c0 => ?_) (fun c0 => ?_)
  · exact absurd c0 (by omega)
  · refine W.skip ?_
    refine WX.next ?_
    refine W.seq ?_
    refine W.region ?_
    refine WL.move rfl rfl ?_
    refine WL.len Try.underlying22 rfl rfl ?_
    refine WL.assign rfl rfl ?_
    refine WL.nil ?_
    refine WX.next ?_
    refine W.sub [(0, _), (1, _), (2, _), (7, _)] (.cons rfl (.cons rfl (.cons rfl (.cons rfl .nil)))) ?_
    refine W.seq ?_
    refine W.drawM (_) (by kernel_rfl) (fun _ => false) M Sel.refl ?_
    clear M; intro M
    apply DG.pure_ [0, 1, 2, 3, 4, 5] 2 rfl (by kernel_rfl) (by kernel_rfl)
    · intro w
      refine WL.move rfl rfl ?_
      refine WL.move rfl rfl ?_
      refine WL.cutH Try.underlying22 Try.sizeOf3 rfl rfl (by omega) (by omega) rfl rfl ?_
      refine WL.move rfl rfl ?_
      refine WL.move rfl rfl ?_
      refine WL.cutL Try.underlying22 Try.sizeOf3 rfl rfl (by omega) (by omega) (by first | exact rfl | exact (Int.toNat_of_nonneg (by omega)).symm) rfl rfl ?_
      exact Chain.end_ rfl
    refine DG.step 6 1 rfl (by kernel_rfl) ?_
    refine WL.appendIn (E := intE) (l := l.take i) (news := l.drop j) Try.elem3 rfl rfl (M.lstPre i (by omega)) .here (RdL.suf (M.rdL .here) hj) (by simp; omega) (by simp) (by rw [List.length_take, List.length_drop]; omega) rfl ?_
    intro w M
    refine DG.go (G := fun _ => false) (i := 6) (f' := 1) (done := [0, 1, 2, 3, 4, 5]) (fun h => by cases h) ?_
    apply DG.pure_ [7] 0 rfl (by kernel_rfl) (by kernel_rfl)
    · intro w
      refine WL.assign rfl rfl ?_
      exact Chain.end_ rfl
    refine DG.end_ (by kernel_rfl) ?_
    refine WX.next ?_
    refine W.sub [(0, _), (7, _)] (.cons rfl (.cons rfl .nil)) ?_
    refine W.seq ?_
    refine W.region ?_
    refine WL.move rfl rfl ?_
    refine WL.move rfl rfl ?_
    refine WL.len Try.underlying22 rfl rfl ?_
    refine WL.move rfl rfl ?_
    refine WL.cutLH Try.underlying22 Try.sizeOf3 rfl rfl rfl (by omega) (by omega) (by omega) (by first | exact rfl | exact (Int.toNat_of_nonneg (by omega)).symm) (by first | exact rfl | exact (Int.toNat_of_nonneg (by omega)).symm) rfl rfl ?_
    have hcut : cutA (some ⟨g, 0, none⟩) (l.take i ++ l.drop j).length 1 cap = some ⟨g, (l.take i ++ l.drop j).length * 1, none⟩ := by
      unfold cutA
      rw [if_neg (by omega)]
      simp [add_lit]
    rw [hcut]
    refine WL.clearTail (E := intE) (l := l.take i ++ l.drop j) Try.elem3 hone rfl rfl M .here (by omega) ?_
    intro w M
    refine WL.nil ?_
    refine WX.next ?_
    refine W.sub [(0, _)] (.cons rfl .nil) ?_
    refine W.seq ?_
    refine W.region ?_
    refine WL.move rfl rfl ?_
    refine WL.assign rfl rfl ?_
    refine WL.nil ?_
    refine WX.next ?_
    refine W.sub [(6, _)] (.cons rfl .nil) ?_
    refine W.ret ?_
    refine WX.ret1 rfl rfl ?_
    exact ⟨rfl, M⟩
theorem sDelJ_ok {A : Option Addr} {cap : Nat} {l : List JX} (i j : Nat) (hij : i < j) (hj : j ≤ l.length) (hl : l.length ≤ 1000000) (w0 w : World) (L L' : List Asr) (M : Mem w0 w L) (hd : Del (Asr.lst jobE A cap l) L L') :
    Fn Try.prog 28 [.slice A l.length cap, .int .i64 (i : Int), .int .i64 (j : Int)] w fun v w' => v = .slice A (l.take i ++ l.drop j).length cap ∧ Mem w0 w' (Asr.lst jobE A cap (l.take i ++ l.drop j) :: L') := by
  replace M := M.del hd
  obtain ⟨g, rfl⟩ := M.lstSome (by omega)
  have hcap : l.length ≤ cap := (M.rdL .here : RdL w jobE _ _ l).le
  have hlen : (l.take i ++ l.drop j).length = l.length - (j - i) := by rw [List.length_append, List.length_take, List.length_drop]; omega
  have hone : ∀ z, (∀ w : World, (zeroValue 31).run Try.prog w = .ok z w) → ∀ v ∈ z.cells.toList, v.oneCell' = true := by
    intro z hz
    have h := (Try.zeroValue31 w0).symm.trans (hz w0)
    cases h
    intro v hv
    simp [Value.cells] at hv
    first
    | (subst hv; rfl)
    | (rcases hv with rfl | rfl <;> rfl)
    | (rcases hv with rfl | rfl | rfl <;> rfl)
  refine Fn.enter Try.func28 rfl Try.ntmps28 rfl ?_
  refine W.sub [(0, _), (1, _), (2, _)] (.cons rfl (.cons rfl (.cons rfl .nil))) ?_
  refine W.seq ?_
  refine W.region ?_
  refine WL.assign rfl rfl ?_
  refine WL.nil ?_
  refine WX.next ?_
  refine W.sub [(0, _), (1, _), (2, _)] (.cons rfl (.cons rfl (.cons rfl .nil))) ?_
  refine W.seq ?_
  refine W.region ?_
  refine WL.move rfl rfl ?_
  refine WL.move rfl rfl ?_
  refine WL.move rfl rfl ?_
  refine WL.move rfl rfl ?_
  refine WL.len Try.underlying27 rfl rfl ?_
  refine WL.slice3 Try.underlying27 Try.sizeOf31 rfl rfl rfl rfl (by omega) (by omega) (by omega) rfl ?_
  intro v13
  refine WL.nil ?_
  refine WX.next ?_
  refine W.sub [(0, _), (1, _), (2, _)] (.cons rfl (.cons rfl (.cons rfl .nil))) ?_
  refine W.seq ?_
  refine W.seq ?_
  refine W.region ?_
  refine WL.move rfl rfl ?_
  refine WL.move rfl rfl ?_
  refine WL.eqI rfl rfl rfl ?_
  refine WL.nil ?_
  refine WX.next ?_
  refine W.sub [(0, _), (1, _), (2, _), (16, _)] (.cons rfl (.cons rfl (.cons rfl (.cons rfl .nil)))) ?_
  refine W.ite rfl (fun c0 => ?_) (fun c0 => ?_)
  · exact absurd c0 (by omega)
  · refine W.skip ?_
    refine WX.next ?_
    refine W.seq ?_
    refine W.region ?_
    refine WL.move rfl rfl ?_
    refine WL.len Try.underlying27 rfl rfl ?_
    refine WL.assign rfl rfl ?_
    refine WL.nil ?_
    refine WX.next ?_
    refine W.sub [(0, _), (1, _), (2, _), (7, _)] (.cons rfl (.cons rfl (.cons rfl (.cons rfl .nil)))) ?_
    refine W.seq ?_
    refine W.drawM (_) (by kernel_rfl) (fun _ => false) M Sel.refl ?_
    clear M; intro M
    apply DG.pure_ [0, 1, 2, 3, 4, 5] 2 rfl (by kernel_rfl) (by kernel_rfl)
    · intro w
      refine WL.move rfl rfl ?_
      refine WL.move rfl rfl ?_
      refine WL.cutH Try.underlying27 Try.sizeOf31 rfl rfl (by omega) (by omega) rfl rfl ?_
      refine WL.move rfl rfl ?_
      refine WL.move rfl rfl ?_
      refine WL.cutL Try.underlying27 Try.sizeOf31 rfl rfl (by omega) (by omega) (by first | exact rfl | exact (Int.toNat_of_nonneg (by omega)).symm) rfl rfl ?_
      exact Chain.end_ rfl
    refine DG.step 6 1 rfl (by kernel_rfl) ?_
    refine WL.appendIn (E := jobE) (l := l.take i) (news := l.drop j) Try.elem31 rfl rfl (M.lstPre i (by omega)) .here (RdL.suf (M.rdL .here) hj) (by simp; omega) (by simp) (by rw [List.length_take, List.length_drop]; omega) rfl ?_
    intro w M
    refine DG.go (G := fun _ => false) (i := 6) (f' := 1) (done := [0, 1, 2, 3, 4, 5]) (fun h => by cases h) ?_
    apply DG.pure_ [7] 0 rfl (by kernel_rfl) (by kernel_rfl)
    · intro w
      refine WL.assign rfl rfl ?_
      exact Chain.end_ rfl
    refine DG.end_ (by kernel_rfl) ?_
    refine WX.next ?_
    refine W.sub [(0, _), (7, _)] (.cons rfl (.cons rfl .nil)) ?_
    refine W.seq ?_
    refine W.region ?_
    refine WL.move rfl rfl ?_
    refine WL.move rfl rfl ?_
    refine WL.len Try.underlying27 rfl rfl ?_
    refine WL.move rfl rfl ?_
    refine WL.cutLH Try.underlying27 Try.sizeOf31 rfl rfl rfl (by omega) (by omega) (by omega) (by first | exact rfl | exact (Int.toNat_of_nonneg (by omega)).symm) (by first | exact rfl | exact (Int.toNat_of_nonneg (by omega)).symm) rfl rfl ?_
    have hcut : cutA (some ⟨g, 0, none⟩) (l.take i ++ l.drop j).length 3 cap = some ⟨g, (l.take i ++ l.drop j).length * 3, none⟩ := by
      unfold cutA
      rw [if_neg (by omega)]
      simp [add_lit]
    rw [hcut]
    refine WL.clearTail (E := jobE) (l := l.take i ++ l.drop j) Try.elem31 hone rfl rfl M .here (by omega) ?_
    intro w M
    refine WL.nil ?_
    refine WX.next ?_
    refine W.sub [(0, _)] (.cons rfl .nil) ?_
    refine W.seq ?_
    refine W.region ?_
    refine WL.move rfl rfl ?_
    refine WL.assign rfl rfl ?_
    refine WL.nil ?_
    refine WX.next ?_
    refine W.sub [(6, _)] (.cons rfl .nil) ?_
    refine W.ret ?_
    refine WX.ret1 rfl rfl ?_
    exact ⟨rfl, M⟩
end Go.Proofs.Ytdhmopmfnnlhcaa
