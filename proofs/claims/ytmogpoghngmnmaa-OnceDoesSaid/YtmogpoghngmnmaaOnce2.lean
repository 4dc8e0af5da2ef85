/-
  Walks: where a client stands (find, its function literal), a client as it is now stands last (use).
-/
import Derived.Test.YtmogpoghngmnmaaOnce1
namespace Go.Proofs.Ytmogpoghngmnmaa
open Go Go.RowKit

/-- What an index holds, if it is made. -/
def Made (cs : List ClX) (ms : List (Nat × Nat)) : Prop := ∀ id k, mget ms id = some k ↔ (k < cs.length ∧ (el cs k).id = id)
/-- The index as it lies. -/
def ixL (gi : Nat) : Option (Nat × List (Nat × Nat)) → List Asr
  | none => [Asr.row gi 83 [.int .u32 0, .int .i32 0, .int .u32 0, .map none]]
  | some (gm, ms) => [Asr.row gi 83 [.int .u32 1, .int .i32 0, .int .u32 0, .map (some gm)], Asr.mp posM gm ms]
/-- A table as it lies. -/
structure OT where
  g : Nat
  most : Nat
  A : Option Addr
  cap : Nat
  cs : List ClX
  gi : Nat
  made : Option (Nat × List (Nat × Nat))
  begun : Nat
  was : Nat
def OT.row (x : OT) : Asr := Asr.row x.g 88 [.int .i64 (x.most : Int), .slice x.A x.cs.length x.cap, .pointer (some ⟨x.gi, 0, none⟩), .int .i64 (x.begun : Int), .int .i64 (x.was : Int)]
def OT.L (x : OT) : List Asr := [x.row, Asr.lst clientE x.A x.cap x.cs, Asr.star (x.cs.map ClX.O), Asr.star (ixL x.gi x.made)]
def OT.madeOk (x : OT) : Prop := ∀ p, x.made = some p → Made x.cs p.2
def posC (cs : List ClX) (id : Nat) : Nat := cs.findIdx fun c => c.id == id
def Uniq (cs : List ClX) : Prop := ∀ j k, j < cs.length → k < cs.length → (el cs j).id = (el cs k).id → j = k
theorem Made.get {cs : List ClX} {ms : List (Nat × Nat)} (h : Made cs ms) (hu : Uniq cs) (id : Nat) : mget ms id = if posC cs id < cs.length then some (posC cs id) else none := by
  by_cases hp : ∃ k, k < cs.length ∧ (el cs k).id = id
  · obtain ⟨k, hk, e⟩ := hp
    have : posC cs id = k := findIdx_of hk (by simpa using e) fun j hj => by
      have h1 : (el cs j).id ≠ id := fun h2 => by have := hu j k (by omega) hk (h2.trans e.symm); omega
      simpa using h1
    rw [this, if_pos hk]
    exact (h id k).2 ⟨hk, e⟩
  · have : posC cs id = cs.length := findIdx_no fun j hj => by
      have h1 : (el cs j).id ≠ id := fun h2 => hp ⟨j, hj, h2⟩
      simpa using h1
    rw [this, if_neg (by omega)]
    cases hm : mget ms id with
    | none => rfl
    | some k => exact absurd ((h id k).1 hm) fun h2 => hp ⟨k, h2⟩

set_option maxRecDepth 10000 in
theorem find1_ok (gt g gi most : Nat) (A : Option Addr) (cap : Nat) (cs : List ClX) (b v0 : Value) (hl : cs.length ≤ 1000000) (hu : Uniq cs) (w0 w : World) (L : List Asr)
    (M : Mem w0 w (Asr.row gi 83 [.int .u32 0, .int .i32 1, .int .u32 0, .map none] :: Asr.row gt 25 [.pointer (some ⟨g, 0, none⟩)] :: Asr.row g 88 [.int .i64 (most : Int), .slice A cs.length cap, .pointer (some ⟨gi, 0, none⟩), b, v0] :: Asr.lst clientE A cap cs :: L)) :
    Fn Try.prog 51 [.pointer (some ⟨gt, 0, none⟩)] w fun v w' => v = .tuple #[] ∧ ∃ p : { p : Nat × List (Nat × Nat) // Made cs p.2 },
      Mem w0 w' (Asr.row gi 83 [.int .u32 0, .int .i32 1, .int .u32 0, .map (some p.1.1)] :: Asr.mp posM p.1.1 p.1.2 :: Asr.row gt 25 [.pointer (some ⟨g, 0, none⟩)] :: Asr.row g 88 [.int .i64 (most : Int), .slice A cs.length cap, .pointer (some ⟨gi, 0, none⟩), b, v0] :: Asr.lst clientE A cap cs :: L) := by
  refine Fn.enter Try.func51 rfl Try.ntmps51 rfl ?_
  refine W.sub [(0, _)] (.cons rfl .nil) ?_
  refine W.seq ?_
  refine W.region ?_
  refine WL.loadR Try.isAgg25 rfl M (by first | ((repeat (first | with_reducible exact Has.here | with_reducible refine Has.there ?_)); done) | (repeat (first | exact Has.here | refine Has.there ?_))) rfl rfl ?_
  refine WL.nilCheck rfl rfl ?_
  refine WL.fieldR (off := 2) Try.underlying88 rfl rfl Try.sizeOf68 rfl rfl rfl ?_
  refine WL.loadR Try.isAgg68 rfl M (by first | ((repeat (first | with_reducible exact Has.here | with_reducible refine Has.there ?_)); done) | (repeat (first | exact Has.here | refine Has.there ?_))) rfl rfl ?_
  refine WL.makeMap posM M rfl ?_
  intro g0_4 w M
  refine WL.nilCheck rfl rfl ?_
  refine WL.fieldR (off := 3) Try.underlying83 rfl rfl Try.sizeOf81 rfl rfl rfl ?_
  refine WL.storeR Try.sizeOf81 rfl rfl rfl M (by first | ((repeat (first | with_reducible exact Has.here | with_reducible refine Has.there ?_)); done) | (repeat (first | exact Has.here | refine Has.there ?_))) (by repeat (first | exact SetAt.zero | apply SetAt.succ)) (by first | ((repeat (first | with_reducible exact Upd.here | with_reducible apply Upd.there)); done) | (repeat (first | exact Upd.here | apply Upd.there))) ?_
  intro w M
  refine WL.nil ?_
  refine WX.next ?_
  refine W.sub [(0, _)] (.cons rfl .nil) ?_
  refine W.seq ?_
  refine W.region ?_
  refine WL.loadR Try.isAgg25 rfl M (by first | ((repeat (first | with_reducible exact Has.here | with_reducible refine Has.there ?_)); done) | (repeat (first | exact Has.here | refine Has.there ?_))) rfl rfl ?_
  refine WL.nilCheck rfl rfl ?_
  refine WL.fieldR (off := 1) Try.underlying88 rfl rfl Try.sizeOf41 rfl rfl rfl ?_
  refine WL.loadR Try.isAgg41 rfl M (by first | ((repeat (first | with_reducible exact Has.here | with_reducible refine Has.there ?_)); done) | (repeat (first | exact Has.here | refine Has.there ?_))) rfl rfl ?_
  refine WL.len Try.underlying41 rfl rfl ?_
  refine WL.move rfl rfl ?_
  refine WL.nil ?_
  refine WX.next ?_
  refine W.sub [(0, _), (13, _), (14, _), (15, _)] (.cons rfl (.cons rfl (.cons rfl (.cons rfl .nil)))) ?_
  refine W.block ?_
  refine W.loop (ι := Nat × List (Nat × Nat)) (fun z => [(0, .pointer (some ⟨gt, 0, none⟩)), (13, .slice A cs.length cap), (14, .int .i64 (cs.length : Int)), (15, .int .i64 (z.1 : Int))]) (fun zz w => Mem w0 w ((fun z => Asr.row gi 83 [.int .u32 0, .int .i32 1, .int .u32 0, .map (some g0_4)] :: Asr.mp posM g0_4 z.2 :: Asr.row gt 25 [.pointer (some ⟨g, 0, none⟩)] :: Asr.row g 88 [.int .i64 (most : Int), .slice A cs.length cap, .pointer (some ⟨gi, 0, none⟩), b, v0] :: Asr.lst clientE A cap cs :: L) zz) ∧ (fun z => z.1 ≤ cs.length ∧ ∀ id k, mget z.2 id = some k ↔ (k < z.1 ∧ (el cs k).id = id)) zz) (fun z => cs.length - z.1) ((0, [])) (by (repeat' (first | exact envSub.nil | refine envSub.cons ?_ ?_)) <;> first | rfl | (refine congrArg some ?_; refine congrArg (Value.int _) ?_; first | omega | (dsimp only; omega)) | (simp; done) | (refine congrArg some ?_; dsimp only; congr 1; omega) | (simp; omega)) ⟨M.sel (by first | ((repeat (first | with_reducible exact Sel.refl | with_reducible exact Sel.nil | with_reducible exact Del.here | with_reducible apply Del.there | with_reducible apply Sel.cons | with_reducible apply Sel.drop)); done) | (repeat (first | exact Sel.refl | exact Sel.nil | exact Del.here | apply Del.there | apply Sel.cons | apply Sel.drop))), ⟨by dsimp only; omega, fun id k => by rw [mget_nil]; constructor <;> intro h <;> simp at h⟩⟩ ?_
  clear M; rintro (⟨i, ms⟩) w ⟨M, ⟨hi, hm⟩⟩; dsimp only at M hi hm ⊢
  refine W.sub [(0, _), (13, _), (14, _), (15, _)] (.cons rfl (.cons rfl (.cons rfl (.cons rfl .nil)))) ?_
  refine W.seq ?_
  refine W.region ?_
  refine WL.lss rfl rfl rfl ?_
  refine WL.nil ?_
  refine WX.next ?_
  refine W.sub [(0, _), (13, _), (14, _), (15, _), (16, _)] (.cons rfl (.cons rfl (.cons rfl (.cons rfl (.cons rfl .nil))))) ?_
  refine W.seq ?_
  refine W.ite rfl (fun c0 => ?_) (fun c0 => ?_)
  · refine W.skip ?_
    refine WX.next ?_
    refine W.seq ?_
    refine W.block ?_
    refine W.seq ?_
    refine W.region ?_
    refine WL.move rfl rfl ?_
    refine WL.idxA Try.underlying41 Try.sizeOf45 rfl rfl (RdL.isSome (E := clientE) (by first | with_reducible assumption | with_reducible exact RdL.mem (by with_reducible assumption) M | exact M.rdL (by first | ((repeat (first | with_reducible exact Has.here | with_reducible refine Has.there ?_)); done) | (repeat (first | exact Has.here | refine Has.there ?_))) | exact RdLH.at (by assumption) (M.sel (by first | ((repeat (first | with_reducible exact Sel.refl | with_reducible exact Sel.nil | with_reducible exact Del.here | with_reducible apply Del.there | with_reducible apply Sel.cons | with_reducible apply Sel.drop)); done) | (repeat (first | exact Sel.refl | exact Sel.nil | exact Del.here | apply Del.there | apply Sel.cons | apply Sel.drop)))) | exact RdL.nil _ _ _) (by omega)) (by omega) (by omega) (by first | exact rfl | exact (Int.toNat_of_nonneg (by omega)).symm) rfl ?_
    refine WL.loadL (E := clientE) (cs := [_, _, _, _]) Try.isAgg45 Try.sizeOf45 rfl (by first | with_reducible assumption | with_reducible exact RdL.mem (by with_reducible assumption) M | exact M.rdL (by first | ((repeat (first | with_reducible exact Has.here | with_reducible refine Has.there ?_)); done) | (repeat (first | exact Has.here | refine Has.there ?_))) | exact RdLH.at (by assumption) (M.sel (by first | ((repeat (first | with_reducible exact Sel.refl | with_reducible exact Sel.nil | with_reducible exact Del.here | with_reducible apply Del.there | with_reducible apply Sel.cons | with_reducible apply Sel.drop)); done) | (repeat (first | exact Sel.refl | exact Sel.nil | exact Del.here | apply Del.there | apply Sel.cons | apply Sel.drop)))) | exact RdL.nil _ _ _) rfl (by omega) rfl rfl ?_
    refine WL.alloc Try.zeroValue45 M rfl ?_
    intro g3_3 w M
    try simp only [Value.cells] at M
    try simp only [List.toList_toArray] at M
    refine WL.assign rfl rfl ?_
    refine WL.storeWA Try.sizeOf45 rfl rfl (by repeat (first | exact oneNil | refine oneCons rfl ?_)) rfl rfl M (by first | ((repeat (first | with_reducible exact Upd.here | with_reducible apply Upd.there)); done) | (repeat (first | exact Upd.here | apply Upd.there))) ?_
    intro w M
    refine WL.nil ?_
    refine WX.next ?_
    refine W.sub [(0, _), (1, _), (2, _), (13, _), (14, _), (15, _)] (.cons rfl (.cons rfl (.cons rfl (.cons rfl (.cons rfl (.cons rfl .nil)))))) ?_
    refine W.drawM (_) (by kernel_rfl) (fun j => [0, 1, 2, 3, 4, 5, 6, 8].contains j) M Sel.refl ?_
    clear M; intro M
    apply DG.pure_ [7, 9] 9 rfl (by kernel_rfl) (by kernel_rfl)
    · intro w
      refine WL.fieldR (off := 0) Try.underlying45 rfl rfl Try.sizeOf29 rfl rfl rfl ?_
      refine WL.move rfl rfl ?_
      exact Chain.end_ rfl
    apply DG.take [0, 1, 2, 3, 4, 5, 6, 8] 1 rfl (by kernel_rfl) (by kernel_rfl) (M.sel (by first | ((repeat (first | with_reducible exact Sel.refl | with_reducible exact Sel.nil | with_reducible exact Del.here | with_reducible apply Del.there | with_reducible apply Sel.cons | with_reducible apply Sel.drop)); done) | (repeat (first | exact Sel.refl | exact Sel.nil | exact Del.here | apply Del.there | apply Sel.cons | apply Sel.drop))))
    · intro w M
      refine WL.loadR Try.isAgg25 rfl M (by first | ((repeat (first | with_reducible exact Has.here | with_reducible refine Has.there ?_)); done) | (repeat (first | exact Has.here | refine Has.there ?_))) rfl rfl ?_
      refine WL.nilCheck rfl rfl ?_
      refine WL.fieldR (off := 2) Try.underlying88 rfl rfl Try.sizeOf68 rfl rfl rfl ?_
      refine WL.loadR Try.isAgg68 rfl M (by first | ((repeat (first | with_reducible exact Has.here | with_reducible refine Has.there ?_)); done) | (repeat (first | exact Has.here | refine Has.there ?_))) rfl rfl ?_
      refine WL.nilCheck rfl rfl ?_
      refine WL.fieldR (off := 3) Try.underlying83 rfl rfl Try.sizeOf81 rfl rfl rfl ?_
      refine WL.loadR Try.isAgg81 rfl M (by first | ((repeat (first | with_reducible exact Has.here | with_reducible refine Has.there ?_)); done) | (repeat (first | exact Has.here | refine Has.there ?_))) rfl rfl ?_
      refine WL.loadR Try.isAgg29 rfl M (by first | ((repeat (first | with_reducible exact Has.here | with_reducible refine Has.there ?_)); done) | (repeat (first | exact Has.here | refine Has.there ?_))) rfl rfl ?_
      exact Chain.end_ rfl
    refine DG.step 10 0 rfl (by kernel_rfl) ?_
    refine WL.mapUpdate (E := posM) (a := i) Try.underlying81 Try.underlying29 rfl rfl rfl M (by first | ((repeat (first | with_reducible exact Has.here | with_reducible refine Has.there ?_)); done) | (repeat (first | exact Has.here | refine Has.there ?_))) (by first | ((repeat (first | with_reducible exact Upd.here | with_reducible apply Upd.there)); done) | (repeat (first | exact Upd.here | apply Upd.there))) ?_
    intro w M
    refine DG.go (G := fun j => [0, 1, 2, 3, 4, 5, 6, 8].contains j) (i := 10) (f' := 0) (done := [7, 9, 0, 1, 2, 3, 4, 5, 6, 8]) (fun h => by cases h) ?_
    refine DG.end_ (by kernel_rfl) ?_
    refine WX.blockNormal ?_
    refine WX.next ?_
    refine W.sub [(0, _), (13, _), (14, _), (15, _)] (.cons rfl (.cons rfl (.cons rfl (.cons rfl .nil)))) ?_
    refine W.region ?_
    refine WL.add rfl rfl (by first | exact wI64 (by omega) | rfl) rfl ?_
    refine WL.move rfl rfl ?_
    refine WL.nil ?_
    skip
    have q : ∀ id k, mget (mput ms (el cs i).id i) id = some k ↔ (k < i + 1 ∧ (el cs k).id = id) := by
      intro id k
      rw [mget_mput]
      by_cases e : (el cs i).id = id
      · rw [if_pos e]
        constructor
        · intro h
          obtain rfl : i = k := by simpa using h
          exact ⟨by omega, e⟩
        · rintro ⟨h1, h2⟩
          rw [hu i k (by omega) (by omega) (e.trans h2.symm)]
      · rw [if_neg e, hm id k]
        constructor
        · rintro ⟨h1, h2⟩
          exact ⟨by omega, h2⟩
        · rintro ⟨h1, h2⟩
          refine ⟨?_, h2⟩
          rcases Nat.lt_or_ge k i with h3 | h3
          · exact h3
          · obtain rfl : k = i := by omega
            exact absurd h2 e
    refine WX.round ((i + 1, mput ms (el cs i).id i)) (by (repeat' (first | exact envSub.nil | refine envSub.cons ?_ ?_)) <;> first | rfl | (refine congrArg some ?_; refine congrArg (Value.int _) ?_; first | omega | (dsimp only; omega)) | (simp; done) | (refine congrArg some ?_; dsimp only; congr 1; omega) | (simp; omega)) ⟨M.sel (by first | ((repeat (first | with_reducible exact Sel.refl | with_reducible exact Sel.nil | with_reducible exact Del.here | with_reducible apply Del.there | with_reducible apply Sel.cons | with_reducible apply Sel.drop)); done) | (repeat (first | exact Sel.refl | exact Sel.nil | exact Del.here | apply Del.there | apply Sel.cons | apply Sel.drop))), ⟨by dsimp only; omega, q⟩⟩ (by first | omega | (dsimp only; omega))
  · refine W.exit ?_
    refine WX.thenExit ?_
    refine WX.thenExit ?_
    refine WX.blockHere ?_
    refine WX.end0 rfl ?_
    obtain rfl : i = cs.length := by omega
    exact ⟨rfl, ⟨(g0_4, ms), hm⟩, M⟩

set_option maxRecDepth 10000 in
theorem find_ok (x : OT) (hl : x.cs.length ≤ 1000000) (hu : Uniq x.cs) (hm : x.madeOk) (id : Nat) (w0 w : World) (L : List Asr) (M : Mem w0 w (x.L ++ L)) :
    Fn Try.prog 30 [.pointer (some ⟨x.g, 0, none⟩), .int .u64 (id : Int)] w fun v w' => v = .int .i64 (atI x.cs.length (posC x.cs id)) ∧ ∃ p : { p : Nat × List (Nat × Nat) // Made x.cs p.2 }, Mem w0 w' (OT.L { x with made := some p.1 } ++ L) := by
  obtain ⟨g, most, A, cap, cs, gi, made, begun, was⟩ := x
  unfold OT.L OT.row at M
  simp only [List.cons_append, List.nil_append] at M
  dsimp only at hl hu hm M ⊢
  have hdo : ∀ gt w, Mem w0 w (Asr.row gt 25 [.pointer (some ⟨g, 0, none⟩)] :: Asr.row g 88 [.int .i64 (most : Int), .slice A cs.length cap, .pointer (some ⟨gi, 0, none⟩), .int .i64 (begun : Int), .int .i64 (was : Int)] :: Asr.lst clientE A cap cs :: Asr.star (cs.map ClX.O) :: Asr.star (ixL gi made) :: L) →
      Fn Try.prog 50 [.pointer (some ⟨gi, 0, none⟩), .func (.func 51) #[] #[.pointer (some ⟨gt, 0, none⟩)]] w fun v w' => v = .tuple #[] ∧ ∃ p : { p : Nat × List (Nat × Nat) // Made cs p.2 },
        Mem w0 w' (Asr.row gi 83 [.int .u32 1, .int .i32 0, .int .u32 0, .map (some p.1.1)] :: Asr.mp posM p.1.1 p.1.2 :: Asr.row gt 25 [.pointer (some ⟨g, 0, none⟩)] :: Asr.row g 88 [.int .i64 (most : Int), .slice A cs.length cap, .pointer (some ⟨gi, 0, none⟩), .int .i64 (begun : Int), .int .i64 (was : Int)] :: Asr.lst clientE A cap cs :: Asr.star (cs.map ClX.O) :: L) := by
    intro gt w M
    cases made with
    | none =>
      have M1 := (M.sel (K := Asr.star (ixL gi none) :: Asr.row gt 25 [.pointer (some ⟨g, 0, none⟩)] :: Asr.row g 88 [.int .i64 (most : Int), .slice A cs.length cap, .pointer (some ⟨gi, 0, none⟩), .int .i64 (begun : Int), .int .i64 (was : Int)] :: Asr.lst clientE A cap cs :: Asr.star (cs.map ClX.O) :: L) (by repeat (first | exact Sel.refl | exact Sel.nil | exact Del.here | apply Del.there | apply Sel.cons | apply Sel.drop)))
      have M2 := Mem.unstar1 M1
      refine (DoFirst_ok gi (.int .u32 0) (.map none) _ rfl #[.pointer (some ⟨gt, 0, none⟩)] (fun p : { p : Nat × List (Nat × Nat) // Made cs p.2 } => .map (some p.1.1))
        (fun p => Asr.mp posM p.1.1 p.1.2 :: Asr.row gt 25 [.pointer (some ⟨g, 0, none⟩)] :: Asr.row g 88 [.int .i64 (most : Int), .slice A cs.length cap, .pointer (some ⟨gi, 0, none⟩), .int .i64 (begun : Int), .int .i64 (was : Int)] :: Asr.lst clientE A cap cs :: Asr.star (cs.map ClX.O) :: L) M2 Del.here ?_)
      intro w1 M3
      exact find1_ok gt g gi most A cap cs _ _ hl hu w0 w1 _ M3
    | some p =>
      obtain ⟨gm, ms⟩ := p
      have M1 := (M.sel (K := Asr.star (ixL gi (some (gm, ms))) :: Asr.row gt 25 [.pointer (some ⟨g, 0, none⟩)] :: Asr.row g 88 [.int .i64 (most : Int), .slice A cs.length cap, .pointer (some ⟨gi, 0, none⟩), .int .i64 (begun : Int), .int .i64 (was : Int)] :: Asr.lst clientE A cap cs :: Asr.star (cs.map ClX.O) :: L) (by repeat (first | exact Sel.refl | exact Sel.nil | exact Del.here | apply Del.there | apply Sel.cons | apply Sel.drop)))
      have M2 := Mem.unstar2 M1
      refine (DoDone_ok gi _ _ M2 Has.here).mono ?_
      rintro v w' ⟨rfl, rfl⟩
      exact ⟨rfl, ⟨(gm, ms), hm (gm, ms) rfl⟩, M2⟩
  refine Fn.enter Try.func30 rfl Try.ntmps30 rfl ?_
  refine W.sub [(0, _), (1, _)] (.cons rfl (.cons rfl .nil)) ?_
  refine W.seq ?_
  refine W.region ?_
  refine WL.box rfl M rfl ?_
  intro g0_0 w M
  try simp only [Value.cells] at M
  try simp only [List.toList_toArray] at M
  refine WL.assign rfl rfl ?_
  refine WL.nil ?_
  refine WX.next ?_
  refine W.sub [(1, _), (2, _)] (.cons rfl (.cons rfl .nil)) ?_
  refine W.seq ?_
  refine W.region ?_
  refine WL.loadR Try.isAgg25 rfl M (by first | ((repeat (first | with_reducible exact Has.here | with_reducible refine Has.there ?_)); done) | (repeat (first | exact Has.here | refine Has.there ?_))) rfl rfl ?_
  refine WL.nilCheck rfl rfl ?_
  refine WL.fieldR (off := 2) Try.underlying88 rfl rfl Try.sizeOf68 rfl rfl rfl ?_
  refine WL.loadR Try.isAgg68 rfl M (by first | ((repeat (first | with_reducible exact Has.here | with_reducible refine Has.there ?_)); done) | (repeat (first | exact Has.here | refine Has.there ?_))) rfl rfl ?_
  refine WL.nilCheck rfl rfl ?_
  refine WL.fieldR (off := 0) Try.underlying83 rfl rfl Try.sizeOf80 rfl rfl rfl ?_
  refine WL.makeFunc (vs := [.pointer (some ⟨g0_0, 0, none⟩)]) rfl rfl ?_
  refine WL.call Try.call50 rfl (hdo g0_0 w (M.sel (by first | ((repeat (first | with_reducible exact Sel.refl | with_reducible exact Sel.nil | with_reducible exact Del.here | with_reducible apply Del.there | with_reducible apply Sel.cons | with_reducible apply Sel.drop)); done) | (repeat (first | exact Sel.refl | exact Sel.nil | exact Del.here | apply Del.there | apply Sel.cons | apply Sel.drop))))) rfl ?_
  rintro _ w ⟨rfl, ⟨⟨gm, ms⟩, hp⟩, M⟩
  dsimp only at M
  refine WL.nil ?_
  refine WX.next ?_
  refine W.sub [(1, _), (2, _)] (.cons rfl (.cons rfl .nil)) ?_
  refine W.seq ?_
  refine W.seq ?_
  refine W.region ?_
  refine WL.loadR Try.isAgg25 rfl M (by first | ((repeat (first | with_reducible exact Has.here | with_reducible refine Has.there ?_)); done) | (repeat (first | exact Has.here | refine Has.there ?_))) rfl rfl ?_
  refine WL.nilCheck rfl rfl ?_
  refine WL.fieldR (off := 2) Try.underlying88 rfl rfl Try.sizeOf68 rfl rfl rfl ?_
  refine WL.loadR Try.isAgg68 rfl M (by first | ((repeat (first | with_reducible exact Has.here | with_reducible refine Has.there ?_)); done) | (repeat (first | exact Has.here | refine Has.there ?_))) rfl rfl ?_
  refine WL.nilCheck rfl rfl ?_
  refine WL.fieldR (off := 3) Try.underlying83 rfl rfl Try.sizeOf81 rfl rfl rfl ?_
  refine WL.loadR Try.isAgg81 rfl M (by first | ((repeat (first | with_reducible exact Has.here | with_reducible refine Has.there ?_)); done) | (repeat (first | exact Has.here | refine Has.there ?_))) rfl rfl ?_
  refine WL.move rfl rfl ?_
  have hget : mget ms id = _ := Made.get hp hu id
  have hv1 : (mget ms id).elim (.int .i64 0) posM.f = .int .i64 (if posC cs id < cs.length then (posC cs id : Int) else 0) := by
    rw [hget]
    split <;> rfl
  have hv2 : (mget ms id).isSome = decide (posC cs id < cs.length) := by
    rw [hget]
    split
    · rename_i h; simp [h]
    · rename_i h; simp [h]
  refine WL.lookup (E := posM) Try.underlying81 Try.underlying29 Try.zeroValue3 rfl rfl M (by first | ((repeat (first | with_reducible exact Has.here | with_reducible refine Has.there ?_)); done) | (repeat (first | exact Has.here | refine Has.there ?_))) rfl ?_
  rw [hv1, hv2]
  refine WL.move rfl rfl ?_
  refine WL.extractL rfl rfl rfl ?_
  refine WL.extractL rfl rfl rfl ?_
  refine WL.assign rfl rfl ?_
  refine WL.assign rfl rfl ?_
  refine WL.nil ?_
  refine WX.next ?_
  refine W.sub [(5, _), (6, _)] (.cons rfl (.cons rfl .nil)) ?_
  refine W.seq ?_
  refine W.region ?_
  refine WL.move rfl rfl ?_
  refine WL.nil ?_
  refine WX.next ?_
  refine W.sub [(5, _), (27, _)] (.cons rfl (.cons rfl .nil)) ?_
  refine W.cond rfl (fun c0 => ?_) (fun c0 => ?_)
  · (try simp only [Bool.not_eq_true'] at c0); (try simp only [Bool.not_eq_false'] at c0); (try simp only [decide_eq_true_eq] at c0); (try simp only [decide_eq_false_iff_not] at c0)
    refine W.seq ?_
    refine W.region ?_
    refine WL.move rfl rfl ?_
    refine WL.assign rfl rfl ?_
    refine WL.nil ?_
    refine WX.next ?_
    refine W.sub [(4, _)] (.cons rfl .nil) ?_
    refine W.ret ?_
    refine WX.thenRet ?_
    refine WX.ret1 rfl rfl ?_
    refine ⟨by rw [if_pos c0, atI_in c0], ⟨(gm, ms), hp⟩, ?_⟩
    unfold OT.L OT.row
    have M4 := Mem.star2 (M.sel (K := Asr.row gi 83 [.int .u32 1, .int .i32 0, .int .u32 0, .map (some gm)] :: Asr.mp posM gm ms :: Asr.row g 88 [.int .i64 (most : Int), .slice A cs.length cap, .pointer (some ⟨gi, 0, none⟩), .int .i64 (begun : Int), .int .i64 (was : Int)] :: Asr.lst clientE A cap cs :: Asr.star (cs.map ClX.O) :: L) (by first | ((repeat (first | with_reducible exact Sel.refl | with_reducible exact Sel.nil | with_reducible exact Del.here | with_reducible apply Del.there | with_reducible apply Sel.cons | with_reducible apply Sel.drop)); done) | (repeat (first | exact Sel.refl | exact Sel.nil | exact Del.here | apply Del.there | apply Sel.cons | apply Sel.drop))))
    exact M4.sel (by first | ((repeat (first | with_reducible exact Sel.refl | with_reducible exact Sel.nil | with_reducible exact Del.here | with_reducible apply Del.there | with_reducible apply Sel.cons | with_reducible apply Sel.drop)); done) | (repeat (first | exact Sel.refl | exact Sel.nil | exact Del.here | apply Del.there | apply Sel.cons | apply Sel.drop)))
  · (try simp only [Bool.not_eq_true'] at c0); (try simp only [Bool.not_eq_false'] at c0); (try simp only [decide_eq_true_eq] at c0); (try simp only [decide_eq_false_iff_not] at c0)
    refine W.skip ?_
    refine WX.next ?_
    refine W.seq ?_
    refine W.region ?_
    refine WL.assign rfl rfl ?_
    refine WL.nil ?_
    refine WX.next ?_
    refine W.sub [(4, _)] (.cons rfl .nil) ?_
    refine W.ret ?_
    refine WX.ret1 rfl rfl ?_
    refine ⟨by rw [atI_out c0], ⟨(gm, ms), hp⟩, ?_⟩
    unfold OT.L OT.row
    have M4 := Mem.star2 (M.sel (K := Asr.row gi 83 [.int .u32 1, .int .i32 0, .int .u32 0, .map (some gm)] :: Asr.mp posM gm ms :: Asr.row g 88 [.int .i64 (most : Int), .slice A cs.length cap, .pointer (some ⟨gi, 0, none⟩), .int .i64 (begun : Int), .int .i64 (was : Int)] :: Asr.lst clientE A cap cs :: Asr.star (cs.map ClX.O) :: L) (by first | ((repeat (first | with_reducible exact Sel.refl | with_reducible exact Sel.nil | with_reducible exact Del.here | with_reducible apply Del.there | with_reducible apply Sel.cons | with_reducible apply Sel.drop)); done) | (repeat (first | exact Sel.refl | exact Sel.nil | exact Del.here | apply Del.there | apply Sel.cons | apply Sel.drop))))
    exact M4.sel (by first | ((repeat (first | with_reducible exact Sel.refl | with_reducible exact Sel.nil | with_reducible exact Del.here | with_reducible apply Del.there | with_reducible apply Sel.cons | with_reducible apply Sel.drop)); done) | (repeat (first | exact Sel.refl | exact Sel.nil | exact Del.here | apply Del.there | apply Sel.cons | apply Sel.drop)))

set_option maxRecDepth 10000 in
theorem use_ok (g gi most : Nat) (A : Option Addr) (cap : Nat) (cs : List ClX) (b v0 : Value) (p : Nat) (hp : p ≤ cs.length) (hl : cs.length ≤ 1000000) (c : ClX) (w0 w : World) (L : List Asr)
    (M : Mem w0 w (Asr.row g 88 [.int .i64 (most : Int), .slice A cs.length cap, .pointer (some ⟨gi, 0, none⟩), b, v0] :: Asr.lst clientE A cap cs :: L)) :
    Fn Try.prog 31 [.pointer (some ⟨g, 0, none⟩), .int .i64 (atI cs.length p), c.v] w fun v w' => v = .tuple #[] ∧ ∃ A' cap' gi',
      Mem w0 w' (Asr.row g 88 [.int .i64 (most : Int), .slice A' (cs.eraseIdx p ++ [c]).length cap', .pointer (some ⟨gi', 0, none⟩), b, v0] :: Asr.lst clientE A' cap' (cs.eraseIdx p ++ [c]) :: Asr.star (ixL gi' none) :: L) := by
  have hel : (cs.eraseIdx p).length ≤ cs.length := List.length_eraseIdx_le ..
  unfold ClX.v
  refine Fn.enter Try.func31 rfl Try.ntmps31 rfl ?_
  refine W.sub [(0, _), (1, _), (2, _)] (.cons rfl (.cons rfl (.cons rfl .nil))) ?_
  refine W.seq ?_
  refine W.region ?_
  refine WL.box rfl M rfl ?_
  intro g0_0 w M
  try simp only [Value.cells] at M
  try simp only [List.toList_toArray] at M
  refine WL.nil ?_
  refine WX.next ?_
  refine W.sub [(0, _), (1, _), (5, _)] (.cons rfl (.cons rfl (.cons rfl .nil))) ?_
  refine W.joint (fun (_ : Unit) => [(0, .pointer (some ⟨g, 0, none⟩)), (5, .pointer (some ⟨g0_0, 0, none⟩))]) (fun j w => Mem w0 w ((fun _ => Asr.row g 88 [.int .i64 (most : Int), .slice A (cs.eraseIdx p).length cap, .pointer (some ⟨gi, 0, none⟩), b, v0] :: Asr.lst clientE A cap (cs.eraseIdx p) :: Asr.row g0_0 45 [.int .u64 (c.id : Int), .int .u64 (c.num : Int), .bool c.busy, .slice c.A c.rep.length c.cap] :: L) j) ∧ (fun _ => True) j) ?_ ?_
  · refine W.seq ?_
    refine W.region ?_
    refine WL.move rfl rfl ?_
    refine WL.geq rfl rfl rfl ?_
    refine WL.nil ?_
    refine WX.next ?_
    refine W.sub [(0, _), (1, _), (5, _), (7, _)] (.cons rfl (.cons rfl (.cons rfl (.cons rfl .nil)))) ?_
    refine W.ite rfl (fun c0 => ?_) (fun c0 => ?_)
    · have hp' : p < cs.length := by
        apply Classical.byContradiction
        intro h
        rw [atI_out h] at c0
        omega
      rw [atI_in hp']
      refine W.region ?_
      refine WL.move rfl rfl ?_
      refine WL.move rfl rfl ?_
      refine WL.nilCheck rfl rfl ?_
      refine WL.fieldR (off := 1) Try.underlying88 rfl rfl Try.sizeOf41 rfl rfl rfl ?_
      refine WL.loadR Try.isAgg41 rfl M (by first | ((repeat (first | with_reducible exact Has.here | with_reducible refine Has.there ?_)); done) | (repeat (first | exact Has.here | refine Has.there ?_))) rfl rfl ?_
      refine WL.move rfl rfl ?_
      refine WL.move rfl rfl ?_
      refine WL.add rfl rfl (show IntKind.i64.wrap ((p : Int) + 1) = ((p + 1 : Nat) : Int) by rw [wI64 (by omega)]; omega) rfl ?_
      refine WL.call Try.call52 rfl (sDelC_ok p hp' hl w0 _ _ _ M (by first | ((repeat (first | with_reducible exact Del.here | with_reducible apply Del.there)); done) | (repeat (first | exact Del.here | apply Del.there)))) rfl ?_
      rintro _ w ⟨rfl, M⟩
      refine WL.nilCheck rfl rfl ?_
      refine WL.fieldR (off := 1) Try.underlying88 rfl rfl Try.sizeOf41 rfl rfl rfl ?_
      refine WL.storeR Try.sizeOf41 rfl rfl rfl M (by first | ((repeat (first | with_reducible exact Has.here | with_reducible refine Has.there ?_)); done) | (repeat (first | exact Has.here | refine Has.there ?_))) (by repeat (first | exact SetAt.zero | apply SetAt.succ)) (by first | ((repeat (first | with_reducible exact Upd.here | with_reducible apply Upd.there)); done) | (repeat (first | exact Upd.here | apply Upd.there))) ?_
      intro w M
      refine WL.nil ?_
      refine WX.join (()) (by (repeat' (first | exact envSub.nil | refine envSub.cons ?_ ?_)) <;> first | rfl | (refine congrArg some ?_; refine congrArg (Value.int _) ?_; first | omega | (dsimp only; omega)) | (simp; done) | (refine congrArg some ?_; dsimp only; congr 1; omega) | (simp; omega)) ⟨M.sel (by first | ((repeat (first | with_reducible exact Sel.refl | with_reducible exact Sel.nil | with_reducible exact Del.here | with_reducible apply Del.there | with_reducible apply Sel.cons | with_reducible apply Sel.drop)); done) | (repeat (first | exact Sel.refl | exact Sel.nil | exact Del.here | apply Del.there | apply Sel.cons | apply Sel.drop))), trivial⟩
    · have hp' : p = cs.length := by
        apply Classical.byContradiction
        intro h
        rw [atI_in (by omega)] at c0
        omega
      have he : cs.eraseIdx p = cs := by rw [hp']; exact List.eraseIdx_of_length_le (Nat.le_refl _)
      refine W.skip ?_
      skip
      rw [← he] at M
      refine WX.join (()) (by (repeat' (first | exact envSub.nil | refine envSub.cons ?_ ?_)) <;> first | rfl | (refine congrArg some ?_; refine congrArg (Value.int _) ?_; first | omega | (dsimp only; omega)) | (simp; done) | (refine congrArg some ?_; dsimp only; congr 1; omega) | (simp; omega)) ⟨M.sel (by first | ((repeat (first | with_reducible exact Sel.refl | with_reducible exact Sel.nil | with_reducible exact Del.here | with_reducible apply Del.there | with_reducible apply Sel.cons | with_reducible apply Sel.drop)); done) | (repeat (first | exact Sel.refl | exact Sel.nil | exact Del.here | apply Del.there | apply Sel.cons | apply Sel.drop))), trivial⟩
  clear M; rintro (⟨⟩) w ⟨M, -⟩; dsimp only at M ⊢
  refine W.sub [(0, _), (5, _)] (.cons rfl (.cons rfl .nil)) ?_
  refine W.seq ?_
  refine W.drawM (_) (by kernel_rfl) (fun j => [4, 5, 6].contains j) M Sel.refl ?_
  clear M; intro M
  apply DG.pure_ [0, 1, 2, 3] 7 rfl (by kernel_rfl) (by kernel_rfl)
  · intro w
    refine WL.move rfl rfl ?_
    refine WL.move rfl rfl ?_
    refine WL.nilCheck rfl rfl ?_
    refine WL.fieldR (off := 1) Try.underlying88 rfl rfl Try.sizeOf41 rfl rfl rfl ?_
    exact Chain.end_ rfl
  apply DG.take [4, 5] 5 rfl (by kernel_rfl) (by kernel_rfl) (M.sel (by first | ((repeat (first | with_reducible exact Sel.refl | with_reducible exact Sel.nil | with_reducible exact Del.here | with_reducible apply Del.there | with_reducible apply Sel.cons | with_reducible apply Sel.drop)); done) | (repeat (first | exact Sel.refl | exact Sel.nil | exact Del.here | apply Del.there | apply Sel.cons | apply Sel.drop))))
  · intro w M
    refine WL.loadR Try.isAgg41 rfl M (by first | ((repeat (first | with_reducible exact Has.here | with_reducible refine Has.there ?_)); done) | (repeat (first | exact Has.here | refine Has.there ?_))) rfl rfl ?_
    refine WL.loadW Try.isAgg45 Try.sizeOf45 rfl M (by first | ((repeat (first | with_reducible exact Has.here | with_reducible refine Has.there ?_)); done) | (repeat (first | exact Has.here | refine Has.there ?_))) rfl rfl ?_
    exact Chain.end_ rfl
  refine DG.step 6 4 rfl (by kernel_rfl) ?_
  refine WL.buildL (E := clientE) (l := [c]) Try.elem45 M rfl rfl rfl rfl rfl rfl ?_
  intro g3_6 w M
  refine DG.go (G := fun j => [4, 5, 6].contains j) (i := 6) (f' := 4) (done := [0, 1, 2, 3, 4, 5]) (fun _ => M.sel (by first | ((repeat (first | with_reducible exact Sel.refl | with_reducible exact Sel.nil | with_reducible exact Del.here | with_reducible apply Del.there | with_reducible apply Sel.cons | with_reducible apply Sel.drop)); done) | (repeat (first | exact Sel.refl | exact Sel.nil | exact Del.here | apply Del.there | apply Sel.cons | apply Sel.drop)))) ?_
  refine DG.step 7 3 rfl (by kernel_rfl) ?_
  refine WL.appendL (E := clientE) Try.elem45 rfl rfl M (by first | ((repeat (first | with_reducible exact Del.here | with_reducible apply Del.there)); done) | (repeat (first | exact Del.here | apply Del.there))) (by first | with_reducible assumption | with_reducible exact RdL.mem (by with_reducible assumption) M | exact M.rdL (by first | ((repeat (first | with_reducible exact Has.here | with_reducible refine Has.there ?_)); done) | (repeat (first | exact Has.here | refine Has.there ?_))) | exact RdLH.at (by assumption) (M.sel (by first | ((repeat (first | with_reducible exact Sel.refl | with_reducible exact Sel.nil | with_reducible exact Del.here | with_reducible apply Del.there | with_reducible apply Sel.cons | with_reducible apply Sel.drop)); done) | (repeat (first | exact Sel.refl | exact Sel.nil | exact Del.here | apply Del.there | apply Sel.cons | apply Sel.drop)))) | exact RdL.nil _ _ _) rfl rfl (by first | omega | (simp; done) | (simp; omega)) (by first | (simp only [maxLen]; omega) | (simp [maxLen]; done) | (simp [maxLen]; omega)) rfl ?_
  intro A3_7 cap3_7 w M
  refine DG.go (G := fun j => [4, 5, 6].contains j) (i := 7) (f' := 3) (done := [0, 1, 2, 3, 4, 5, 6]) (fun h => by cases h) ?_
  apply DG.pure_ [8, 9] 1 rfl (by kernel_rfl) (by kernel_rfl)
  · intro w
    refine WL.nilCheck rfl rfl ?_
    refine WL.fieldR (off := 1) Try.underlying88 rfl rfl Try.sizeOf41 rfl rfl rfl ?_
    exact Chain.end_ rfl
  refine DG.step 10 0 rfl (by kernel_rfl) ?_
  refine WL.storeR Try.sizeOf41 rfl rfl rfl M (by first | ((repeat (first | with_reducible exact Has.here | with_reducible refine Has.there ?_)); done) | (repeat (first | exact Has.here | refine Has.there ?_))) (by repeat (first | exact SetAt.zero | apply SetAt.succ)) (by first | ((repeat (first | with_reducible exact Upd.here | with_reducible apply Upd.there)); done) | (repeat (first | exact Upd.here | apply Upd.there))) ?_
  intro w M
  refine DG.go (G := fun j => [4, 5, 6].contains j) (i := 10) (f' := 0) (done := [0, 1, 2, 3, 4, 5, 6, 7, 8, 9]) (fun h => by cases h) ?_
  refine DG.end_ (by kernel_rfl) ?_
  refine WX.next ?_
  refine W.sub [(0, _)] (.cons rfl .nil) ?_
  refine W.region ?_
  refine WL.move rfl rfl ?_
  refine WL.buildP (places := #[(0, 3), (3, 1)]) Try.underlying83 Try.zeroValue83 (fun _ => by simp [Try.sizeOf80, Try.sizeOf81]) rfl (by repeat (first | exact Puts.nil | exact SetAt.zero | apply SetAt.succ | apply Puts.cons rfl rfl)) rfl ?_
  refine WL.box rfl M rfl ?_
  intro g4_2 w M
  try simp only [Value.cells] at M
  try simp only [List.toList_toArray] at M
  refine WL.nilCheck rfl rfl ?_
  refine WL.fieldR (off := 2) Try.underlying88 rfl rfl Try.sizeOf68 rfl rfl rfl ?_
  refine WL.storeR Try.sizeOf68 rfl rfl rfl M (by first | ((repeat (first | with_reducible exact Has.here | with_reducible refine Has.there ?_)); done) | (repeat (first | exact Has.here | refine Has.there ?_))) (by repeat (first | exact SetAt.zero | apply SetAt.succ)) (by first | ((repeat (first | with_reducible exact Upd.here | with_reducible apply Upd.there)); done) | (repeat (first | exact Upd.here | apply Upd.there))) ?_
  intro w M
  refine WL.nil ?_
  refine WX.end0 rfl ?_
  refine ⟨rfl, A3_7, cap3_7, g4_2, ?_⟩
  exact (Mem.star1 (M.sel (K := Asr.row g4_2 83 [.int .u32 0, .int .i32 0, .int .u32 0, .map none] :: Asr.row g 88 [.int .i64 (most : Int), .slice A3_7 (cs.eraseIdx p ++ [c]).length cap3_7, .pointer (some ⟨g4_2, 0, none⟩), b, v0] :: Asr.lst clientE A3_7 cap3_7 (cs.eraseIdx p ++ [c]) :: L) (by first | ((repeat (first | with_reducible exact Sel.refl | with_reducible exact Sel.nil | with_reducible exact Del.here | with_reducible apply Del.there | with_reducible apply Sel.cons | with_reducible apply Sel.drop)); done) | (repeat (first | exact Sel.refl | exact Sel.nil | exact Del.here | apply Del.there | apply Sel.cons | apply Sel.drop))))).sel (by first | ((repeat (first | with_reducible exact Sel.refl | with_reducible exact Sel.nil | with_reducible exact Del.here | with_reducible apply Del.there | with_reducible apply Sel.cons | with_reducible apply Sel.drop)); done) | (repeat (first | exact Sel.refl | exact Sel.nil | exact Del.here | apply Del.there | apply Sel.cons | apply Sel.drop)))
end Go.Proofs.Ytmogpoghngmnmaa
