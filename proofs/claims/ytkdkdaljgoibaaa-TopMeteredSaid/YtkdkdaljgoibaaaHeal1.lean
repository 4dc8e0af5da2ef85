/-
  Walks: places, moves, what is planned on (heal); formed, Check, is, live, on, target, source.
-/
import Derived.Test.YtkdkdaljgoibaaaHealS
import Derived.Test.YtkdkdaljgoibaaaHealLaw
import Derived.Test.YtkdkdaljgoibaaaStruct
namespace Go.Proofs.Ytkdkdaljgoibaaa
open Go Go.RowKit Bin

/-- A place as it lies. -/
structure PlX where
  chunk : Int
  A : Option Addr
  cap : Nat
  nodes : List Int
instance : Inhabited PlX := ⟨⟨0, none, 0, []⟩⟩
def PlX.key (p : PlX) : Pl := ⟨p.chunk, p.nodes⟩
def PlX.O (p : PlX) : Asr := Asr.lst intE p.A p.cap p.nodes
def PlX.v (p : PlX) : Value := .agg #[.int .i64 p.chunk, .slice p.A p.nodes.length p.cap]
def placeE : Enc PlX := ⟨44, 2, fun p => [.int .i64 p.chunk, .slice p.A p.nodes.length p.cap], fun _ => rfl, (fun a v hv => by
  simp only [List.mem_cons, List.not_mem_nil, or_false] at hv
  rcases hv with rfl | rfl <;> rfl), by decide⟩
theorem Try.elem44 : Elem Try.prog 24 44 2 32 := by
  obtain ⟨i, hi, h1, h2, h3⟩ := info_parts (P := Try.prog) (e := 44) (z := .agg #[.int .i64 0, .slice none 0 0]) (size := 2) (bytes := 32) (by kernel_rfl)
  exact ⟨Try.underlying24, ⟨i, _, hi, h1, h2, h3, rfl⟩, by decide⟩
def moveE : Enc Mv := ⟨54, 3, fun m => [.int .i64 m.chunk, .int .i64 m.from_, .int .i64 m.to_], fun _ => rfl, (fun a v hv => by
  simp only [List.mem_cons, List.not_mem_nil, or_false] at hv
  rcases hv with rfl | rfl | rfl <;> rfl), by decide⟩
theorem Try.elem54 : Elem Try.prog 32 54 3 24 := by
  obtain ⟨i, hi, h1, h2, h3⟩ := info_parts (P := Try.prog) (e := 54) (z := .agg #[.int .i64 0, .int .i64 0, .int .i64 0]) (size := 3) (bytes := 24) (by kernel_rfl)
  exact ⟨Try.underlying32, ⟨i, _, hi, h1, h2, h3, rfl⟩, by decide⟩
theorem el_rise {l : List Int} (h : l.Pairwise (· < ·)) {j k : Nat} (hjk : j < k) (hk : k < l.length) : el l j < el l k := by
  have h1 := List.pairwise_iff_getElem.1 h j k (by omega) hk hjk
  rw [show el l j = l[j] by simp [el, Nat.lt_trans hjk hk], show el l k = l[k] by simp [el, hk]]
  exact h1
/-- Places that can be read. -/
structure RdP (w : World) (A : Option Addr) (cap : Nat) (ps : List PlX) : Prop where
  all : RdL w placeE A cap ps
  each : ∀ p ∈ ps, RdL w intE p.A p.cap p.nodes
theorem RdP.mem {w w' : World} {A : Option Addr} {cap : Nat} {ps : List PlX} {L : List Asr} (h : RdP w A cap ps) (M : Mem w w' L) : RdP w' A cap ps := ⟨h.all.mem M, fun p hp => (h.each p hp).mem M⟩
theorem RdP.at_ {w : World} {A : Option Addr} {cap : Nat} {ps : List PlX} (h : RdP w A cap ps) {k : Nat} (hk : k < ps.length) : RdL w intE (el ps k).A (el ps k).cap (el ps k).nodes := h.each _ (el_mem hk)
theorem Mem.rdP {w0 w : World} {A : Option Addr} {cap : Nat} {ps : List PlX} {L : List Asr} (M : Mem w0 w L) (h1 : Has (Asr.lst placeE A cap ps) L) (h2 : Has (Asr.star (ps.map PlX.O)) L) : RdP w A cap ps :=
  ⟨M.rdL h1, fun p hp => ownRd (M.starHas (f := PlX.O) h2 hp)⟩

theorem el_key {ps : List PlX} {k : Nat} (hk : k < ps.length) : el (ps.map PlX.key) k = (el ps k).key := by simp [el, hk]

/-- Places that may be: what formed asks. -/
structure Formed' (ps : List PlX) (n : Int) : Prop where
  nodes : ∀ p ∈ ps, p.nodes.Pairwise (· < ·) ∧ ∀ x ∈ p.nodes, 0 ≤ x ∧ x < n
  chunks : (ps.map PlX.chunk).Pairwise (· < ·)
  low : ∀ p ∈ ps, 0 ≤ p.chunk
  few : ps.length ≤ 256
theorem Formed'.of {ps : List PlX} {n : Int} (h : Formed (ps.map PlX.key) n) : Formed' ps n := by
  refine ⟨fun p hp => h.nodes p.key (List.mem_map.2 ⟨p, hp, rfl⟩), ?_, fun p hp => h.low p.key (List.mem_map.2 ⟨p, hp, rfl⟩), by simpa using h.few⟩
  have e : (ps.map PlX.key).map Pl.chunk = ps.map PlX.chunk := by rw [List.map_map]; rfl
  rw [← e]
  exact h.chunks
theorem Formed.wide {ps : List Pl} {n m : Int} (h : Formed ps n) (hnm : n ≤ m) : Formed ps m :=
  ⟨fun p hp => ⟨(h.nodes p hp).1, fun x hx => ⟨((h.nodes p hp).2 x hx).1, Int.lt_of_lt_of_le ((h.nodes p hp).2 x hx).2 hnm⟩⟩, h.chunks, h.low, h.few⟩
/-- Nodes below n, rising: no more than n. -/
theorem rising_len : ∀ (l : List Int) (a n : Nat), l.Pairwise (· < ·) → (∀ x ∈ l, (a : Int) ≤ x ∧ x < (n : Int)) → l.length + a ≤ n ∨ l = []
  | [], _, _, _, _ => .inr rfl
  | x :: r, a, n, hp, hr => by
    obtain ⟨h1, h2⟩ := List.pairwise_cons.1 hp
    have hx := hr x (by simp)
    rcases rising_len r (a + 1) n h2 (fun y hy => by have := h1 y hy; have := hr y (by simp [hy]); omega) with h | h
    · left; simp; omega
    · left; subst h; simp; omega
theorem Formed.len {ps : List Pl} {n : Nat} (h : Formed ps (n : Int)) : ∀ p ∈ ps, p.nodes.length ≤ n := by
  intro p hp
  rcases rising_len p.nodes 0 n (h.nodes p hp).1 (fun x hx => (h.nodes p hp).2 x hx) with h | h
  · omega
  · rw [h]; simp

set_option maxHeartbeats 1000000 in
theorem formed_ok {A : Option Addr} {cap : Nat} {ps : List PlX} {w0 : World} (h : RdP w0 A cap ps) (n : Int) (hn : n ≤ 4611686018427387904) (hF : Formed (ps.map PlX.key) n) (hlen : ∀ p ∈ ps, p.nodes.length ≤ 1000) :
    Fn Try.prog 17 [.slice A ps.length cap, .int .i64 n] w0 fun v w' => v = .bool true ∧ Mem w0 w' [] := by
  have M := Mem.refl w0
  obtain ⟨w, hw⟩ : ∃ w, w = w0 := ⟨w0, rfl⟩
  have hF' := Formed'.of hF
  have hall := h.all
  have hfew := hF'.few
  refine Fn.enter Try.func17 rfl Try.ntmps17 rfl ?_
  refine W.sub [(0, _), (1, _)] (.cons rfl (.cons rfl .nil)) ?_
  refine W.seq ?_
  refine W.region ?_
  refine WL.assign rfl rfl ?_
  refine WL.nil ?_
  refine WX.next ?_
  refine W.sub [(0, _), (1, _)] (.cons rfl (.cons rfl .nil)) ?_
  refine W.seq ?_
  refine W.region ?_
  refine WL.assign rfl rfl ?_
  refine WL.nil ?_
  refine WX.next ?_
  refine W.sub [(0, _), (1, _), (5, _)] (.cons rfl (.cons rfl (.cons rfl .nil))) ?_
  refine W.seq ?_
  refine W.seq ?_
  refine W.region ?_
  refine WL.move rfl rfl ?_
  refine WL.len Try.underlying24 rfl rfl ?_
  refine WL.move rfl rfl ?_
  refine WL.nil ?_
  refine WX.next ?_
  refine W.sub [(0, _), (1, _), (5, _), (11, _), (12, _), (13, _)] (.cons rfl (.cons rfl (.cons rfl (.cons rfl (.cons rfl (.cons rfl .nil)))))) ?_
  refine W.block ?_
  refine W.loop (ι := Nat × Int) (fun z => [(1, .int .i64 n), (5, .int .i64 z.2), (11, .slice A ps.length cap), (12, .int .i64 (ps.length : Int)), (13, .int .i64 (z.1 : Int)), (0, .slice A ps.length cap)]) (fun zz w => Mem w0 w ((fun _ => []) zz) ∧ (fun z => z.1 ≤ ps.length ∧ ∀ k, z.1 ≤ k → k < ps.length → z.2 < (el ps k).chunk) zz) (fun z => ps.length - z.1) ((0, -1)) (by (repeat' (first | exact envSub.nil | refine envSub.cons ?_ ?_)) <;> first | rfl | (refine congrArg some ?_; refine congrArg (Value.int _) ?_; first | omega | (dsimp only; omega)) | (simp; done) | (refine congrArg some ?_; dsimp only; congr 1; omega) | (simp; omega)) ⟨M.sel (by first | ((repeat (first | with_reducible exact Sel.refl | with_reducible exact Sel.nil | with_reducible exact Del.here | with_reducible apply Del.there | with_reducible apply Sel.cons | with_reducible apply Sel.drop)); done) | (repeat (first | exact Sel.refl | exact Sel.nil | exact Del.here | apply Del.there | apply Sel.cons | apply Sel.drop))), ⟨Nat.zero_le _, fun k _ hk => by have := hF'.low _ (el_mem hk); dsimp only; omega⟩⟩ ?_
  clear M; rintro (⟨i, c⟩) w ⟨M, ⟨hi, hc⟩⟩; dsimp only at M hi hc ⊢
  refine W.sub [(1, _), (5, _), (11, _), (12, _), (13, _), (0, _)] (.cons rfl (.cons rfl (.cons rfl (.cons rfl (.cons rfl (.cons rfl .nil)))))) ?_
  refine W.seq ?_
  refine W.region ?_
  refine WL.lss rfl rfl rfl ?_
  refine WL.nil ?_
  refine WX.next ?_
  refine W.sub [(0, _), (1, _), (5, _), (11, _), (12, _), (13, _), (14, _)] (.cons rfl (.cons rfl (.cons rfl (.cons rfl (.cons rfl (.cons rfl (.cons rfl .nil))))))) ?_
  refine W.seq ?_
  refine W.ite rfl (fun c0 => ?_) (fun c0 => ?_)
  · have hil : i < ps.length := by omega
    have hno := hF'.nodes _ (el_mem hil)
    have hlo := hlen _ (el_mem hil)
    have hrd := h.at_ hil
    have hci := hc i (Nat.le_refl _) hil
    refine W.skip ?_
    refine WX.next ?_
    refine W.seq ?_
    refine W.block ?_
    refine W.seq ?_
    refine W.region ?_
    refine WL.idxA Try.underlying24 Try.sizeOf44 rfl rfl (RdL.isSome (E := placeE) (by first | with_reducible assumption | with_reducible exact RdL.mem (by with_reducible assumption) M | exact M.rdL (by first | ((repeat (first | with_reducible exact Has.here | with_reducible refine Has.there ?_)); done) | (repeat (first | exact Has.here | refine Has.there ?_))) | exact RdLH.at (by assumption) (M.sel (by first | ((repeat (first | with_reducible exact Sel.refl | with_reducible exact Sel.nil | with_reducible exact Del.here | with_reducible apply Del.there | with_reducible apply Sel.cons | with_reducible apply Sel.drop)); done) | (repeat (first | exact Sel.refl | exact Sel.nil | exact Del.here | apply Del.there | apply Sel.cons | apply Sel.drop)))) | exact RdL.nil _ _ _) (by omega)) (by omega) (by omega) (by first | exact rfl | exact (Int.toNat_of_nonneg (by omega)).symm) rfl ?_
    refine WL.loadL (E := placeE) (cs := [_, _]) Try.isAgg44 Try.sizeOf44 rfl (by first | with_reducible assumption | with_reducible exact RdL.mem (by with_reducible assumption) M | exact M.rdL (by first | ((repeat (first | with_reducible exact Has.here | with_reducible refine Has.there ?_)); done) | (repeat (first | exact Has.here | refine Has.there ?_))) | exact RdLH.at (by assumption) (M.sel (by first | ((repeat (first | with_reducible exact Sel.refl | with_reducible exact Sel.nil | with_reducible exact Del.here | with_reducible apply Del.there | with_reducible apply Sel.cons | with_reducible apply Sel.drop)); done) | (repeat (first | exact Sel.refl | exact Sel.nil | exact Del.here | apply Del.there | apply Sel.cons | apply Sel.drop)))) | exact RdL.nil _ _ _) rfl (by omega) rfl rfl ?_
    refine WL.alloc Try.zeroValue44 M rfl ?_
    intro g4_2 w M
    try simp only [Value.cells] at M
    try simp only [List.toList_toArray] at M
    refine WL.storeWA Try.sizeOf44 rfl rfl (by repeat (first | exact oneNil | refine oneCons rfl ?_)) rfl rfl M (by first | ((repeat (first | with_reducible exact Upd.here | with_reducible apply Upd.there)); done) | (repeat (first | exact Upd.here | apply Upd.there))) ?_
    intro w M
    refine WL.nil ?_
    refine WX.next ?_
    refine W.sub [(0, _), (1, _), (5, _), (7, _), (11, _), (12, _), (13, _)] (.cons rfl (.cons rfl (.cons rfl (.cons rfl (.cons rfl (.cons rfl (.cons rfl .nil))))))) ?_
    refine W.seq ?_
    refine W.region ?_
    refine WL.assign rfl rfl ?_
    refine WL.nil ?_
    refine WX.next ?_
    refine W.sub [(0, _), (1, _), (5, _), (7, _), (8, _), (11, _), (12, _), (13, _)] (.cons rfl (.cons rfl (.cons rfl (.cons rfl (.cons rfl (.cons rfl (.cons rfl (.cons rfl .nil)))))))) ?_
    refine W.seq ?_
    refine W.seq ?_
    refine W.region ?_
    refine WL.fieldR (off := 1) Try.underlying44 rfl rfl Try.sizeOf22 rfl rfl rfl ?_
    refine WL.loadR Try.isAgg22 rfl M (by first | ((repeat (first | with_reducible exact Has.here | with_reducible refine Has.there ?_)); done) | (repeat (first | exact Has.here | refine Has.there ?_))) rfl rfl ?_
    refine WL.len Try.underlying22 rfl rfl ?_
    refine WL.move rfl rfl ?_
    refine WL.nil ?_
    refine WX.next ?_
    refine W.sub [(0, _), (1, _), (5, _), (7, _), (8, _), (11, _), (12, _), (13, _), (18, _), (19, _), (20, _)] (.cons rfl (.cons rfl (.cons rfl (.cons rfl (.cons rfl (.cons rfl (.cons rfl (.cons rfl (.cons rfl (.cons rfl (.cons rfl .nil))))))))))) ?_
    refine W.block ?_
    refine W.loop (ι := Nat × Int) (fun z => [(0, .slice A ps.length cap), (1, .int .i64 n), (5, .int .i64 c), (7, .pointer (some ⟨g4_2, 0, none⟩)), (8, .int .i64 z.2), (11, .slice A ps.length cap), (12, .int .i64 (ps.length : Int)), (13, .int .i64 (i : Int)), (18, .slice (el ps i).A (el ps i).nodes.length (el ps i).cap), (19, .int .i64 ((el ps i).nodes.length : Int)), (20, .int .i64 (z.1 : Int))]) (fun zz w => Mem w0 w ((fun _ => [Asr.row g4_2 44 [.int .i64 (el ps i).chunk, .slice (el ps i).A (el ps i).nodes.length (el ps i).cap]]) zz) ∧ (fun z => z.1 ≤ (el ps i).nodes.length ∧ ∀ k, z.1 ≤ k → k < (el ps i).nodes.length → z.2 < el (el ps i).nodes k) zz) (fun z => (el ps i).nodes.length - z.1) ((0, -1)) (by (repeat' (first | exact envSub.nil | refine envSub.cons ?_ ?_)) <;> first | rfl | (refine congrArg some ?_; refine congrArg (Value.int _) ?_; first | omega | (dsimp only; omega)) | (simp; done) | (refine congrArg some ?_; dsimp only; congr 1; omega) | (simp; omega)) ⟨M.sel (by first | ((repeat (first | with_reducible exact Sel.refl | with_reducible exact Sel.nil | with_reducible exact Del.here | with_reducible apply Del.there | with_reducible apply Sel.cons | with_reducible apply Sel.drop)); done) | (repeat (first | exact Sel.refl | exact Sel.nil | exact Del.here | apply Del.there | apply Sel.cons | apply Sel.drop))), ⟨Nat.zero_le _, fun k _ hk => by have := (hno.2 _ (el_mem hk)).1; dsimp only; omega⟩⟩ ?_
    clear M; rintro (⟨j, d⟩) w ⟨M, ⟨hj, hd⟩⟩; dsimp only at M hj hd ⊢
    refine W.sub [(0, _), (1, _), (5, _), (7, _), (8, _), (11, _), (12, _), (13, _), (18, _), (19, _), (20, _)] (.cons rfl (.cons rfl (.cons rfl (.cons rfl (.cons rfl (.cons rfl (.cons rfl (.cons rfl (.cons rfl (.cons rfl (.cons rfl .nil))))))))))) ?_
    refine W.seq ?_
    refine W.region ?_
    refine WL.lss rfl rfl rfl ?_
    refine WL.nil ?_
    refine WX.next ?_
    refine W.sub [(0, _), (1, _), (5, _), (7, _), (8, _), (11, _), (12, _), (13, _), (18, _), (19, _), (20, _), (21, _)] (.cons rfl (.cons rfl (.cons rfl (.cons rfl (.cons rfl (.cons rfl (.cons rfl (.cons rfl (.cons rfl (.cons rfl (.cons rfl (.cons rfl .nil)))))))))))) ?_
    refine W.seq ?_
    refine W.ite rfl (fun c1 => ?_) (fun c1 => ?_)
    · have hjl : j < (el ps i).nodes.length := by omega
      have hdj := hd j (Nat.le_refl _) hjl
      have hnj := (hno.2 _ (el_mem hjl)).2
      refine W.skip ?_
      refine WX.next ?_
      refine W.seq ?_
      refine W.block ?_
      refine W.seq ?_
      refine W.region ?_
      refine WL.idxA Try.underlying22 Try.sizeOf3 rfl rfl (RdL.isSome (E := intE) (by first | with_reducible assumption | with_reducible exact RdL.mem (by with_reducible assumption) M | exact M.rdL (by first | ((repeat (first | with_reducible exact Has.here | with_reducible refine Has.there ?_)); done) | (repeat (first | exact Has.here | refine Has.there ?_))) | exact RdLH.at (by assumption) (M.sel (by first | ((repeat (first | with_reducible exact Sel.refl | with_reducible exact Sel.nil | with_reducible exact Del.here | with_reducible apply Del.there | with_reducible apply Sel.cons | with_reducible apply Sel.drop)); done) | (repeat (first | exact Sel.refl | exact Sel.nil | exact Del.here | apply Del.there | apply Sel.cons | apply Sel.drop)))) | exact RdL.nil _ _ _) (by omega)) (by omega) (by omega) (by first | exact rfl | exact (Int.toNat_of_nonneg (by omega)).symm) rfl ?_
      refine WL.loadE0 (E := intE) Try.isAgg3 rfl (by first | with_reducible assumption | with_reducible exact RdL.mem (by with_reducible assumption) M | exact M.rdL (by first | ((repeat (first | with_reducible exact Has.here | with_reducible refine Has.there ?_)); done) | (repeat (first | exact Has.here | refine Has.there ?_))) | exact RdLH.at (by assumption) (M.sel (by first | ((repeat (first | with_reducible exact Sel.refl | with_reducible exact Sel.nil | with_reducible exact Del.here | with_reducible apply Del.there | with_reducible apply Sel.cons | with_reducible apply Sel.drop)); done) | (repeat (first | exact Sel.refl | exact Sel.nil | exact Del.here | apply Del.there | apply Sel.cons | apply Sel.drop)))) | exact RdL.nil _ _ _) (by omega) rfl rfl ?_
      refine WL.assign rfl rfl ?_
      refine WL.nil ?_
      refine WX.next ?_
      refine W.sub [(0, _), (1, _), (5, _), (7, _), (8, _), (10, _), (11, _), (12, _), (13, _), (18, _), (19, _), (20, _)] (.cons rfl (.cons rfl (.cons rfl (.cons rfl (.cons rfl (.cons rfl (.cons rfl (.cons rfl (.cons rfl (.cons rfl (.cons rfl (.cons rfl .nil)))))))))))) ?_
      refine W.seq ?_
      refine W.seq ?_
      refine W.region ?_
      refine WL.move rfl rfl ?_
      refine WL.move rfl rfl ?_
      refine WL.leq rfl rfl rfl ?_
      refine WL.moveIf rfl rfl (fun c2 => ?_) (fun c2 => ?_)
      · exact absurd c2 (by omega)
      · refine WL.on rfl rfl ?_
        refine WL.move rfl rfl ?_
        refine WL.on rfl rfl ?_
        refine WL.move rfl rfl ?_
        refine WL.on rfl rfl ?_
        refine WL.geq rfl rfl rfl ?_
        refine WL.pickF rfl rfl rfl ?_
        refine WL.nil ?_
        refine WX.next ?_
        refine W.sub [(0, _), (1, _), (5, _), (7, _), (10, _), (11, _), (12, _), (13, _), (18, _), (19, _), (20, _), (31, _)] (.cons rfl (.cons rfl (.cons rfl (.cons rfl (.cons rfl (.cons rfl (.cons rfl (.cons rfl (.cons rfl (.cons rfl (.cons rfl (.cons rfl .nil)))))))))))) ?_
        refine W.ite rfl (fun c3 => ?_) (fun c3 => ?_)
        · exact absurd c3 (by omega)
        · refine W.skip ?_
          refine WX.next ?_
          refine W.region ?_
          refine WL.move rfl rfl ?_
          refine WL.assign rfl rfl ?_
          refine WL.nil ?_
          refine WX.blockNormal ?_
          refine WX.next ?_
          refine W.sub [(0, _), (1, _), (5, _), (7, _), (8, _), (11, _), (12, _), (13, _), (18, _), (19, _), (20, _)] (.cons rfl (.cons rfl (.cons rfl (.cons rfl (.cons rfl (.cons rfl (.cons rfl (.cons rfl (.cons rfl (.cons rfl (.cons rfl .nil))))))))))) ?_
          refine W.region ?_
          refine WL.add rfl rfl (by first | exact wI64 (by omega) | rfl) rfl ?_
          refine WL.move rfl rfl ?_
          refine WL.nil ?_
          skip
          have q : ∀ k, j + 1 ≤ k → k < (el ps i).nodes.length → el (el ps i).nodes j < el (el ps i).nodes k := by
            intro k h1 h2
            exact el_rise hno.1 (by omega) h2
          refine WX.round ((j + 1, el (el ps i).nodes j)) (by (repeat' (first | exact envSub.nil | refine envSub.cons ?_ ?_)) <;> first | rfl | (refine congrArg some ?_; refine congrArg (Value.int _) ?_; first | omega | (dsimp only; omega)) | (simp; done) | (refine congrArg some ?_; dsimp only; congr 1; omega) | (simp; omega)) ⟨M.sel (by first | ((repeat (first | with_reducible exact Sel.refl | with_reducible exact Sel.nil | with_reducible exact Del.here | with_reducible apply Del.there | with_reducible apply Sel.cons | with_reducible apply Sel.drop)); done) | (repeat (first | exact Sel.refl | exact Sel.nil | exact Del.here | apply Del.there | apply Sel.cons | apply Sel.drop))), ⟨by dsimp only; omega, q⟩⟩ (by first | omega | (dsimp only; omega))
    · refine W.exit ?_
      refine WX.thenExit ?_
      refine WX.thenExit ?_
      refine WX.blockHere ?_
      refine WX.next ?_
      refine W.seq ?_
      refine W.seq ?_
      refine W.region ?_
      refine WL.fieldR (off := 0) Try.underlying44 rfl rfl Try.sizeOf3 rfl rfl rfl ?_
      refine WL.loadR Try.isAgg3 rfl M (by first | ((repeat (first | with_reducible exact Has.here | with_reducible refine Has.there ?_)); done) | (repeat (first | exact Has.here | refine Has.there ?_))) rfl rfl ?_
      refine WL.move rfl rfl ?_
      refine WL.leq rfl rfl rfl ?_
      refine WL.nil ?_
      refine WX.next ?_
      refine W.sub [(0, _), (1, _), (7, _), (11, _), (12, _), (13, _), (37, _)] (.cons rfl (.cons rfl (.cons rfl (.cons rfl (.cons rfl (.cons rfl (.cons rfl .nil))))))) ?_
      refine W.ite rfl (fun c4 => ?_) (fun c4 => ?_)
      · exact absurd c4 (by omega)
      · refine W.skip ?_
        refine WX.next ?_
        refine W.region ?_
        refine WL.fieldR (off := 0) Try.underlying44 rfl rfl Try.sizeOf3 rfl rfl rfl ?_
        refine WL.loadR Try.isAgg3 rfl M (by first | ((repeat (first | with_reducible exact Has.here | with_reducible refine Has.there ?_)); done) | (repeat (first | exact Has.here | refine Has.there ?_))) rfl rfl ?_
        refine WL.assign rfl rfl ?_
        refine WL.nil ?_
        refine WX.blockNormal ?_
        refine WX.next ?_
        refine W.sub [(0, _), (1, _), (5, _), (11, _), (12, _), (13, _)] (.cons rfl (.cons rfl (.cons rfl (.cons rfl (.cons rfl (.cons rfl .nil)))))) ?_
        refine W.region ?_
        refine WL.add rfl rfl (by first | exact wI64 (by omega) | rfl) rfl ?_
        refine WL.move rfl rfl ?_
        refine WL.nil ?_
        skip
        have q : ∀ k, i + 1 ≤ k → k < ps.length → (el ps i).chunk < (el ps k).chunk := by
          intro k h1 h2
          have := List.pairwise_iff_getElem.1 hF'.chunks i k (by simpa using hil) (by simpa using h2) (by omega)
          simpa [el, hil, h2] using this
        refine WX.round ((i + 1, (el ps i).chunk)) (by (repeat' (first | exact envSub.nil | refine envSub.cons ?_ ?_)) <;> first | rfl | (refine congrArg some ?_; refine congrArg (Value.int _) ?_; first | omega | (dsimp only; omega)) | (simp; done) | (refine congrArg some ?_; dsimp only; congr 1; omega) | (simp; omega)) ⟨M.sel (by first | ((repeat (first | with_reducible exact Sel.refl | with_reducible exact Sel.nil | with_reducible exact Del.here | with_reducible apply Del.there | with_reducible apply Sel.cons | with_reducible apply Sel.drop)); done) | (repeat (first | exact Sel.refl | exact Sel.nil | exact Del.here | apply Del.there | apply Sel.cons | apply Sel.drop))), ⟨by dsimp only; omega, q⟩⟩ (by first | omega | (dsimp only; omega))
  · refine W.exit ?_
    refine WX.thenExit ?_
    refine WX.thenExit ?_
    refine WX.blockHere ?_
    refine WX.next ?_
    refine W.seq ?_
    refine W.region ?_
    refine WL.move rfl rfl ?_
    refine WL.len Try.underlying24 rfl rfl ?_
    refine WL.leq rfl rfl rfl ?_
    refine WL.assign rfl rfl ?_
    refine WL.nil ?_
    refine WX.next ?_
    refine W.sub [(4, _)] (.cons rfl .nil) ?_
    refine W.ret ?_
    refine WX.ret1 rfl rfl ?_
    exact ⟨by rw [decide_eq_true (by omega)], M.sel (by first | ((repeat (first | with_reducible exact Sel.refl | with_reducible exact Sel.nil | with_reducible exact Del.here | with_reducible apply Del.there | with_reducible apply Sel.cons | with_reducible apply Sel.drop)); done) | (repeat (first | exact Sel.refl | exact Sel.nil | exact Del.here | apply Del.there | apply Sel.cons | apply Sel.drop)))⟩
end Go.Proofs.Ytkdkdaljgoibaaa
