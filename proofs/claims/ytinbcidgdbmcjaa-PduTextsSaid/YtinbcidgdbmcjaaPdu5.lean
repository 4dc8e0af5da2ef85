/-
  Walks: IndexByte; a key; a text's bytes; is one of the pairs so (pdu).
-/
import Derived.Test.YtinbcidgdbmcjaaPdu4
import Derived.Test.YtinbcidgdbmcjaaStr
namespace Go.Proofs.Ytinbcidgdbmcjaa
open Go Go.RowKit Go.Lib Bin

/-- The bytes of a text as they are laid. -/
def Asr.strB (g : Nat) (e : TypeId) (l : List UInt8) (sp : List Value) : Asr := Asr.obj g (.cells (bs l ++ sp).toArray e ((bs l ++ sp).length, (bs l ++ sp).length + 1))
theorem Mem.rdS {w0 w : World} {L : List Asr} {g : Nat} {e : TypeId} {l : List UInt8} {sp : List Value} {cap : Nat} (M : Mem w0 w L) (h : Has (Asr.strB g e l sp) L) (hc : l.length ≤ cap) : RdB w (some ⟨g, 0, none⟩) cap l := by
  obtain ⟨L', h⟩ := h.del
  have hg : w.heap[g]? = some (.cells (bs l ++ sp).toArray e ((bs l ++ sp).length, (bs l ++ sp).length + 1)) := (M.del h).head
  refine ⟨by simp [bs], hc, fun _ => ⟨_, rfl, (Array.getElem?_eq_some_iff.1 hg).1, fun j v hv => ?_⟩⟩
  rw [add_lit, Nat.zero_add, cell_of_row w g j _ e _ hg]
  have hj := (List.getElem?_eq_some_iff.1 hv).1
  simp [List.getElem?_append_left hj, hv]
section
variable {P : Program} {n : Nat} {ρ : List (Nat × Value)} {w0 w : World} {rest : List Oper} {L : List Asr} {Y : Sq P n}
variable {d : Nat} {ty : TypeId} {pos : String} {aft : Array Edge} {x y : Operand} {src t e : TypeId}
theorem WL.ofStrH {l : List UInt8} (hs : P.underlying src = some .string) (ht : P.underlying t = some (.slice e)) (he : P.underlying e = some (.int .u8)) (hx : ev ρ x = some (str l)) (M : Mem w0 w L) (hd : Nat.blt d n = true)
    (kk : ∀ g sp cap w', l.length ≤ cap → Mem w0 w' (Asr.strB g e l sp :: L) → Y.S rest ((d, .slice (some ⟨g, 0, none⟩) l.length cap) :: ρ) w') :
    Y.S (⟨some d, .convert src t x, ty, pos, aft, none⟩ :: rest) ρ w := by
  have hr := run_bytes_of_string w src t e (ByteArray.mk l.toArray) hs ht he
  rw [str_size] at hr
  have e1 : bytesRow (ByteArray.mk l.toArray) (grownCap w l.length 0 e) = (bs l ++ List.replicate (grownCap w l.length 0 e - l.length) (Value.int .u8 0)).toArray := by
    unfold bytesRow bs
    rw [str_size]
    apply Array.ext'
    simp
    intro a _
    rfl
  rw [e1] at hr
  have M1 := (M.drew).alloc (.cells (bs l ++ List.replicate (grownCap w l.length 0 e - l.length) (Value.int .u8 0)).toArray e ((bs l ++ List.replicate (grownCap w l.length 0 e - l.length) (Value.int .u8 0)).toArray.size, (bs l ++ List.replicate (grownCap w l.length 0 e - l.length) (Value.int .u8 0)).toArray.size + 1))
  exact WL.valW rfl rfl hd (fun a ha => by simp only [execOp, ha.eval hx, str, Sem.run_bind, hr, Result.andThen_ok, Sem.run_pure]) (kk w.heap.size (List.replicate (grownCap w l.length 0 e - l.length) (Value.int .u8 0)) _ _ (grownCap_ge w l.length 0 e) M1)
end
theorem idxByteS_run {P : Program} (l : List UInt8) (c : UInt8) (w : World) : (Extern.BytealgIndexByte.indexByte #[str l, .int .u8 (c.toNat : Int)]).run P w = .ok (.int .i64 (indexByte l c)) w := by
  have h := run_indexByteString (P := P) (ByteArray.mk l.toArray) (c.toNat : Int) w
  rw [Int.toNat_natCast, show c.toNat.toUInt8 = c by simp] at h
  exact h
theorem IndexByteL_ok (l : List UInt8) (c : UInt8) (w : World) : Fn Try.prog 59 [str l, .int .u8 (c.toNat : Int)] w fun v w' => v = .int .i64 (indexByte l c) ∧ w' = w := by
  have M := Mem.refl w
  refine Fn.enter Try.func59 rfl Try.ntmps59 rfl ?_
  refine W.sub [(0, _), (1, _)] (.cons rfl (.cons rfl .nil)) ?_
  refine W.seq ?_
  refine W.region ?_
  refine WL.assign rfl rfl ?_
  refine WL.nil ?_
  refine WX.next ?_
  refine W.sub [(0, _), (1, _)] (.cons rfl (.cons rfl .nil)) ?_
  refine W.seq ?_
  refine W.region ?_
  refine WL.move rfl rfl ?_
  refine WL.move rfl rfl ?_
  refine WL.callX Try.func65 (by kernel_rfl) rfl (by kernel_rfl) (by kernel_rfl) rfl (idxByteS_run l c _) rfl ?_
  refine WL.assign rfl rfl ?_
  refine WL.nil ?_
  refine WX.next ?_
  refine W.sub [(4, _)] (.cons rfl .nil) ?_
  refine W.ret ?_
  refine WX.ret1 rfl rfl ?_
  exact ⟨rfl, rfl⟩
theorem IndexByte_ok (l : List UInt8) (c : UInt8) (w : World) : Fn Try.prog 50 [str l, .int .u8 (c.toNat : Int)] w fun v w' => v = .int .i64 (indexByte l c) ∧ w' = w := by
  have M := Mem.refl w
  refine Fn.enter Try.func50 rfl Try.ntmps50 rfl ?_
  refine W.sub [(0, _), (1, _)] (.cons rfl (.cons rfl .nil)) ?_
  refine W.seq ?_
  refine W.region ?_
  refine WL.assign rfl rfl ?_
  refine WL.nil ?_
  refine WX.next ?_
  refine W.sub [(0, _), (1, _)] (.cons rfl (.cons rfl .nil)) ?_
  refine W.seq ?_
  refine W.region ?_
  refine WL.move rfl rfl ?_
  refine WL.move rfl rfl ?_
  refine WL.call Try.call59 rfl (IndexByteL_ok l c _) rfl ?_
  rintro _ _ ⟨rfl, rfl⟩
  refine WL.assign rfl rfl ?_
  refine WL.nil ?_
  refine WX.next ?_
  refine W.sub [(4, _)] (.cons rfl .nil) ?_
  refine W.ret ?_
  refine WX.ret1 rfl rfl ?_
  exact ⟨rfl, rfl⟩
theorem indexByte_neg : ∀ {l : List UInt8} {c : UInt8}, indexByte l c < 0 ↔ c ∉ l
  | [], c => by simp [indexByte]
  | b :: l, c => by
    have ih := indexByte_neg (l := l) (c := c)
    have hg := indexByte_ge l c
    unfold indexByte
    by_cases h : b = c
    · subst h
      simp
    · rw [if_neg (by simpa using h)]
      have hc : c ∈ b :: l ↔ c ∈ l := by
        rw [List.mem_cons]
        exact ⟨fun q => q.resolve_left (fun e => h e.symm), .inr⟩
      rw [hc, ← ih]
      by_cases h2 : indexByte l c = -1
      · simp [h2]
      · rw [if_neg (by simpa using h2)]
        omega
/-- May a key have it? -/
def letterP (c : UInt8) : Prop := (97 ≤ c.toNat ∧ c.toNat ≤ 122) ∨ (65 ≤ c.toNat ∧ c.toNat ≤ 90) ∨ (48 ≤ c.toNat ∧ c.toNat ≤ 57) ∨ c ∈ [46, 45, 43, 64, 95]
instance (c : UInt8) : Decidable (letterP c) := by unfold letterP; infer_instance
def keyP (s : List UInt8) : Prop := s ≠ [] ∧ s.length ≤ 63 ∧ ∀ k, k < s.length → letterP (el s k)
instance (s : List UInt8) : Decidable (keyP s) := by unfold keyP; infer_instance
theorem key_ok (l : List UInt8) (hl : l.length ≤ 1000000) (w0 : World) : Fn Try.prog 49 [str l] w0 fun v w' => v = .bool (decide (keyP l)) ∧ Mem w0 w' [] := by
  have M := Mem.refl w0
  obtain ⟨w, hw⟩ : ∃ w, w = w0 := ⟨w0, rfl⟩
  refine Fn.enter Try.func49 rfl Try.ntmps49 rfl ?_
  refine W.sub [(0, _)] (.cons rfl .nil) ?_
  refine W.seq ?_
  refine W.region ?_
  refine WL.assign rfl rfl ?_
  refine WL.nil ?_
  refine WX.next ?_
  refine W.sub [(0, _)] (.cons rfl .nil) ?_
  refine W.seq ?_
  refine W.seq ?_
  refine W.region ?_
  refine WL.move rfl rfl ?_
  refine WL.ofStrH Try.underlying9 Try.underlying25 Try.underlying5 rfl M rfl ?_
  intro g sp cap w hcap M
  refine WL.len Try.underlying25 rfl rfl ?_
  refine WL.move rfl rfl ?_
  refine WL.nil ?_
  refine WX.next ?_
  refine W.sub [(0, _), (7, _), (8, _), (9, _)] (.cons rfl (.cons rfl (.cons rfl (.cons rfl .nil)))) ?_
  refine W.block ?_
  refine W.loop (ι := Nat) (fun k => [(0, str l), (7, .slice (some ⟨g, 0, none⟩) l.length cap), (8, .int .i64 (l.length : Int)), (9, .int .i64 (k : Int))]) (fun zz w => Mem w0 w ((fun _ => [Asr.strB g 5 l sp]) zz) ∧ (fun k => k ≤ l.length ∧ ∀ j, j < k → letterP (el l j)) zz) (fun k => l.length - k) (0) (by (repeat' (first | exact envSub.nil | refine envSub.cons ?_ ?_)) <;> first | rfl | (refine congrArg some ?_; refine congrArg (Value.int _) ?_; first | omega | (dsimp only; omega)) | (simp; done) | (refine congrArg some ?_; dsimp only; congr 1; omega) | (simp; omega)) ⟨M.sel (by first | ((repeat (first | with_reducible exact Sel.refl | with_reducible exact Sel.nil | with_reducible exact Del.here | with_reducible apply Del.there | with_reducible apply Sel.cons | with_reducible apply Sel.drop)); done) | (repeat (first | exact Sel.refl | exact Sel.nil | exact Del.here | apply Del.there | apply Sel.cons | apply Sel.drop))), ⟨Nat.zero_le _, fun j hj => absurd hj (Nat.not_lt_zero _)⟩⟩ ?_
  clear M; rintro (k) w ⟨M, ⟨hk, hkl⟩⟩; dsimp only at M hk hkl ⊢
  refine W.sub [(0, _), (7, _), (8, _), (9, _)] (.cons rfl (.cons rfl (.cons rfl (.cons rfl .nil)))) ?_
  refine W.seq ?_
  refine W.region ?_
  refine WL.lss rfl rfl rfl ?_
  refine WL.nil ?_
  refine WX.next ?_
  refine W.sub [(0, _), (7, _), (8, _), (9, _), (10, _)] (.cons rfl (.cons rfl (.cons rfl (.cons rfl (.cons rfl .nil))))) ?_
  refine W.seq ?_
  refine W.ite rfl (fun c0 => ?_) (fun c0 => ?_)
  · have hR : RdB w (some ⟨g, 0, none⟩) cap l := M.rdS (by first | ((repeat (first | with_reducible exact Has.here | with_reducible refine Has.there ?_)); done) | (repeat (first | exact Has.here | refine Has.there ?_))) hcap
    have hkk : k < l.length := by omega
    refine W.skip ?_
    refine WX.next ?_
    refine W.seq ?_
    refine W.block ?_
    refine W.seq ?_
    refine W.region ?_
    refine WL.idxA Try.underlying25 Try.sizeOf5 rfl rfl (RdB.isSome (by first | first | with_reducible assumption | with_reducible exact RdB.mem (by with_reducible assumption) M | exact M.rdB (by first | ((repeat (first | with_reducible exact Has.here | with_reducible refine Has.there ?_)); done) | (repeat (first | exact Has.here | refine Has.there ?_))) | exact RdH.at (by assumption) (M.sel (by first | ((repeat (first | with_reducible exact Sel.refl | with_reducible exact Sel.nil | with_reducible exact Del.here | with_reducible apply Del.there | with_reducible apply Sel.cons | with_reducible apply Sel.drop)); done) | (repeat (first | exact Sel.refl | exact Sel.nil | exact Del.here | apply Del.there | apply Sel.cons | apply Sel.drop)))) | exact M.rdLit' (by first | ((repeat (first | with_reducible exact Has.here | with_reducible refine Has.there ?_)); done) | (repeat (first | exact Has.here | refine Has.there ?_))) | exact M.rdLent (by first | ((repeat (first | with_reducible exact Has.here | with_reducible refine Has.there ?_)); done) | (repeat (first | exact Has.here | refine Has.there ?_))) | exact RdB.nil _ _ | exact RdB.sub (by first | with_reducible assumption | with_reducible exact RdB.mem (by with_reducible assumption) M | exact M.rdB (by first | ((repeat (first | with_reducible exact Has.here | with_reducible refine Has.there ?_)); done) | (repeat (first | exact Has.here | refine Has.there ?_))) | exact RdH.at (by assumption) (M.sel (by first | ((repeat (first | with_reducible exact Sel.refl | with_reducible exact Sel.nil | with_reducible exact Del.here | with_reducible apply Del.there | with_reducible apply Sel.cons | with_reducible apply Sel.drop)); done) | (repeat (first | exact Sel.refl | exact Sel.nil | exact Del.here | apply Del.there | apply Sel.cons | apply Sel.drop)))) | exact M.rdLit' (by first | ((repeat (first | with_reducible exact Has.here | with_reducible refine Has.there ?_)); done) | (repeat (first | exact Has.here | refine Has.there ?_))) | exact M.rdLent (by first | ((repeat (first | with_reducible exact Has.here | with_reducible refine Has.there ?_)); done) | (repeat (first | exact Has.here | refine Has.there ?_))) | exact RdB.nil _ _) (by omega) (by omega) | exact RdB.pre' (by first | with_reducible assumption | with_reducible exact RdB.mem (by with_reducible assumption) M | exact M.rdB (by first | ((repeat (first | with_reducible exact Has.here | with_reducible refine Has.there ?_)); done) | (repeat (first | exact Has.here | refine Has.there ?_))) | exact RdH.at (by assumption) (M.sel (by first | ((repeat (first | with_reducible exact Sel.refl | with_reducible exact Sel.nil | with_reducible exact Del.here | with_reducible apply Del.there | with_reducible apply Sel.cons | with_reducible apply Sel.drop)); done) | (repeat (first | exact Sel.refl | exact Sel.nil | exact Del.here | apply Del.there | apply Sel.cons | apply Sel.drop)))) | exact M.rdLit' (by first | ((repeat (first | with_reducible exact Has.here | with_reducible refine Has.there ?_)); done) | (repeat (first | exact Has.here | refine Has.there ?_))) | exact M.rdLent (by first | ((repeat (first | with_reducible exact Has.here | with_reducible refine Has.there ?_)); done) | (repeat (first | exact Has.here | refine Has.there ?_))) | exact RdB.nil _ _) (by omega) | exact RdB.suf (by first | with_reducible assumption | with_reducible exact RdB.mem (by with_reducible assumption) M | exact M.rdB (by first | ((repeat (first | with_reducible exact Has.here | with_reducible refine Has.there ?_)); done) | (repeat (first | exact Has.here | refine Has.there ?_))) | exact RdH.at (by assumption) (M.sel (by first | ((repeat (first | with_reducible exact Sel.refl | with_reducible exact Sel.nil | with_reducible exact Del.here | with_reducible apply Del.there | with_reducible apply Sel.cons | with_reducible apply Sel.drop)); done) | (repeat (first | exact Sel.refl | exact Sel.nil | exact Del.here | apply Del.there | apply Sel.cons | apply Sel.drop)))) | exact M.rdLit' (by first | ((repeat (first | with_reducible exact Has.here | with_reducible refine Has.there ?_)); done) | (repeat (first | exact Has.here | refine Has.there ?_))) | exact M.rdLent (by first | ((repeat (first | with_reducible exact Has.here | with_reducible refine Has.there ?_)); done) | (repeat (first | exact Has.here | refine Has.there ?_))) | exact RdB.nil _ _) (by omega)) (by omega)) (by omega) (by omega) (by first | exact rfl | exact (Int.toNat_of_nonneg (by omega)).symm) rfl ?_
    refine WL.loadB Try.isAgg5 rfl (by first | first | with_reducible assumption | with_reducible exact RdB.mem (by with_reducible assumption) M | exact M.rdB (by first | ((repeat (first | with_reducible exact Has.here | with_reducible refine Has.there ?_)); done) | (repeat (first | exact Has.here | refine Has.there ?_))) | exact RdH.at (by assumption) (M.sel (by first | ((repeat (first | with_reducible exact Sel.refl | with_reducible exact Sel.nil | with_reducible exact Del.here | with_reducible apply Del.there | with_reducible apply Sel.cons | with_reducible apply Sel.drop)); done) | (repeat (first | exact Sel.refl | exact Sel.nil | exact Del.here | apply Del.there | apply Sel.cons | apply Sel.drop)))) | exact M.rdLit' (by first | ((repeat (first | with_reducible exact Has.here | with_reducible refine Has.there ?_)); done) | (repeat (first | exact Has.here | refine Has.there ?_))) | exact M.rdLent (by first | ((repeat (first | with_reducible exact Has.here | with_reducible refine Has.there ?_)); done) | (repeat (first | exact Has.here | refine Has.there ?_))) | exact RdB.nil _ _ | exact RdB.sub (by first | with_reducible assumption | with_reducible exact RdB.mem (by with_reducible assumption) M | exact M.rdB (by first | ((repeat (first | with_reducible exact Has.here | with_reducible refine Has.there ?_)); done) | (repeat (first | exact Has.here | refine Has.there ?_))) | exact RdH.at (by assumption) (M.sel (by first | ((repeat (first | with_reducible exact Sel.refl | with_reducible exact Sel.nil | with_reducible exact Del.here | with_reducible apply Del.there | with_reducible apply Sel.cons | with_reducible apply Sel.drop)); done) | (repeat (first | exact Sel.refl | exact Sel.nil | exact Del.here | apply Del.there | apply Sel.cons | apply Sel.drop)))) | exact M.rdLit' (by first | ((repeat (first | with_reducible exact Has.here | with_reducible refine Has.there ?_)); done) | (repeat (first | exact Has.here | refine Has.there ?_))) | exact M.rdLent (by first | ((repeat (first | with_reducible exact Has.here | with_reducible refine Has.there ?_)); done) | (repeat (first | exact Has.here | refine Has.there ?_))) | exact RdB.nil _ _) (by omega) (by omega) | exact RdB.pre' (by first | with_reducible assumption | with_reducible exact RdB.mem (by with_reducible assumption) M | exact M.rdB (by first | ((repeat (first | with_reducible exact Has.here | with_reducible refine Has.there ?_)); done) | (repeat (first | exact Has.here | refine Has.there ?_))) | exact RdH.at (by assumption) (M.sel (by first | ((repeat (first | with_reducible exact Sel.refl | with_reducible exact Sel.nil | with_reducible exact Del.here | with_reducible apply Del.there | with_reducible apply Sel.cons | with_reducible apply Sel.drop)); done) | (repeat (first | exact Sel.refl | exact Sel.nil | exact Del.here | apply Del.there | apply Sel.cons | apply Sel.drop)))) | exact M.rdLit' (by first | ((repeat (first | with_reducible exact Has.here | with_reducible refine Has.there ?_)); done) | (repeat (first | exact Has.here | refine Has.there ?_))) | exact M.rdLent (by first | ((repeat (first | with_reducible exact Has.here | with_reducible refine Has.there ?_)); done) | (repeat (first | exact Has.here | refine Has.there ?_))) | exact RdB.nil _ _) (by omega) | exact RdB.suf (by first | with_reducible assumption | with_reducible exact RdB.mem (by with_reducible assumption) M | exact M.rdB (by first | ((repeat (first | with_reducible exact Has.here | with_reducible refine Has.there ?_)); done) | (repeat (first | exact Has.here | refine Has.there ?_))) | exact RdH.at (by assumption) (M.sel (by first | ((repeat (first | with_reducible exact Sel.refl | with_reducible exact Sel.nil | with_reducible exact Del.here | with_reducible apply Del.there | with_reducible apply Sel.cons | with_reducible apply Sel.drop)); done) | (repeat (first | exact Sel.refl | exact Sel.nil | exact Del.here | apply Del.there | apply Sel.cons | apply Sel.drop)))) | exact M.rdLit' (by first | ((repeat (first | with_reducible exact Has.here | with_reducible refine Has.there ?_)); done) | (repeat (first | exact Has.here | refine Has.there ?_))) | exact M.rdLent (by first | ((repeat (first | with_reducible exact Has.here | with_reducible refine Has.there ?_)); done) | (repeat (first | exact Has.here | refine Has.there ?_))) | exact RdB.nil _ _) (by omega)) (by omega) rfl ?_
    refine WL.assign rfl rfl ?_
    refine WL.nil ?_
    refine WX.next ?_
    refine W.sub [(0, _), (4, _), (7, _), (8, _), (9, _)] (.cons rfl (.cons rfl (.cons rfl (.cons rfl (.cons rfl .nil))))) ?_
    refine W.seq ?_
    refine W.region ?_
    refine WL.move rfl rfl ?_
    refine WL.geq rfl rfl rfl ?_
    refine WL.moveIf rfl rfl (fun c1 => ?_) (fun c1 => ?_)
    · refine WL.on rfl rfl ?_
      refine WL.move rfl rfl ?_
      refine WL.on rfl rfl ?_
      refine WL.leq rfl rfl rfl ?_
      refine WL.pickT rfl rfl rfl ?_
      refine WL.moveIf rfl rfl (fun c2 => ?_) (fun c2 => ?_)
      · refine WL.off rfl rfl rfl rfl ?_
        refine WL.off rfl rfl rfl rfl ?_
        refine WL.off rfl rfl rfl rfl ?_
        refine WL.offU rfl rfl rfl ?_
        refine WL.offU rfl rfl rfl ?_
        refine WL.off rfl rfl rfl rfl ?_
        refine WL.pickT rfl rfl rfl ?_
        refine WL.move rfl rfl ?_
        refine WL.off rfl rfl rfl rfl ?_
        refine WL.off rfl rfl rfl rfl ?_
        refine WL.off rfl rfl rfl rfl ?_
        refine WL.offU rfl rfl rfl ?_
        refine WL.offU rfl rfl rfl ?_
        refine WL.off rfl rfl rfl rfl ?_
        refine WL.pickT rfl rfl rfl ?_
        refine WL.assign rfl rfl ?_
        refine WL.nil ?_
        refine WX.next ?_
        refine W.sub [(0, _), (4, _), (5, _), (7, _), (8, _), (9, _)] (.cons rfl (.cons rfl (.cons rfl (.cons rfl (.cons rfl (.cons rfl .nil)))))) ?_
        refine W.seq ?_
        refine W.region ?_
        refine WL.move rfl rfl ?_
        refine WL.not rfl rfl ?_
        refine WL.move rfl rfl ?_
        refine WL.off rfl rfl rfl rfl ?_
        refine WL.off rfl rfl rfl rfl ?_
        refine WL.off rfl rfl rfl rfl ?_
        refine WL.pickF rfl rfl rfl ?_
        refine WL.nil ?_
        refine WX.next ?_
        refine W.sub [(0, _), (7, _), (8, _), (9, _), (41, _)] (.cons rfl (.cons rfl (.cons rfl (.cons rfl (.cons rfl .nil))))) ?_
        refine W.condF rfl ?_
        refine W.skip ?_
        refine WX.blockNormal ?_
        refine WX.next ?_
        refine W.region ?_
        refine WL.add rfl rfl (by first | exact wI64 (by omega) | rfl) rfl ?_
        refine WL.move rfl rfl ?_
        refine WL.nil ?_
        skip
        have q0 : letterP (el l k) := by
          first
          | exact .inl (by omega)
          | exact .inr (.inl (by omega))
          | exact .inr (.inr (.inl (by omega)))
          | exact .inr (.inr (.inr (Classical.not_not.1 fun h => c7 (indexByte_neg.2 h))))
        have q : ∀ j, j < k + 1 → letterP (el l j) := by
          intro j hj
          rcases Nat.lt_or_ge j k with h | h
          · exact hkl j h
          · obtain rfl : j = k := by omega
            exact q0
        refine WX.round (k + 1) (by (repeat' (first | exact envSub.nil | refine envSub.cons ?_ ?_)) <;> first | rfl | (refine congrArg some ?_; refine congrArg (Value.int _) ?_; first | omega | (dsimp only; omega)) | (simp; done) | (refine congrArg some ?_; dsimp only; congr 1; omega) | (simp; omega)) ⟨M.sel (by first | ((repeat (first | with_reducible exact Sel.refl | with_reducible exact Sel.nil | with_reducible exact Del.here | with_reducible apply Del.there | with_reducible apply Sel.cons | with_reducible apply Sel.drop)); done) | (repeat (first | exact Sel.refl | exact Sel.nil | exact Del.here | apply Del.there | apply Sel.cons | apply Sel.drop))), ⟨by omega, q⟩⟩ (by first | omega | (dsimp only; omega))
      · refine WL.on rfl rfl ?_
        refine WL.move rfl rfl ?_
        refine WL.on rfl rfl ?_
        refine WL.geq rfl rfl rfl ?_
        refine WL.on rfl rfl ?_
        refine WL.moveIf rfl rfl (fun c3 => ?_) (fun c3 => ?_)
        · refine WL.on rfl rfl ?_
          refine WL.move rfl rfl ?_
          refine WL.on rfl rfl ?_
          refine WL.leq rfl rfl rfl ?_
          refine WL.on rfl rfl ?_
          refine WL.pickT rfl rfl rfl ?_
          refine WL.pickF rfl rfl rfl ?_
          refine WL.moveIf rfl rfl (fun c4 => ?_) (fun c4 => ?_)
          · refine WL.off rfl rfl rfl rfl ?_
            refine WL.off rfl rfl rfl rfl ?_
            refine WL.off rfl rfl rfl rfl ?_
            refine WL.offU rfl rfl rfl ?_
            refine WL.offU rfl rfl rfl ?_
            refine WL.off rfl rfl rfl rfl ?_
            refine WL.pickT rfl rfl rfl ?_
            refine WL.assign rfl rfl ?_
            refine WL.nil ?_
            refine WX.next ?_
            refine W.sub [(0, _), (4, _), (5, _), (7, _), (8, _), (9, _)] (.cons rfl (.cons rfl (.cons rfl (.cons rfl (.cons rfl (.cons rfl .nil)))))) ?_
            refine W.seq ?_
            refine W.region ?_
            refine WL.move rfl rfl ?_
            refine WL.not rfl rfl ?_
            refine WL.move rfl rfl ?_
            refine WL.off rfl rfl rfl rfl ?_
            refine WL.off rfl rfl rfl rfl ?_
            refine WL.off rfl rfl rfl rfl ?_
            refine WL.pickF rfl rfl rfl ?_
            refine WL.nil ?_
            refine WX.next ?_
            refine W.sub [(0, _), (7, _), (8, _), (9, _), (41, _)] (.cons rfl (.cons rfl (.cons rfl (.cons rfl (.cons rfl .nil))))) ?_
            refine W.condF rfl ?_
            refine W.skip ?_
            refine WX.blockNormal ?_
            refine WX.next ?_
            refine W.region ?_
            refine WL.add rfl rfl (by first | exact wI64 (by omega) | rfl) rfl ?_
            refine WL.move rfl rfl ?_
            refine WL.nil ?_
            skip
            have q0 : letterP (el l k) := by
              first
              | exact .inl (by omega)
              | exact .inr (.inl (by omega))
              | exact .inr (.inr (.inl (by omega)))
              | exact .inr (.inr (.inr (Classical.not_not.1 fun h => c7 (indexByte_neg.2 h))))
            have q : ∀ j, j < k + 1 → letterP (el l j) := by
              intro j hj
              rcases Nat.lt_or_ge j k with h | h
              · exact hkl j h
              · obtain rfl : j = k := by omega
                exact q0
            refine WX.round (k + 1) (by (repeat' (first | exact envSub.nil | refine envSub.cons ?_ ?_)) <;> first | rfl | (refine congrArg some ?_; refine congrArg (Value.int _) ?_; first | omega | (dsimp only; omega)) | (simp; done) | (refine congrArg some ?_; dsimp only; congr 1; omega) | (simp; omega)) ⟨M.sel (by first | ((repeat (first | with_reducible exact Sel.refl | with_reducible exact Sel.nil | with_reducible exact Del.here | with_reducible apply Del.there | with_reducible apply Sel.cons | with_reducible apply Sel.drop)); done) | (repeat (first | exact Sel.refl | exact Sel.nil | exact Del.here | apply Del.there | apply Sel.cons | apply Sel.drop))), ⟨by omega, q⟩⟩ (by first | omega | (dsimp only; omega))
          · refine WL.on rfl rfl ?_
            refine WL.move rfl rfl ?_
            refine WL.on rfl rfl ?_
            refine WL.geq rfl rfl rfl ?_
            refine WL.on rfl rfl ?_
            refine WL.moveIf rfl rfl (fun c5 => ?_) (fun c5 => ?_)
            · refine WL.on rfl rfl ?_
              refine WL.move rfl rfl ?_
              refine WL.on rfl rfl ?_
              refine WL.leq rfl rfl rfl ?_
              refine WL.on rfl rfl ?_
              refine WL.pickT rfl rfl rfl ?_
              refine WL.pickF rfl rfl rfl ?_
              refine WL.assign rfl rfl ?_
              refine WL.nil ?_
              refine WX.next ?_
              refine W.sub [(0, _), (4, _), (5, _), (7, _), (8, _), (9, _)] (.cons rfl (.cons rfl (.cons rfl (.cons rfl (.cons rfl (.cons rfl .nil)))))) ?_
              refine W.seq ?_
              refine W.region ?_
              refine WL.move rfl rfl ?_
              refine WL.notP rfl rfl ?_
              refine WL.moveIf rfl rfl (fun c6 => ?_) (fun c6 => ?_)
              · refine WL.on rfl rfl ?_
                refine WL.move rfl rfl ?_
                refine WL.on rfl rfl ?_
                refine WL.call Try.call50 rfl (IndexByte_ok [46, 45, 43, 64, 95] (el l k) _) rfl ?_
                rintro _ _ ⟨rfl, rfl⟩
                refine WL.on rfl rfl ?_
                refine WL.lss rfl rfl rfl ?_
                refine WL.pickT rfl rfl rfl ?_
                refine WL.nil ?_
                refine WX.next ?_
                refine W.sub [(0, _), (7, _), (8, _), (9, _), (41, _)] (.cons rfl (.cons rfl (.cons rfl (.cons rfl (.cons rfl .nil))))) ?_
                refine W.ite rfl (fun c7 => ?_) (fun c7 => ?_)
                · refine W.seq ?_
                  refine W.region ?_
                  refine WL.assign rfl rfl ?_
                  refine WL.nil ?_
                  refine WX.next ?_
                  refine W.sub [(2, _)] (.cons rfl .nil) ?_
                  refine W.ret ?_
                  refine WX.blockRet ?_
                  refine WX.thenRet ?_
                  refine WX.thenRet ?_
                  refine WX.blockRet ?_
                  refine WX.thenRet ?_
                  refine WX.ret1 rfl rfl ?_
                  have hn : ¬ keyP l := fun h => by
                    have h2 := h.2.2 k hkk
                    unfold letterP at h2
                    rcases h2 with h2 | h2 | h2 | h2
                    · omega
                    · omega
                    · omega
                    · exact indexByte_neg.1 c7 h2
                  exact ⟨by rw [decide_eq_false hn], M.sel (by first | ((repeat (first | with_reducible exact Sel.refl | with_reducible exact Sel.nil | with_reducible exact Del.here | with_reducible apply Del.there | with_reducible apply Sel.cons | with_reducible apply Sel.drop)); done) | (repeat (first | exact Sel.refl | exact Sel.nil | exact Del.here | apply Del.there | apply Sel.cons | apply Sel.drop)))⟩
                · refine W.skip ?_
                  refine WX.blockNormal ?_
                  refine WX.next ?_
                  refine W.region ?_
                  refine WL.add rfl rfl (by first | exact wI64 (by omega) | rfl) rfl ?_
                  refine WL.move rfl rfl ?_
                  refine WL.nil ?_
                  skip
                  have q0 : letterP (el l k) := by
                    first
                    | exact .inl (by omega)
                    | exact .inr (.inl (by omega))
                    | exact .inr (.inr (.inl (by omega)))
                    | exact .inr (.inr (.inr (Classical.not_not.1 fun h => c7 (indexByte_neg.2 h))))
                  have q : ∀ j, j < k + 1 → letterP (el l j) := by
                    intro j hj
                    rcases Nat.lt_or_ge j k with h | h
                    · exact hkl j h
                    · obtain rfl : j = k := by omega
                      exact q0
                  refine WX.round (k + 1) (by (repeat' (first | exact envSub.nil | refine envSub.cons ?_ ?_)) <;> first | rfl | (refine congrArg some ?_; refine congrArg (Value.int _) ?_; first | omega | (dsimp only; omega)) | (simp; done) | (refine congrArg some ?_; dsimp only; congr 1; omega) | (simp; omega)) ⟨M.sel (by first | ((repeat (first | with_reducible exact Sel.refl | with_reducible exact Sel.nil | with_reducible exact Del.here | with_reducible apply Del.there | with_reducible apply Sel.cons | with_reducible apply Sel.drop)); done) | (repeat (first | exact Sel.refl | exact Sel.nil | exact Del.here | apply Del.there | apply Sel.cons | apply Sel.drop))), ⟨by omega, q⟩⟩ (by first | omega | (dsimp only; omega))
              · refine WL.off rfl rfl rfl rfl ?_
                refine WL.off rfl rfl rfl rfl ?_
                refine WL.off rfl rfl rfl rfl ?_
                refine WL.pickF rfl rfl rfl ?_
                refine WL.nil ?_
                refine WX.next ?_
                refine W.sub [(0, _), (7, _), (8, _), (9, _), (41, _)] (.cons rfl (.cons rfl (.cons rfl (.cons rfl (.cons rfl .nil))))) ?_
                refine W.condF rfl ?_
                refine W.skip ?_
                refine WX.blockNormal ?_
                refine WX.next ?_
                refine W.region ?_
                refine WL.add rfl rfl (by first | exact wI64 (by omega) | rfl) rfl ?_
                refine WL.move rfl rfl ?_
                refine WL.nil ?_
                skip
                have q0 : letterP (el l k) := by
                  first
                  | exact .inl (by omega)
                  | exact .inr (.inl (by omega))
                  | exact .inr (.inr (.inl (by omega)))
                  | exact .inr (.inr (.inr (Classical.not_not.1 fun h => c7 (indexByte_neg.2 h))))
                have q : ∀ j, j < k + 1 → letterP (el l j) := by
                  intro j hj
                  rcases Nat.lt_or_ge j k with h | h
                  · exact hkl j h
                  · obtain rfl : j = k := by omega
                    exact q0
                refine WX.round (k + 1) (by (repeat' (first | exact envSub.nil | refine envSub.cons ?_ ?_)) <;> first | rfl | (refine congrArg some ?_; refine congrArg (Value.int _) ?_; first | omega | (dsimp only; omega)) | (simp; done) | (refine congrArg some ?_; dsimp only; congr 1; omega) | (simp; omega)) ⟨M.sel (by first | ((repeat (first | with_reducible exact Sel.refl | with_reducible exact Sel.nil | with_reducible exact Del.here | with_reducible apply Del.there | with_reducible apply Sel.cons | with_reducible apply Sel.drop)); done) | (repeat (first | exact Sel.refl | exact Sel.nil | exact Del.here | apply Del.there | apply Sel.cons | apply Sel.drop))), ⟨by omega, q⟩⟩ (by first | omega | (dsimp only; omega))
            · refine WL.off rfl rfl rfl rfl ?_
              refine WL.off rfl rfl rfl rfl ?_
              refine WL.on rfl rfl ?_
              refine WL.pickF rfl rfl rfl ?_
              refine WL.pickF rfl rfl rfl ?_
              refine WL.assign rfl rfl ?_
              refine WL.nil ?_
              refine WX.next ?_
              refine W.sub [(0, _), (4, _), (5, _), (7, _), (8, _), (9, _)] (.cons rfl (.cons rfl (.cons rfl (.cons rfl (.cons rfl (.cons rfl .nil)))))) ?_
              refine W.seq ?_
              refine W.region ?_
              refine WL.move rfl rfl ?_
              refine WL.not rfl rfl ?_
              refine WL.move rfl rfl ?_
              refine WL.on rfl rfl ?_
              refine WL.move rfl rfl ?_
              refine WL.on rfl rfl ?_
              refine WL.call Try.call50 rfl (IndexByte_ok [46, 45, 43, 64, 95] (el l k) _) rfl ?_
              rintro _ _ ⟨rfl, rfl⟩
              refine WL.on rfl rfl ?_
              refine WL.lss rfl rfl rfl ?_
              refine WL.pickT rfl rfl rfl ?_
              refine WL.nil ?_
              refine WX.next ?_
              refine W.sub [(0, _), (7, _), (8, _), (9, _), (41, _)] (.cons rfl (.cons rfl (.cons rfl (.cons rfl (.cons rfl .nil))))) ?_
              refine W.ite rfl (fun c7 => ?_) (fun c7 => ?_)
              · refine W.seq ?_
                refine W.region ?_
                refine WL.assign rfl rfl ?_
                refine WL.nil ?_
                refine WX.next ?_
                refine W.sub [(2, _)] (.cons rfl .nil) ?_
                refine W.ret ?_
                refine WX.blockRet ?_
                refine WX.thenRet ?_
                refine WX.thenRet ?_
                refine WX.blockRet ?_
                refine WX.thenRet ?_
                refine WX.ret1 rfl rfl ?_
                have hn : ¬ keyP l := fun h => by
                  have h2 := h.2.2 k hkk
                  unfold letterP at h2
                  rcases h2 with h2 | h2 | h2 | h2
                  · omega
                  · omega
                  · omega
                  · exact indexByte_neg.1 c7 h2
                exact ⟨by rw [decide_eq_false hn], M.sel (by first | ((repeat (first | with_reducible exact Sel.refl | with_reducible exact Sel.nil | with_reducible exact Del.here | with_reducible apply Del.there | with_reducible apply Sel.cons | with_reducible apply Sel.drop)); done) | (repeat (first | exact Sel.refl | exact Sel.nil | exact Del.here | apply Del.there | apply Sel.cons | apply Sel.drop)))⟩
              · refine W.skip ?_
                refine WX.blockNormal ?_
                refine WX.next ?_
                refine W.region ?_
                refine WL.add rfl rfl (by first | exact wI64 (by omega) | rfl) rfl ?_
                refine WL.move rfl rfl ?_
                refine WL.nil ?_
                skip
                have q0 : letterP (el l k) := by
                  first
                  | exact .inl (by omega)
                  | exact .inr (.inl (by omega))
                  | exact .inr (.inr (.inl (by omega)))
                  | exact .inr (.inr (.inr (Classical.not_not.1 fun h => c7 (indexByte_neg.2 h))))
                have q : ∀ j, j < k + 1 → letterP (el l j) := by
                  intro j hj
                  rcases Nat.lt_or_ge j k with h | h
                  · exact hkl j h
                  · obtain rfl : j = k := by omega
                    exact q0
                refine WX.round (k + 1) (by (repeat' (first | exact envSub.nil | refine envSub.cons ?_ ?_)) <;> first | rfl | (refine congrArg some ?_; refine congrArg (Value.int _) ?_; first | omega | (dsimp only; omega)) | (simp; done) | (refine congrArg some ?_; dsimp only; congr 1; omega) | (simp; omega)) ⟨M.sel (by first | ((repeat (first | with_reducible exact Sel.refl | with_reducible exact Sel.nil | with_reducible exact Del.here | with_reducible apply Del.there | with_reducible apply Sel.cons | with_reducible apply Sel.drop)); done) | (repeat (first | exact Sel.refl | exact Sel.nil | exact Del.here | apply Del.there | apply Sel.cons | apply Sel.drop))), ⟨by omega, q⟩⟩ (by first | omega | (dsimp only; omega))
        · refine WL.off rfl rfl rfl rfl ?_
          refine WL.off rfl rfl rfl rfl ?_
          refine WL.on rfl rfl ?_
          refine WL.pickF rfl rfl rfl ?_
          refine WL.pickF rfl rfl rfl ?_
          refine WL.move rfl rfl ?_
          refine WL.on rfl rfl ?_
          refine WL.move rfl rfl ?_
          refine WL.on rfl rfl ?_
          refine WL.geq rfl rfl rfl ?_
          refine WL.on rfl rfl ?_
          refine WL.moveIf rfl rfl (fun c5 => ?_) (fun c5 => ?_)
          · refine WL.on rfl rfl ?_
            refine WL.move rfl rfl ?_
            refine WL.on rfl rfl ?_
            refine WL.leq rfl rfl rfl ?_
            refine WL.on rfl rfl ?_
            refine WL.pickT rfl rfl rfl ?_
            refine WL.pickF rfl rfl rfl ?_
            refine WL.assign rfl rfl ?_
            refine WL.nil ?_
            refine WX.next ?_
            refine W.sub [(0, _), (4, _), (5, _), (7, _), (8, _), (9, _)] (.cons rfl (.cons rfl (.cons rfl (.cons rfl (.cons rfl (.cons rfl .nil)))))) ?_
            refine W.seq ?_
            refine W.region ?_
            refine WL.move rfl rfl ?_
            refine WL.notP rfl rfl ?_
            refine WL.moveIf rfl rfl (fun c6 => ?_) (fun c6 => ?_)
            · refine WL.on rfl rfl ?_
              refine WL.move rfl rfl ?_
              refine WL.on rfl rfl ?_
              refine WL.call Try.call50 rfl (IndexByte_ok [46, 45, 43, 64, 95] (el l k) _) rfl ?_
              rintro _ _ ⟨rfl, rfl⟩
              refine WL.on rfl rfl ?_
              refine WL.lss rfl rfl rfl ?_
              refine WL.pickT rfl rfl rfl ?_
              refine WL.nil ?_
              refine WX.next ?_
              refine W.sub [(0, _), (7, _), (8, _), (9, _), (41, _)] (.cons rfl (.cons rfl (.cons rfl (.cons rfl (.cons rfl .nil))))) ?_
              refine W.ite rfl (fun c7 => ?_) (fun c7 => ?_)
              · refine W.seq ?_
                refine W.region ?_
                refine WL.assign rfl rfl ?_
                refine WL.nil ?_
                refine WX.next ?_
                refine W.sub [(2, _)] (.cons rfl .nil) ?_
                refine W.ret ?_
                refine WX.blockRet ?_
                refine WX.thenRet ?_
                refine WX.thenRet ?_
                refine WX.blockRet ?_
                refine WX.thenRet ?_
                refine WX.ret1 rfl rfl ?_
                have hn : ¬ keyP l := fun h => by
                  have h2 := h.2.2 k hkk
                  unfold letterP at h2
                  rcases h2 with h2 | h2 | h2 | h2
                  · omega
                  · omega
                  · omega
                  · exact indexByte_neg.1 c7 h2
                exact ⟨by rw [decide_eq_false hn], M.sel (by first | ((repeat (first | with_reducible exact Sel.refl | with_reducible exact Sel.nil | with_reducible exact Del.here | with_reducible apply Del.there | with_reducible apply Sel.cons | with_reducible apply Sel.drop)); done) | (repeat (first | exact Sel.refl | exact Sel.nil | exact Del.here | apply Del.there | apply Sel.cons | apply Sel.drop)))⟩
              · refine W.skip ?_
                refine WX.blockNormal ?_
                refine WX.next ?_
                refine W.region ?_
                refine WL.add rfl rfl (by first | exact wI64 (by omega) | rfl) rfl ?_
                refine WL.move rfl rfl ?_
                refine WL.nil ?_
                skip
                have q0 : letterP (el l k) := by
                  first
                  | exact .inl (by omega)
                  | exact .inr (.inl (by omega))
                  | exact .inr (.inr (.inl (by omega)))
                  | exact .inr (.inr (.inr (Classical.not_not.1 fun h => c7 (indexByte_neg.2 h))))
                have q : ∀ j, j < k + 1 → letterP (el l j) := by
                  intro j hj
                  rcases Nat.lt_or_ge j k with h | h
                  · exact hkl j h
                  · obtain rfl : j = k := by omega
                    exact q0
                refine WX.round (k + 1) (by (repeat' (first | exact envSub.nil | refine envSub.cons ?_ ?_)) <;> first | rfl | (refine congrArg some ?_; refine congrArg (Value.int _) ?_; first | omega | (dsimp only; omega)) | (simp; done) | (refine congrArg some ?_; dsimp only; congr 1; omega) | (simp; omega)) ⟨M.sel (by first | ((repeat (first | with_reducible exact Sel.refl | with_reducible exact Sel.nil | with_reducible exact Del.here | with_reducible apply Del.there | with_reducible apply Sel.cons | with_reducible apply Sel.drop)); done) | (repeat (first | exact Sel.refl | exact Sel.nil | exact Del.here | apply Del.there | apply Sel.cons | apply Sel.drop))), ⟨by omega, q⟩⟩ (by first | omega | (dsimp only; omega))
            · refine WL.off rfl rfl rfl rfl ?_
              refine WL.off rfl rfl rfl rfl ?_
              refine WL.off rfl rfl rfl rfl ?_
              refine WL.pickF rfl rfl rfl ?_
              refine WL.nil ?_
              refine WX.next ?_
              refine W.sub [(0, _), (7, _), (8, _), (9, _), (41, _)] (.cons rfl (.cons rfl (.cons rfl (.cons rfl (.cons rfl .nil))))) ?_
              refine W.condF rfl ?_
              refine W.skip ?_
              refine WX.blockNormal ?_
              refine WX.next ?_
              refine W.region ?_
              refine WL.add rfl rfl (by first | exact wI64 (by omega) | rfl) rfl ?_
              refine WL.move rfl rfl ?_
              refine WL.nil ?_
              skip
              have q0 : letterP (el l k) := by
                first
                | exact .inl (by omega)
                | exact .inr (.inl (by omega))
                | exact .inr (.inr (.inl (by omega)))
                | exact .inr (.inr (.inr (Classical.not_not.1 fun h => c7 (indexByte_neg.2 h))))
              have q : ∀ j, j < k + 1 → letterP (el l j) := by
                intro j hj
                rcases Nat.lt_or_ge j k with h | h
                · exact hkl j h
                · obtain rfl : j = k := by omega
                  exact q0
              refine WX.round (k + 1) (by (repeat' (first | exact envSub.nil | refine envSub.cons ?_ ?_)) <;> first | rfl | (refine congrArg some ?_; refine congrArg (Value.int _) ?_; first | omega | (dsimp only; omega)) | (simp; done) | (refine congrArg some ?_; dsimp only; congr 1; omega) | (simp; omega)) ⟨M.sel (by first | ((repeat (first | with_reducible exact Sel.refl | with_reducible exact Sel.nil | with_reducible exact Del.here | with_reducible apply Del.there | with_reducible apply Sel.cons | with_reducible apply Sel.drop)); done) | (repeat (first | exact Sel.refl | exact Sel.nil | exact Del.here | apply Del.there | apply Sel.cons | apply Sel.drop))), ⟨by omega, q⟩⟩ (by first | omega | (dsimp only; omega))
          · refine WL.off rfl rfl rfl rfl ?_
            refine WL.off rfl rfl rfl rfl ?_
            refine WL.on rfl rfl ?_
            refine WL.pickF rfl rfl rfl ?_
            refine WL.pickF rfl rfl rfl ?_
            refine WL.assign rfl rfl ?_
            refine WL.nil ?_
            refine WX.next ?_
            refine W.sub [(0, _), (4, _), (5, _), (7, _), (8, _), (9, _)] (.cons rfl (.cons rfl (.cons rfl (.cons rfl (.cons rfl (.cons rfl .nil)))))) ?_
            refine W.seq ?_
            refine W.region ?_
            refine WL.move rfl rfl ?_
            refine WL.not rfl rfl ?_
            refine WL.move rfl rfl ?_
            refine WL.on rfl rfl ?_
            refine WL.move rfl rfl ?_
            refine WL.on rfl rfl ?_
            refine WL.call Try.call50 rfl (IndexByte_ok [46, 45, 43, 64, 95] (el l k) _) rfl ?_
            rintro _ _ ⟨rfl, rfl⟩
            refine WL.on rfl rfl ?_
            refine WL.lss rfl rfl rfl ?_
            refine WL.pickT rfl rfl rfl ?_
            refine WL.nil ?_
            refine WX.next ?_
            refine W.sub [(0, _), (7, _), (8, _), (9, _), (41, _)] (.cons rfl (.cons rfl (.cons rfl (.cons rfl (.cons rfl .nil))))) ?_
            refine W.ite rfl (fun c7 => ?_) (fun c7 => ?_)
            · refine W.seq ?_
              refine W.region ?_
              refine WL.assign rfl rfl ?_
              refine WL.nil ?_
              refine WX.next ?_
              refine W.sub [(2, _)] (.cons rfl .nil) ?_
              refine W.ret ?_
              refine WX.blockRet ?_
              refine WX.thenRet ?_
              refine WX.thenRet ?_
              refine WX.blockRet ?_
              refine WX.thenRet ?_
              refine WX.ret1 rfl rfl ?_
              have hn : ¬ keyP l := fun h => by
                have h2 := h.2.2 k hkk
                unfold letterP at h2
                rcases h2 with h2 | h2 | h2 | h2
                · omega
                · omega
                · omega
                · exact indexByte_neg.1 c7 h2
              exact ⟨by rw [decide_eq_false hn], M.sel (by first | ((repeat (first | with_reducible exact Sel.refl | with_reducible exact Sel.nil | with_reducible exact Del.here | with_reducible apply Del.there | with_reducible apply Sel.cons | with_reducible apply Sel.drop)); done) | (repeat (first | exact Sel.refl | exact Sel.nil | exact Del.here | apply Del.there | apply Sel.cons | apply Sel.drop)))⟩
            · refine W.skip ?_
              refine WX.blockNormal ?_
              refine WX.next ?_
              refine W.region ?_
              refine WL.add rfl rfl (by first | exact wI64 (by omega) | rfl) rfl ?_
              refine WL.move rfl rfl ?_
              refine WL.nil ?_
              skip
              have q0 : letterP (el l k) := by
                first
                | exact .inl (by omega)
                | exact .inr (.inl (by omega))
                | exact .inr (.inr (.inl (by omega)))
                | exact .inr (.inr (.inr (Classical.not_not.1 fun h => c7 (indexByte_neg.2 h))))
              have q : ∀ j, j < k + 1 → letterP (el l j) := by
                intro j hj
                rcases Nat.lt_or_ge j k with h | h
                · exact hkl j h
                · obtain rfl : j = k := by omega
                  exact q0
              refine WX.round (k + 1) (by (repeat' (first | exact envSub.nil | refine envSub.cons ?_ ?_)) <;> first | rfl | (refine congrArg some ?_; refine congrArg (Value.int _) ?_; first | omega | (dsimp only; omega)) | (simp; done) | (refine congrArg some ?_; dsimp only; congr 1; omega) | (simp; omega)) ⟨M.sel (by first | ((repeat (first | with_reducible exact Sel.refl | with_reducible exact Sel.nil | with_reducible exact Del.here | with_reducible apply Del.there | with_reducible apply Sel.cons | with_reducible apply Sel.drop)); done) | (repeat (first | exact Sel.refl | exact Sel.nil | exact Del.here | apply Del.there | apply Sel.cons | apply Sel.drop))), ⟨by omega, q⟩⟩ (by first | omega | (dsimp only; omega))
    · refine WL.off rfl rfl rfl rfl ?_
      refine WL.off rfl rfl rfl rfl ?_
      refine WL.pickF rfl rfl rfl ?_
      refine WL.move rfl rfl ?_
      refine WL.on rfl rfl ?_
      refine WL.move rfl rfl ?_
      refine WL.on rfl rfl ?_
      refine WL.geq rfl rfl rfl ?_
      refine WL.on rfl rfl ?_
      refine WL.moveIf rfl rfl (fun c3 => ?_) (fun c3 => ?_)
      · refine WL.on rfl rfl ?_
        refine WL.move rfl rfl ?_
        refine WL.on rfl rfl ?_
        refine WL.leq rfl rfl rfl ?_
        refine WL.on rfl rfl ?_
        refine WL.pickT rfl rfl rfl ?_
        refine WL.pickF rfl rfl rfl ?_
        refine WL.moveIf rfl rfl (fun c4 => ?_) (fun c4 => ?_)
        · refine WL.off rfl rfl rfl rfl ?_
          refine WL.off rfl rfl rfl rfl ?_
          refine WL.off rfl rfl rfl rfl ?_
          refine WL.offU rfl rfl rfl ?_
          refine WL.offU rfl rfl rfl ?_
          refine WL.off rfl rfl rfl rfl ?_
          refine WL.pickT rfl rfl rfl ?_
          refine WL.assign rfl rfl ?_
          refine WL.nil ?_
          refine WX.next ?_
          refine W.sub [(0, _), (4, _), (5, _), (7, _), (8, _), (9, _)] (.cons rfl (.cons rfl (.cons rfl (.cons rfl (.cons rfl (.cons rfl .nil)))))) ?_
          refine W.seq ?_
          refine W.region ?_
          refine WL.move rfl rfl ?_
          refine WL.not rfl rfl ?_
          refine WL.move rfl rfl ?_
          refine WL.off rfl rfl rfl rfl ?_
          refine WL.off rfl rfl rfl rfl ?_
          refine WL.off rfl rfl rfl rfl ?_
          refine WL.pickF rfl rfl rfl ?_
          refine WL.nil ?_
          refine WX.next ?_
          refine W.sub [(0, _), (7, _), (8, _), (9, _), (41, _)] (.cons rfl (.cons rfl (.cons rfl (.cons rfl (.cons rfl .nil))))) ?_
          refine W.condF rfl ?_
          refine W.skip ?_
          refine WX.blockNormal ?_
          refine WX.next ?_
          refine W.region ?_
          refine WL.add rfl rfl (by first | exact wI64 (by omega) | rfl) rfl ?_
          refine WL.move rfl rfl ?_
          refine WL.nil ?_
          skip
          have q0 : letterP (el l k) := by
            first
            | exact .inl (by omega)
            | exact .inr (.inl (by omega))
            | exact .inr (.inr (.inl (by omega)))
            | exact .inr (.inr (.inr (Classical.not_not.1 fun h => c7 (indexByte_neg.2 h))))
          have q : ∀ j, j < k + 1 → letterP (el l j) := by
            intro j hj
            rcases Nat.lt_or_ge j k with h | h
            · exact hkl j h
            · obtain rfl : j = k := by omega
              exact q0
          refine WX.round (k + 1) (by (repeat' (first | exact envSub.nil | refine envSub.cons ?_ ?_)) <;> first | rfl | (refine congrArg some ?_; refine congrArg (Value.int _) ?_; first | omega | (dsimp only; omega)) | (simp; done) | (refine congrArg some ?_; dsimp only; congr 1; omega) | (simp; omega)) ⟨M.sel (by first | ((repeat (first | with_reducible exact Sel.refl | with_reducible exact Sel.nil | with_reducible exact Del.here | with_reducible apply Del.there | with_reducible apply Sel.cons | with_reducible apply Sel.drop)); done) | (repeat (first | exact Sel.refl | exact Sel.nil | exact Del.here | apply Del.there | apply Sel.cons | apply Sel.drop))), ⟨by omega, q⟩⟩ (by first | omega | (dsimp only; omega))
        · refine WL.on rfl rfl ?_
          refine WL.move rfl rfl ?_
          refine WL.on rfl rfl ?_
          refine WL.geq rfl rfl rfl ?_
          refine WL.on rfl rfl ?_
          refine WL.moveIf rfl rfl (fun c5 => ?_) (fun c5 => ?_)
          · refine WL.on rfl rfl ?_
            refine WL.move rfl rfl ?_
            refine WL.on rfl rfl ?_
            refine WL.leq rfl rfl rfl ?_
            refine WL.on rfl rfl ?_
            refine WL.pickT rfl rfl rfl ?_
            refine WL.pickF rfl rfl rfl ?_
            refine WL.assign rfl rfl ?_
            refine WL.nil ?_
            refine WX.next ?_
            refine W.sub [(0, _), (4, _), (5, _), (7, _), (8, _), (9, _)] (.cons rfl (.cons rfl (.cons rfl (.cons rfl (.cons rfl (.cons rfl .nil)))))) ?_
            refine W.seq ?_
            refine W.region ?_
            refine WL.move rfl rfl ?_
            refine WL.notP rfl rfl ?_
            refine WL.moveIf rfl rfl (fun c6 => ?_) (fun c6 => ?_)
            · refine WL.on rfl rfl ?_
              refine WL.move rfl rfl ?_
              refine WL.on rfl rfl ?_
              refine WL.call Try.call50 rfl (IndexByte_ok [46, 45, 43, 64, 95] (el l k) _) rfl ?_
              rintro _ _ ⟨rfl, rfl⟩
              refine WL.on rfl rfl ?_
              refine WL.lss rfl rfl rfl ?_
              refine WL.pickT rfl rfl rfl ?_
              refine WL.nil ?_
              refine WX.next ?_
              refine W.sub [(0, _), (7, _), (8, _), (9, _), (41, _)] (.cons rfl (.cons rfl (.cons rfl (.cons rfl (.cons rfl .nil))))) ?_
              refine W.ite rfl (fun c7 => ?_) (fun c7 => ?_)
              · refine W.seq ?_
                refine W.region ?_
                refine WL.assign rfl rfl ?_
                refine WL.nil ?_
                refine WX.next ?_
                refine W.sub [(2, _)] (.cons rfl .nil) ?_
                refine W.ret ?_
                refine WX.blockRet ?_
                refine WX.thenRet ?_
                refine WX.thenRet ?_
                refine WX.blockRet ?_
                refine WX.thenRet ?_
                refine WX.ret1 rfl rfl ?_
                have hn : ¬ keyP l := fun h => by
                  have h2 := h.2.2 k hkk
                  unfold letterP at h2
                  rcases h2 with h2 | h2 | h2 | h2
                  · omega
                  · omega
                  · omega
                  · exact indexByte_neg.1 c7 h2
                exact ⟨by rw [decide_eq_false hn], M.sel (by first | ((repeat (first | with_reducible exact Sel.refl | with_reducible exact Sel.nil | with_reducible exact Del.here | with_reducible apply Del.there | with_reducible apply Sel.cons | with_reducible apply Sel.drop)); done) | (repeat (first | exact Sel.refl | exact Sel.nil | exact Del.here | apply Del.there | apply Sel.cons | apply Sel.drop)))⟩
              · refine W.skip ?_
                refine WX.blockNormal ?_
                refine WX.next ?_
                refine W.region ?_
                refine WL.add rfl rfl (by first | exact wI64 (by omega) | rfl) rfl ?_
                refine WL.move rfl rfl ?_
                refine WL.nil ?_
                skip
                have q0 : letterP (el l k) := by
                  first
                  | exact .inl (by omega)
                  | exact .inr (.inl (by omega))
                  | exact .inr (.inr (.inl (by omega)))
                  | exact .inr (.inr (.inr (Classical.not_not.1 fun h => c7 (indexByte_neg.2 h))))
                have q : ∀ j, j < k + 1 → letterP (el l j) := by
                  intro j hj
                  rcases Nat.lt_or_ge j k with h | h
                  · exact hkl j h
                  · obtain rfl : j = k := by omega
                    exact q0
                refine WX.round (k + 1) (by (repeat' (first | exact envSub.nil | refine envSub.cons ?_ ?_)) <;> first | rfl | (refine congrArg some ?_; refine congrArg (Value.int _) ?_; first | omega | (dsimp only; omega)) | (simp; done) | (refine congrArg some ?_; dsimp only; congr 1; omega) | (simp; omega)) ⟨M.sel (by first | ((repeat (first | with_reducible exact Sel.refl | with_reducible exact Sel.nil | with_reducible exact Del.here | with_reducible apply Del.there | with_reducible apply Sel.cons | with_reducible apply Sel.drop)); done) | (repeat (first | exact Sel.refl | exact Sel.nil | exact Del.here | apply Del.there | apply Sel.cons | apply Sel.drop))), ⟨by omega, q⟩⟩ (by first | omega | (dsimp only; omega))
            · refine WL.off rfl rfl rfl rfl ?_
              refine WL.off rfl rfl rfl rfl ?_
              refine WL.off rfl rfl rfl rfl ?_
              refine WL.pickF rfl rfl rfl ?_
              refine WL.nil ?_
              refine WX.next ?_
              refine W.sub [(0, _), (7, _), (8, _), (9, _), (41, _)] (.cons rfl (.cons rfl (.cons rfl (.cons rfl (.cons rfl .nil))))) ?_
              refine W.condF rfl ?_
              refine W.skip ?_
              refine WX.blockNormal ?_
              refine WX.next ?_
              refine W.region ?_
              refine WL.add rfl rfl (by first | exact wI64 (by omega) | rfl) rfl ?_
              refine WL.move rfl rfl ?_
              refine WL.nil ?_
              skip
              have q0 : letterP (el l k) := by
                first
                | exact .inl (by omega)
                | exact .inr (.inl (by omega))
                | exact .inr (.inr (.inl (by omega)))
                | exact .inr (.inr (.inr (Classical.not_not.1 fun h => c7 (indexByte_neg.2 h))))
              have q : ∀ j, j < k + 1 → letterP (el l j) := by
                intro j hj
                rcases Nat.lt_or_ge j k with h | h
                · exact hkl j h
                · obtain rfl : j = k := by omega
                  exact q0
              refine WX.round (k + 1) (by (repeat' (first | exact envSub.nil | refine envSub.cons ?_ ?_)) <;> first | rfl | (refine congrArg some ?_; refine congrArg (Value.int _) ?_; first | omega | (dsimp only; omega)) | (simp; done) | (refine congrArg some ?_; dsimp only; congr 1; omega) | (simp; omega)) ⟨M.sel (by first | ((repeat (first | with_reducible exact Sel.refl | with_reducible exact Sel.nil | with_reducible exact Del.here | with_reducible apply Del.there | with_reducible apply Sel.cons | with_reducible apply Sel.drop)); done) | (repeat (first | exact Sel.refl | exact Sel.nil | exact Del.here | apply Del.there | apply Sel.cons | apply Sel.drop))), ⟨by omega, q⟩⟩ (by first | omega | (dsimp only; omega))
          · refine WL.off rfl rfl rfl rfl ?_
            refine WL.off rfl rfl rfl rfl ?_
            refine WL.on rfl rfl ?_
            refine WL.pickF rfl rfl rfl ?_
            refine WL.pickF rfl rfl rfl ?_
            refine WL.assign rfl rfl ?_
            refine WL.nil ?_
            refine WX.next ?_
            refine W.sub [(0, _), (4, _), (5, _), (7, _), (8, _), (9, _)] (.cons rfl (.cons rfl (.cons rfl (.cons rfl (.cons rfl (.cons rfl .nil)))))) ?_
            refine W.seq ?_
            refine W.region ?_
            refine WL.move rfl rfl ?_
            refine WL.not rfl rfl ?_
            refine WL.move rfl rfl ?_
            refine WL.on rfl rfl ?_
            refine WL.move rfl rfl ?_
            refine WL.on rfl rfl ?_
            refine WL.call Try.call50 rfl (IndexByte_ok [46, 45, 43, 64, 95] (el l k) _) rfl ?_
            rintro _ _ ⟨rfl, rfl⟩
            refine WL.on rfl rfl ?_
            refine WL.lss rfl rfl rfl ?_
            refine WL.pickT rfl rfl rfl ?_
            refine WL.nil ?_
            refine WX.next ?_
            refine W.sub [(0, _), (7, _), (8, _), (9, _), (41, _)] (.cons rfl (.cons rfl (.cons rfl (.cons rfl (.cons rfl .nil))))) ?_
            refine W.ite rfl (fun c7 => ?_) (fun c7 => ?_)
            · refine W.seq ?_
              refine W.region ?_
              refine WL.assign rfl rfl ?_
              refine WL.nil ?_
              refine WX.next ?_
              refine W.sub [(2, _)] (.cons rfl .nil) ?_
              refine W.ret ?_
              refine WX.blockRet ?_
              refine WX.thenRet ?_
              refine WX.thenRet ?_
              refine WX.blockRet ?_
              refine WX.thenRet ?_
              refine WX.ret1 rfl rfl ?_
              have hn : ¬ keyP l := fun h => by
                have h2 := h.2.2 k hkk
                unfold letterP at h2
                rcases h2 with h2 | h2 | h2 | h2
                · omega
                · omega
                · omega
                · exact indexByte_neg.1 c7 h2
              exact ⟨by rw [decide_eq_false hn], M.sel (by first | ((repeat (first | with_reducible exact Sel.refl | with_reducible exact Sel.nil | with_reducible exact Del.here | with_reducible apply Del.there | with_reducible apply Sel.cons | with_reducible apply Sel.drop)); done) | (repeat (first | exact Sel.refl | exact Sel.nil | exact Del.here | apply Del.there | apply Sel.cons | apply Sel.drop)))⟩
            · refine W.skip ?_
              refine WX.blockNormal ?_
              refine WX.next ?_
              refine W.region ?_
              refine WL.add rfl rfl (by first | exact wI64 (by omega) | rfl) rfl ?_
              refine WL.move rfl rfl ?_
              refine WL.nil ?_
              skip
              have q0 : letterP (el l k) := by
                first
                | exact .inl (by omega)
                | exact .inr (.inl (by omega))
                | exact .inr (.inr (.inl (by omega)))
                | exact .inr (.inr (.inr (Classical.not_not.1 fun h => c7 (indexByte_neg.2 h))))
              have q : ∀ j, j < k + 1 → letterP (el l j) := by
                intro j hj
                rcases Nat.lt_or_ge j k with h | h
                · exact hkl j h
                · obtain rfl : j = k := by omega
                  exact q0
              refine WX.round (k + 1) (by (repeat' (first | exact envSub.nil | refine envSub.cons ?_ ?_)) <;> first | rfl | (refine congrArg some ?_; refine congrArg (Value.int _) ?_; first | omega | (dsimp only; omega)) | (simp; done) | (refine congrArg some ?_; dsimp only; congr 1; omega) | (simp; omega)) ⟨M.sel (by first | ((repeat (first | with_reducible exact Sel.refl | with_reducible exact Sel.nil | with_reducible exact Del.here | with_reducible apply Del.there | with_reducible apply Sel.cons | with_reducible apply Sel.drop)); done) | (repeat (first | exact Sel.refl | exact Sel.nil | exact Del.here | apply Del.there | apply Sel.cons | apply Sel.drop))), ⟨by omega, q⟩⟩ (by first | omega | (dsimp only; omega))
      · refine WL.off rfl rfl rfl rfl ?_
        refine WL.off rfl rfl rfl rfl ?_
        refine WL.on rfl rfl ?_
        refine WL.pickF rfl rfl rfl ?_
        refine WL.pickF rfl rfl rfl ?_
        refine WL.move rfl rfl ?_
        refine WL.on rfl rfl ?_
        refine WL.move rfl rfl ?_
        refine WL.on rfl rfl ?_
        refine WL.geq rfl rfl rfl ?_
        refine WL.on rfl rfl ?_
        refine WL.moveIf rfl rfl (fun c5 => ?_) (fun c5 => ?_)
        · refine WL.on rfl rfl ?_
          refine WL.move rfl rfl ?_
          refine WL.on rfl rfl ?_
          refine WL.leq rfl rfl rfl ?_
          refine WL.on rfl rfl ?_
          refine WL.pickT rfl rfl rfl ?_
          refine WL.pickF rfl rfl rfl ?_
          refine WL.assign rfl rfl ?_
          refine WL.nil ?_
          refine WX.next ?_
          refine W.sub [(0, _), (4, _), (5, _), (7, _), (8, _), (9, _)] (.cons rfl (.cons rfl (.cons rfl (.cons rfl (.cons rfl (.cons rfl .nil)))))) ?_
          refine W.seq ?_
          refine W.region ?_
          refine WL.move rfl rfl ?_
          refine WL.notP rfl rfl ?_
          refine WL.moveIf rfl rfl (fun c6 => ?_) (fun c6 => ?_)
          · refine WL.on rfl rfl ?_
            refine WL.move rfl rfl ?_
            refine WL.on rfl rfl ?_
            refine WL.call Try.call50 rfl (IndexByte_ok [46, 45, 43, 64, 95] (el l k) _) rfl ?_
            rintro _ _ ⟨rfl, rfl⟩
            refine WL.on rfl rfl ?_
            refine WL.lss rfl rfl rfl ?_
            refine WL.pickT rfl rfl rfl ?_
            refine WL.nil ?_
            refine WX.next ?_
            refine W.sub [(0, _), (7, _), (8, _), (9, _), (41, _)] (.cons rfl (.cons rfl (.cons rfl (.cons rfl (.cons rfl .nil))))) ?_
            refine W.ite rfl (fun c7 => ?_) (fun c7 => ?_)
            · refine W.seq ?_
              refine W.region ?_
              refine WL.assign rfl rfl ?_
              refine WL.nil ?_
              refine WX.next ?_
              refine W.sub [(2, _)] (.cons rfl .nil) ?_
              refine W.ret ?_
              refine WX.blockRet ?_
              refine WX.thenRet ?_
              refine WX.thenRet ?_
              refine WX.blockRet ?_
              refine WX.thenRet ?_
              refine WX.ret1 rfl rfl ?_
              have hn : ¬ keyP l := fun h => by
                have h2 := h.2.2 k hkk
                unfold letterP at h2
                rcases h2 with h2 | h2 | h2 | h2
                · omega
                · omega
                · omega
                · exact indexByte_neg.1 c7 h2
              exact ⟨by rw [decide_eq_false hn], M.sel (by first | ((repeat (first | with_reducible exact Sel.refl | with_reducible exact Sel.nil | with_reducible exact Del.here | with_reducible apply Del.there | with_reducible apply Sel.cons | with_reducible apply Sel.drop)); done) | (repeat (first | exact Sel.refl | exact Sel.nil | exact Del.here | apply Del.there | apply Sel.cons | apply Sel.drop)))⟩
            · refine W.skip ?_
              refine WX.blockNormal ?_
              refine WX.next ?_
              refine W.region ?_
              refine WL.add rfl rfl (by first | exact wI64 (by omega) | rfl) rfl ?_
              refine WL.move rfl rfl ?_
              refine WL.nil ?_
              skip
              have q0 : letterP (el l k) := by
                first
                | exact .inl (by omega)
                | exact .inr (.inl (by omega))
                | exact .inr (.inr (.inl (by omega)))
                | exact .inr (.inr (.inr (Classical.not_not.1 fun h => c7 (indexByte_neg.2 h))))
              have q : ∀ j, j < k + 1 → letterP (el l j) := by
                intro j hj
                rcases Nat.lt_or_ge j k with h | h
                · exact hkl j h
                · obtain rfl : j = k := by omega
                  exact q0
              refine WX.round (k + 1) (by (repeat' (first | exact envSub.nil | refine envSub.cons ?_ ?_)) <;> first | rfl | (refine congrArg some ?_; refine congrArg (Value.int _) ?_; first | omega | (dsimp only; omega)) | (simp; done) | (refine congrArg some ?_; dsimp only; congr 1; omega) | (simp; omega)) ⟨M.sel (by first | ((repeat (first | with_reducible exact Sel.refl | with_reducible exact Sel.nil | with_reducible exact Del.here | with_reducible apply Del.there | with_reducible apply Sel.cons | with_reducible apply Sel.drop)); done) | (repeat (first | exact Sel.refl | exact Sel.nil | exact Del.here | apply Del.there | apply Sel.cons | apply Sel.drop))), ⟨by omega, q⟩⟩ (by first | omega | (dsimp only; omega))
          · refine WL.off rfl rfl rfl rfl ?_
            refine WL.off rfl rfl rfl rfl ?_
            refine WL.off rfl rfl rfl rfl ?_
            refine WL.pickF rfl rfl rfl ?_
            refine WL.nil ?_
            refine WX.next ?_
            refine W.sub [(0, _), (7, _), (8, _), (9, _), (41, _)] (.cons rfl (.cons rfl (.cons rfl (.cons rfl (.cons rfl .nil))))) ?_
            refine W.condF rfl ?_
            refine W.skip ?_
            refine WX.blockNormal ?_
            refine WX.next ?_
            refine W.region ?_
            refine WL.add rfl rfl (by first | exact wI64 (by omega) | rfl) rfl ?_
            refine WL.move rfl rfl ?_
            refine WL.nil ?_
            skip
            have q0 : letterP (el l k) := by
              first
              | exact .inl (by omega)
              | exact .inr (.inl (by omega))
              | exact .inr (.inr (.inl (by omega)))
              | exact .inr (.inr (.inr (Classical.not_not.1 fun h => c7 (indexByte_neg.2 h))))
            have q : ∀ j, j < k + 1 → letterP (el l j) := by
              intro j hj
              rcases Nat.lt_or_ge j k with h | h
              · exact hkl j h
              · obtain rfl : j = k := by omega
                exact q0
            refine WX.round (k + 1) (by (repeat' (first | exact envSub.nil | refine envSub.cons ?_ ?_)) <;> first | rfl | (refine congrArg some ?_; refine congrArg (Value.int _) ?_; first | omega | (dsimp only; omega)) | (simp; done) | (refine congrArg some ?_; dsimp only; congr 1; omega) | (simp; omega)) ⟨M.sel (by first | ((repeat (first | with_reducible exact Sel.refl | with_reducible exact Sel.nil | with_reducible exact Del.here | with_reducible apply Del.there | with_reducible apply Sel.cons | with_reducible apply Sel.drop)); done) | (repeat (first | exact Sel.refl | exact Sel.nil | exact Del.here | apply Del.there | apply Sel.cons | apply Sel.drop))), ⟨by omega, q⟩⟩ (by first | omega | (dsimp only; omega))
        · refine WL.off rfl rfl rfl rfl ?_
          refine WL.off rfl rfl rfl rfl ?_
          refine WL.on rfl rfl ?_
          refine WL.pickF rfl rfl rfl ?_
          refine WL.pickF rfl rfl rfl ?_
          refine WL.assign rfl rfl ?_
          refine WL.nil ?_
          refine WX.next ?_
          refine W.sub [(0, _), (4, _), (5, _), (7, _), (8, _), (9, _)] (.cons rfl (.cons rfl (.cons rfl (.cons rfl (.cons rfl (.cons rfl .nil)))))) ?_
          refine W.seq ?_
          refine W.region ?_
          refine WL.move rfl rfl ?_
          refine WL.not rfl rfl ?_
          refine WL.move rfl rfl ?_
          refine WL.on rfl rfl ?_
          refine WL.move rfl rfl ?_
          refine WL.on rfl rfl ?_
          refine WL.call Try.call50 rfl (IndexByte_ok [46, 45, 43, 64, 95] (el l k) _) rfl ?_
          rintro _ _ ⟨rfl, rfl⟩
          refine WL.on rfl rfl ?_
          refine WL.lss rfl rfl rfl ?_
          refine WL.pickT rfl rfl rfl ?_
          refine WL.nil ?_
          refine WX.next ?_
          refine W.sub [(0, _), (7, _), (8, _), (9, _), (41, _)] (.cons rfl (.cons rfl (.cons rfl (.cons rfl (.cons rfl .nil))))) ?_
          refine W.ite rfl (fun c7 => ?_) (fun c7 => ?_)
          · refine W.seq ?_
            refine W.region ?_
            refine WL.assign rfl rfl ?_
            refine WL.nil ?_
            refine WX.next ?_
            refine W.sub [(2, _)] (.cons rfl .nil) ?_
            refine W.ret ?_
            refine WX.blockRet ?_
            refine WX.thenRet ?_
            refine WX.thenRet ?_
            refine WX.blockRet ?_
            refine WX.thenRet ?_
            refine WX.ret1 rfl rfl ?_
            have hn : ¬ keyP l := fun h => by
              have h2 := h.2.2 k hkk
              unfold letterP at h2
              rcases h2 with h2 | h2 | h2 | h2
              · omega
              · omega
              · omega
              · exact indexByte_neg.1 c7 h2
            exact ⟨by rw [decide_eq_false hn], M.sel (by first | ((repeat (first | with_reducible exact Sel.refl | with_reducible exact Sel.nil | with_reducible exact Del.here | with_reducible apply Del.there | with_reducible apply Sel.cons | with_reducible apply Sel.drop)); done) | (repeat (first | exact Sel.refl | exact Sel.nil | exact Del.here | apply Del.there | apply Sel.cons | apply Sel.drop)))⟩
          · refine W.skip ?_
            refine WX.blockNormal ?_
            refine WX.next ?_
            refine W.region ?_
            refine WL.add rfl rfl (by first | exact wI64 (by omega) | rfl) rfl ?_
            refine WL.move rfl rfl ?_
            refine WL.nil ?_
            skip
            have q0 : letterP (el l k) := by
              first
              | exact .inl (by omega)
              | exact .inr (.inl (by omega))
              | exact .inr (.inr (.inl (by omega)))
              | exact .inr (.inr (.inr (Classical.not_not.1 fun h => c7 (indexByte_neg.2 h))))
            have q : ∀ j, j < k + 1 → letterP (el l j) := by
              intro j hj
              rcases Nat.lt_or_ge j k with h | h
              · exact hkl j h
              · obtain rfl : j = k := by omega
                exact q0
            refine WX.round (k + 1) (by (repeat' (first | exact envSub.nil | refine envSub.cons ?_ ?_)) <;> first | rfl | (refine congrArg some ?_; refine congrArg (Value.int _) ?_; first | omega | (dsimp only; omega)) | (simp; done) | (refine congrArg some ?_; dsimp only; congr 1; omega) | (simp; omega)) ⟨M.sel (by first | ((repeat (first | with_reducible exact Sel.refl | with_reducible exact Sel.nil | with_reducible exact Del.here | with_reducible apply Del.there | with_reducible apply Sel.cons | with_reducible apply Sel.drop)); done) | (repeat (first | exact Sel.refl | exact Sel.nil | exact Del.here | apply Del.there | apply Sel.cons | apply Sel.drop))), ⟨by omega, q⟩⟩ (by first | omega | (dsimp only; omega))
  · refine W.exit ?_
    refine WX.thenExit ?_
    refine WX.thenExit ?_
    refine WX.blockHere ?_
    refine WX.next ?_
    refine W.seq ?_
    refine W.region ?_
    refine WL.move rfl rfl ?_
    refine WL.neS rfl rfl rfl ?_
    refine WL.moveIf rfl rfl (fun c8 => ?_) (fun c8 => ?_)
    · refine WL.on rfl rfl ?_
      refine WL.move rfl rfl ?_
      refine WL.on rfl rfl ?_
      refine WL.lenS Try.underlying9 rfl rfl ?_
      refine WL.on rfl rfl ?_
      refine WL.leq rfl rfl rfl ?_
      refine WL.pickT rfl rfl rfl ?_
      refine WL.assign rfl rfl ?_
      refine WL.nil ?_
      refine WX.next ?_
      refine W.sub [(2, _)] (.cons rfl .nil) ?_
      refine W.ret ?_
      refine WX.ret1 rfl rfl ?_
      obtain rfl : k = l.length := by omega
      refine ⟨congrArg Value.bool ?_, M.sel (by first | ((repeat (first | with_reducible exact Sel.refl | with_reducible exact Sel.nil | with_reducible exact Del.here | with_reducible apply Del.there | with_reducible apply Sel.cons | with_reducible apply Sel.drop)); done) | (repeat (first | exact Sel.refl | exact Sel.nil | exact Del.here | apply Del.there | apply Sel.cons | apply Sel.drop)))⟩
      unfold keyP
      first
      | exact (decide_eq_false (fun h => c8 h.1)).symm
      | exact decide_eq_decide.2 ⟨fun h => ⟨c8, by omega, hkl⟩, fun h => by have := h.2.1; omega⟩
    · refine WL.off rfl rfl rfl rfl ?_
      refine WL.off rfl rfl rfl rfl ?_
      refine WL.off rfl rfl rfl rfl ?_
      refine WL.pickF rfl rfl rfl ?_
      refine WL.assign rfl rfl ?_
      refine WL.nil ?_
      refine WX.next ?_
      refine W.sub [(2, _)] (.cons rfl .nil) ?_
      refine W.ret ?_
      refine WX.ret1 rfl rfl ?_
      obtain rfl : k = l.length := by omega
      refine ⟨congrArg Value.bool ?_, M.sel (by first | ((repeat (first | with_reducible exact Sel.refl | with_reducible exact Sel.nil | with_reducible exact Del.here | with_reducible apply Del.there | with_reducible apply Sel.cons | with_reducible apply Sel.drop)); done) | (repeat (first | exact Sel.refl | exact Sel.nil | exact Del.here | apply Del.there | apply Sel.cons | apply Sel.drop)))⟩
      unfold keyP
      first
      | exact (decide_eq_false (fun h => c8 h.1)).symm
      | exact decide_eq_decide.2 ⟨fun h => ⟨c8, by omega, hkl⟩, fun h => by have := h.2.1; omega⟩
end Go.Proofs.Ytinbcidgdbmcjaa
