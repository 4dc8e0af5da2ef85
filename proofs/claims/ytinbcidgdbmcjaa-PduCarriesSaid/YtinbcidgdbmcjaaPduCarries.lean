/-
  A command in a message's words (seawalllaw20.PduCarries).
-/
import Derived.Test.YtinbcidgdbmcjaaPduCmd
namespace Go.Proofs.Ytinbcidgdbmcjaa
open Go Go.RowKit Bin

theorem num_nb2 {N : Nat} (h : N < 65536) : num (nb N 2) = N := by
  show num [UInt8.ofNat (N / 256 % 256), UInt8.ofNat (N / 1 % 256)] = N
  unfold num
  simp only [List.foldl_cons, List.foldl_nil, UInt8.toNat_ofNat']
  omega
theorem num_nb4 {N : Nat} (h : N < 4294967296) : num (nb N 4) = N := by
  rw [nb4]
  unfold fixed
  rw [num4]
  exact be4_fixed h
theorem num_nb8 {N : Nat} (h : N < 18446744073709551616) : num (nb N 8) = N := by
  rw [nb8]
  unfold fixed
  show num [_, _, _, _, _, _, _, _] = N
  rw [num8, be4_fixed (by omega), be4_fixed (by omega)]
  omega
theorem u8_op {c : CmX} (h : 0 ≤ kindC c.op) : ((u8 c.op).toNat : Int) = c.op := by
  have := kind_le h
  exact u8_toNat' (by omega) (by omega)
/-- What was printed is parsed. -/
theorem carry {c : CmX} (h : chkC c = 0) : prsE (prB c) = 0 ∧ prsC (prB c) = c := by
  obtain ⟨z1, z2, z3, z4, z5, z6⟩ := chkC_zero h
  have hl := prB_length c
  have ht : (prB c).take 16 = prB c := List.take_of_length_le (by omega)
  have ho := u8_op z1
  have hkk := kindC_cases c.op
  obtain ⟨⟨L0, L1, L2, L3, L4⟩, ⟨C0, C1, C2, C3, C4⟩, ⟨R0, R1, R2, R3, R4⟩⟩ := max_kinds
  obtain ⟨p0, p1, p2, p3, p4⟩ := prB_kind c
  obtain ⟨k0, k1, k2, k3, k4⟩ := cmdOf_kind (prB c)
  have e0 : el (prB c) 0 = u8 c.op := by
    rcases hkk with k | k | k | k | k | k
    · omega
    · rw [p0 k]
      rfl
    · rw [p1 k]
      rfl
    · rw [p2 k]
      rfl
    · rw [p3 k]
      rfl
    · rw [p4 k]
      rfl
  rw [e0, ho] at k0 k1 k2 k3 k4
  have hc : cmdOf (prB c) = c := by
    obtain ⟨op, lba, ct, rm⟩ := c
    dsimp only at z1 z2 z3 z4 z5 z6 hkk p0 p1 p2 p3 p4 k0 k1 k2 k3 k4
    rcases hkk with k | k | k | k | k | k
    · omega
    · rw [k, L0] at z2
      rw [k, C0] at z4
      rw [k, R0] at z6
      rw [k0 k]
      congr 1 <;> omega
    · rw [k, L1] at z2
      rw [k, C1] at z4
      rw [k, R1] at z6
      have q : sub (prB ⟨op, lba, ct, rm⟩) 3 (3 + 2) = nb rm.toNat 2 := by rw [p1 k]; rfl
      rw [k1 k, q, num_nb2 (by omega)]
      congr 1 <;> omega
    · rw [k, L2] at z2
      rw [k, C2] at z4
      rw [k, R2] at z6
      have q1 : sub (prB ⟨op, lba, ct, rm⟩) 2 (2 + 4) = nb lba 4 := by rw [p2 k]; rfl
      have q2 : sub (prB ⟨op, lba, ct, rm⟩) 7 (7 + 2) = nb ct.toNat 2 := by rw [p2 k]; rfl
      rw [k2 k, q1, q2, num_nb4 (by omega), num_nb2 (by omega)]
      congr 1 <;> omega
    · rw [k, L3] at z2
      rw [k, C3] at z4
      rw [k, R3] at z6
      have q1 : sub (prB ⟨op, lba, ct, rm⟩) 2 (2 + 8) = nb lba 8 := by rw [p3 k]; rfl
      have q2 : sub (prB ⟨op, lba, ct, rm⟩) 10 (10 + 4) = nb ct.toNat 4 := by rw [p3 k]; rfl
      rw [k3 k, q1, q2, num_nb8 (by omega), num_nb4 (by omega)]
      congr 1 <;> omega
    · rw [k, L4] at z2
      rw [k, C4] at z4
      rw [k, R4] at z6
      have q2 : sub (prB ⟨op, lba, ct, rm⟩) 10 (10 + 4) = nb rm.toNat 4 := by rw [p4 k]; rfl
      rw [k4 k, q2, num_nb4 (by omega)]
      congr 1 <;> omega
  have hE : prsE (prB c) = 0 := by
    unfold prsE
    rw [ht, e0, ho, if_neg (by omega), if_neg (by omega), hc, if_neg]
    rintro (e | e)
    · exact e h
    · exact e rfl
  refine ⟨hE, ?_⟩
  unfold prsC
  rw [if_pos hE, ht, hc]
def wsC (b : List UInt8) (ws : Nat → Nat) (i : Nat) : Nat → Nat := fun j => if 3 ≤ j ∧ j < 3 + i then wd b (4 * (j - 3)) else ws j
theorem cmdB_wsC {b : List UInt8} (h : b.length = 16) (ws : Nat → Nat) : cmdB (wsC b ws 4) = b := by
  have e : cmdB (wsC b ws 4) = [wd b 0, wd b 4, wd b 8, wd b 12].flatMap fixed := rfl
  rw [e]
  have e2 : (List.range 16).map (el b) = b := by
    apply List.ext_getElem
    · simp [h]
    · intro i h1 h2
      simp [el, h2]
  unfold wd
  simp only [List.flatMap_cons, List.flatMap_nil, fixed_be4]
  exact (show _ = (List.range 16).map (el b) from rfl).trans e2
set_option maxRecDepth 10000 in
set_option maxHeartbeats 4000000 in
theorem PduCarries_ok (c : CmX) (p : PdX) (w0 : World) (hc : c.inn) (hin : p.inn w0) : Fn Try.prog 5 [c.v, p.v] w0 fun v w' => v = .bool true ∧ Mem w0 w' [] := by
  have M := Mem.refl w0
  obtain ⟨w, hw⟩ : ∃ w, w = w0 := ⟨w0, rfl⟩
  obtain ⟨op, now, flags, lun, tag, ws, ⟨A, cap, l⟩⟩ := p
  obtain ⟨⟨i1, i2, i3⟩, hb⟩ := hin
  dsimp only [PdX.m] at i1 i2 i3
  unfold PdX.v CmX.v
  dsimp only at hb ⊢
  refine Fn.enter Try.func5 rfl Try.ntmps5 rfl ?_
  refine W.sub [(0, _), (1, _)] (.cons rfl (.cons rfl .nil)) ?_
  refine W.seq ?_
  refine W.region ?_
  refine WL.box rfl M rfl ?_
  intro g0_0 w M
  try simp only [Value.cells] at M
  try simp only [List.toList_toArray] at M
  refine WL.box rfl M rfl ?_
  intro g0_1 w M
  try simp only [Value.cells] at M
  try simp only [List.toList_toArray] at M
  refine WL.assign rfl rfl ?_
  refine WL.nil ?_
  refine WX.next ?_
  refine W.sub [(2, _), (3, _)] (.cons rfl (.cons rfl .nil)) ?_
  refine W.seq ?_
  refine W.seq ?_
  refine W.region ?_
  refine WL.fieldR (off := 12) Try.underlying27 rfl rfl Try.sizeOf25 rfl rfl rfl ?_
  refine WL.loadR Try.isAgg25 rfl M (by first | ((repeat (first | with_reducible exact Has.here | with_reducible refine Has.there ?_)); done) | (repeat (first | exact Has.here | refine Has.there ?_))) rfl rfl ?_
  refine WL.len Try.underlying25 rfl rfl ?_
  refine WL.gtr rfl rfl rfl ?_
  refine WL.nil ?_
  refine WX.next ?_
  refine W.sub [(2, _), (3, _), (20, _)] (.cons rfl (.cons rfl (.cons rfl .nil))) ?_
  refine W.ite rfl (fun c0 => ?_) (fun c0 => ?_)
  · refine W.seq ?_
    refine W.region ?_
    refine WL.call Try.call9 rfl (known20_ok _) rfl ?_
    rintro _ w ⟨rfl, m⟩
    replace M := M.call0 m; clear m
    refine WL.assign rfl rfl ?_
    refine WL.nil ?_
    refine WX.next ?_
    refine W.sub [(4, _)] (.cons rfl .nil) ?_
    refine W.ret ?_
    refine WX.thenRet ?_
    refine WX.ret1 rfl rfl ?_
    exact ⟨by simp, M.sel (by first | ((repeat (first | with_reducible exact Sel.refl | with_reducible exact Sel.nil | with_reducible exact Del.here | with_reducible apply Del.there | with_reducible apply Sel.cons | with_reducible apply Sel.drop)); done) | (repeat (first | exact Sel.refl | exact Sel.nil | exact Del.here | apply Del.there | apply Sel.cons | apply Sel.drop)))⟩
  · refine W.skip ?_
    refine WX.next ?_
    refine W.seq ?_
    refine W.region ?_
    refine WL.loadW Try.isAgg36 Try.sizeOf36 rfl M (by first | ((repeat (first | with_reducible exact Has.here | with_reducible refine Has.there ?_)); done) | (repeat (first | exact Has.here | refine Has.there ?_))) rfl rfl ?_
    refine WL.call Try.call23 rfl (refPrint_ok c hc _) rfl ?_
    rintro _ w ⟨⟨B, cB, b⟩, rfl, m, hbb⟩
    replace M := M.call1 m; clear m
    unfold OX.v
    unfold OX.O at M
    dsimp only at hbb M ⊢
    refine WL.move rfl rfl ?_
    refine WL.extractL rfl rfl rfl ?_
    refine WL.extractL rfl rfl rfl ?_
    refine WL.assign rfl rfl ?_
    refine WL.assign rfl rfl ?_
    refine WL.nil ?_
    refine WX.next ?_
    refine W.sub [(2, _), (3, _), (5, _), (6, _)] (.cons rfl (.cons rfl (.cons rfl (.cons rfl .nil)))) ?_
    refine W.seq ?_
    refine W.seq ?_
    refine W.region ?_
    refine WL.move rfl rfl ?_
    refine WL.neI rfl rfl rfl ?_
    refine WL.nil ?_
    refine WX.next ?_
    refine W.sub [(2, _), (3, _), (5, _), (28, _)] (.cons rfl (.cons rfl (.cons rfl (.cons rfl .nil)))) ?_
    refine W.ite rfl (fun c1 => ?_) (fun c1 => ?_)
    · refine W.seq ?_
      refine W.region ?_
      refine WL.call Try.call9 rfl (known20_ok _) rfl ?_
      rintro _ w ⟨rfl, m⟩
      replace M := M.call0 m; clear m
      refine WL.assign rfl rfl ?_
      refine WL.nil ?_
      refine WX.next ?_
      refine W.sub [(4, _)] (.cons rfl .nil) ?_
      refine W.ret ?_
      refine WX.thenRet ?_
      refine WX.ret1 rfl rfl ?_
      exact ⟨by simp, M.sel (by first | ((repeat (first | with_reducible exact Sel.refl | with_reducible exact Sel.nil | with_reducible exact Del.here | with_reducible apply Del.there | with_reducible apply Sel.cons | with_reducible apply Sel.drop)); done) | (repeat (first | exact Sel.refl | exact Sel.nil | exact Del.here | apply Del.there | apply Sel.cons | apply Sel.drop)))⟩
    · have hc0 : chkC c = 0 := Classical.not_not.1 c1
      rw [if_pos hc0] at hbb
      subst hbb
      have hbl := prB_length c
      obtain ⟨y1, y2⟩ := carry hc0
      refine W.skip ?_
      refine WX.next ?_
      refine W.seq ?_
      refine W.region ?_
      refine WL.fieldR (off := 0) Try.underlying27 rfl rfl Try.sizeOf3 rfl rfl rfl ?_
      refine WL.storeR Try.sizeOf3 rfl rfl rfl M (by first | ((repeat (first | with_reducible exact Has.here | with_reducible refine Has.there ?_)); done) | (repeat (first | exact Has.here | refine Has.there ?_))) (by repeat (first | exact SetAt.zero | apply SetAt.succ)) (by first | ((repeat (first | with_reducible exact Upd.here | with_reducible apply Upd.there)); done) | (repeat (first | exact Upd.here | apply Upd.there))) ?_
      intro w M
      refine WL.nil ?_
      refine WX.next ?_
      refine W.sub [(2, _), (3, _), (5, _)] (.cons rfl (.cons rfl (.cons rfl .nil))) ?_
      refine W.seq ?_
      refine W.seq ?_
      refine W.region ?_
      refine WL.assign rfl rfl ?_
      refine WL.nil ?_
      refine WX.next ?_
      refine W.sub [(2, _), (3, _), (5, _), (7, _)] (.cons rfl (.cons rfl (.cons rfl (.cons rfl .nil)))) ?_
      refine W.block ?_
      refine W.loop (ι := Nat) (fun i => [(2, .pointer (some ⟨g0_0, 0, none⟩)), (3, .pointer (some ⟨g0_1, 0, none⟩)), (5, .slice B (prB c).length cB), (7, .int .i64 (i : Int))]) (fun zz w => Mem w0 w ((fun i => [Asr.own 5 1 B (prB c).length cB (bs (prB c)), Asr.row g0_1 27 (PdX.cells ⟨1, now, flags, lun, tag, wsC (prB c) ws i, ⟨A, cap, l⟩⟩), Asr.row g0_0 36 c.cells]) zz) ∧ (fun i => i ≤ 4) zz) (fun i => 4 - i) (0) (by (repeat' (first | exact envSub.nil | refine envSub.cons ?_ ?_)) <;> first | rfl | (refine congrArg some ?_; refine congrArg (Value.int _) ?_; first | omega | (dsimp only; omega)) | (simp; done) | (refine congrArg some ?_; dsimp only; congr 1; omega) | (simp; omega)) ⟨M.sel (by first | ((repeat (first | with_reducible exact Sel.refl | with_reducible exact Sel.nil | with_reducible exact Del.here | with_reducible apply Del.there | with_reducible apply Sel.cons | with_reducible apply Sel.drop)); done) | (repeat (first | exact Sel.refl | exact Sel.nil | exact Del.here | apply Del.there | apply Sel.cons | apply Sel.drop))), Nat.zero_le _⟩ ?_
      clear M; rintro (i) w ⟨M, hi⟩; dsimp only at M hi ⊢
      refine W.sub [(2, _), (3, _), (5, _), (7, _)] (.cons rfl (.cons rfl (.cons rfl (.cons rfl .nil)))) ?_
      refine W.seq ?_
      refine W.seq ?_
      refine W.region ?_
      refine WL.move rfl rfl ?_
      refine WL.lss rfl rfl rfl ?_
      refine WL.nil ?_
      refine WX.next ?_
      refine W.sub [(2, _), (3, _), (5, _), (7, _), (32, _)] (.cons rfl (.cons rfl (.cons rfl (.cons rfl (.cons rfl .nil))))) ?_
      refine W.ite rfl (fun c2 => ?_) (fun c2 => ?_)
      · have hi4 : i < 4 := by omega
        have vw := wd_lt (prB c) (4 * i)
        refine W.skip ?_
        refine WX.next ?_
        refine W.seq ?_
        refine W.block ?_
        refine W.region ?_
        refine WL.move rfl rfl ?_
        refine WL.add rfl rfl (by first | exact wI64 (by omega) | rfl) rfl ?_
        refine WL.move rfl rfl ?_
        refine WL.move rfl rfl ?_
        refine WL.mul rfl rfl (by first | exact wI64 (by omega) | rfl) rfl ?_
        refine WL.move rfl rfl ?_
        refine WL.mul rfl rfl (by first | exact wI64 (by omega) | rfl) rfl ?_
        refine WL.add rfl rfl (by first | exact wI64 (by omega) | rfl) rfl ?_
        have hcB : (prB c).length ≤ cB := Rd.le (M.rdB (by first | ((repeat (first | with_reducible exact Has.here | with_reducible refine Has.there ?_)); done) | (repeat (first | exact Has.here | refine Has.there ?_))) : RdB _ B cB (prB c))
        refine WL.cutLH (m' := (sub (prB c) (4 * i) (4 * i + 4)).length) Try.underlying25 Try.sizeOf5 rfl rfl rfl (by omega) (by omega) (by omega) (show (4 : Int) * (i : Int) = ((4 * i : Nat) : Int) by omega) (show (4 : Int) * (i : Int) + 4 = ((4 * i + 4 : Nat) : Int) by omega) (by first | (rw [sub_length (by omega) (by omega)]) | (simp only [List.length_drop] <;> omega) | (simp only [List.length_take] <;> omega) | (simp only [List.length_take, List.length_drop] <;> omega) | (simp; done) | (simp; omega)) rfl ?_
        refine WL.call Try.call24 rfl (refGet19_ok (l := sub (prB c) (4 * i) (4 * i + 4)) (by rw [sub_length (by omega) (by omega)]; omega) (RdB.sub (M.rdB (by first | ((repeat (first | with_reducible exact Has.here | with_reducible refine Has.there ?_)); done) | (repeat (first | exact Has.here | refine Has.there ?_)))) (by omega) (by omega))) rfl ?_
        rintro _ w ⟨rfl, m⟩
        replace M := M.call0 m; clear m
        rw [sub4 (by omega)]
        refine WL.conv Try.underlying22 Try.underlying23 rfl (by first | exact wU32 (by omega) | exact mU32 _ | rfl) rfl ?_
        refine WL.fieldR (off := 5) Try.underlying27 rfl rfl Try.sizeOf24 rfl rfl rfl ?_
        refine WL.idxArr Try.underlying24 Try.sizeOf23 rfl rfl (by omega) (by omega) (show (3 : Int) + (i : Int) = ((3 + i : Nat) : Int) by omega) rfl ?_
        refine WL.storeR (o := 5 + (3 + i) * 1) (cs' := PdX.cells ⟨1, now, flags, lun, tag, wsC (prB c) ws (i + 1), ⟨A, cap, l⟩⟩) Try.sizeOf23 (by show some (Value.pointer (some (Addr.add ⟨g0_1, 5, none⟩ ((3 + i) * 1)))) = _; rw [add_lit]) rfl rfl M (by first | ((repeat (first | with_reducible exact Has.here | with_reducible refine Has.there ?_)); done) | (repeat (first | exact Has.here | refine Has.there ?_))) (ws_set (by omega) (by unfold wsC; rw [if_pos (by omega)]; congr 2; omega) (fun j hj => by unfold wsC; by_cases hji : 3 ≤ j ∧ j < 3 + i; rw [if_pos (by omega), if_pos hji]; rw [if_neg (by omega), if_neg hji])) (by first | ((repeat (first | with_reducible exact Upd.here | with_reducible apply Upd.there)); done) | (repeat (first | exact Upd.here | apply Upd.there))) ?_
        intro w M
        refine WL.nil ?_
        refine WX.blockNormal ?_
        refine WX.next ?_
        refine W.sub [(2, _), (3, _), (5, _), (7, _)] (.cons rfl (.cons rfl (.cons rfl (.cons rfl .nil)))) ?_
        refine W.region ?_
        refine WL.move rfl rfl ?_
        refine WL.add rfl rfl (by first | exact wI64 (by omega) | rfl) rfl ?_
        refine WL.assign rfl rfl ?_
        refine WL.nil ?_
        refine WX.round (i + 1) (by (repeat' (first | exact envSub.nil | refine envSub.cons ?_ ?_)) <;> first | rfl | (refine congrArg some ?_; refine congrArg (Value.int _) ?_; first | omega | (dsimp only; omega)) | (simp; done) | (refine congrArg some ?_; dsimp only; congr 1; omega) | (simp; omega)) ⟨M.sel (by first | ((repeat (first | with_reducible exact Sel.refl | with_reducible exact Sel.nil | with_reducible exact Del.here | with_reducible apply Del.there | with_reducible apply Sel.cons | with_reducible apply Sel.drop)); done) | (repeat (first | exact Sel.refl | exact Sel.nil | exact Del.here | apply Del.there | apply Sel.cons | apply Sel.drop))), by omega⟩ (by first | omega | (dsimp only; omega))
      · refine W.exit ?_
        refine WX.thenExit ?_
        refine WX.thenExit ?_
        refine WX.blockHere ?_
        refine WX.next ?_
        refine W.seq ?_
        obtain rfl : i = 4 := by omega
        obtain ⟨W4, hW4⟩ : ∃ W4, W4 = wsC (prB c) ws 4 := ⟨_, rfl⟩
        have hcm := cmdB_wsC hbl ws
        have hw7 : ∀ j, j < 7 → W4 j < 4294967296 := by
          intro j hj
          rw [hW4]
          unfold wsC
          split
          · exact wd_lt _ _
          · exact i3 j hj
        rw [← hW4] at M hcm
        obtain ⟨P, hP⟩ : ∃ P : MX, P = ⟨1, now, flags, lun, tag, W4, l⟩ := ⟨_, rfl⟩
        have hPi : P.inn := by rw [hP]; exact ⟨i1, i2, hw7⟩
        have hck : chkM 1 now l.length = 0 := by unfold chkM; rw [if_neg (by decide), if_neg (by omega), if_neg (by omega)]
        have hck2 : chkM P.op P.now P.l.length = 0 := by rw [hP]; exact hck
        obtain ⟨g0, gE⟩ := get_put P hPi hck2 []
        obtain ⟨hs, -⟩ := hdM_put P hPi hck2 []
        rw [List.append_nil] at g0 gE hs
        have hpl := putM_length P
        have hPl : P.l.length = l.length := by rw [hP]
        have hpd : padN P.l.length ≤ 3 := by unfold padN; omega
        unfold PdX.cells CmX.cells at M
        dsimp only at M
        refine W.region ?_
        refine WL.loadW Try.isAgg27 Try.sizeOf27 rfl M (by first | ((repeat (first | with_reducible exact Has.here | with_reducible refine Has.there ?_)); done) | (repeat (first | exact Has.here | refine Has.there ?_))) rfl rfl ?_
        refine WL.call Try.call11 rfl (Put_ok ⟨1, now, flags, lun, tag, W4, ⟨A, cap, l⟩⟩ _ (hb.mem M) ⟨i1, i2, hw7⟩ (by show l.length ≤ 1000000; omega)) rfl ?_
        rintro _ w ⟨⟨X, cX, x⟩, rfl, m, hx1, -⟩
        replace M := M.call1 m; clear m
        unfold OX.v
        unfold OX.O at M
        dsimp only at hx1 M ⊢
        have hx2 : x = putM P := by rw [hP]; exact hx1 hck
        clear hx1
        subst hx2
        rw [hck]
        refine WL.move rfl rfl ?_
        refine WL.extractL rfl rfl rfl ?_
        refine WL.extractL rfl rfl rfl ?_
        refine WL.assign rfl rfl ?_
        refine WL.assign rfl rfl ?_
        refine WL.nil ?_
        refine WX.next ?_
        refine W.sub [(2, _), (3, _), (8, _), (9, _)] (.cons rfl (.cons rfl (.cons rfl (.cons rfl .nil)))) ?_
        refine W.seq ?_
        refine W.region ?_
        refine WL.move rfl rfl ?_
        refine WL.call Try.call21 rfl (Get_ok (b := putM P) (by omega) (M.rdB (by first | ((repeat (first | with_reducible exact Has.here | with_reducible refine Has.there ?_)); done) | (repeat (first | exact Has.here | refine Has.there ?_))))) rfl ?_
        rintro _ w ⟨⟨op', now', flags', lun', tag', ws', ⟨C, cC, c'⟩⟩, rfl, m, hg, -⟩
        replace M := M.call1 m; clear m
        have hg2 := hg g0
        rw [g0, gE, if_pos rfl]
        unfold PdX.v
        unfold PdX.O OX.O at M
        dsimp only at M ⊢
        rw [← hg2] at hs
        have hcE : comE (PdX.m ⟨op', now', flags', lun', tag', ws', ⟨C, cC, c'⟩⟩) = 0 ∧ comC (PdX.m ⟨op', now', flags', lun', tag', ws', ⟨C, cC, c'⟩⟩) = c := by
          have h1 : op' = 1 := by have := hs.1; rw [hP] at this; exact this.symm
          have h2 : cmdB ws' = prB c := by
            rw [← hcm]
            have h3 := hs.2.2.2.2.2.1
            rw [hP] at h3
            unfold cmdB
            have a3 : W4 3 = ws' 3 := h3 3 (by decide)
            have a4 : W4 4 = ws' 4 := h3 4 (by decide)
            have a5 : W4 5 = ws' 5 := h3 5 (by decide)
            have a6 : W4 6 = ws' 6 := h3 6 (by decide)
            rw [a3, a4, a5, a6]
          unfold comE comC PdX.m
          dsimp only
          rw [if_pos h1, if_pos h1, h2]
          exact ⟨y1, y2⟩
        refine WL.move rfl rfl ?_
        refine WL.extractL rfl rfl rfl ?_
        refine WL.extractL rfl rfl rfl ?_
        refine WL.extractL rfl rfl rfl ?_
        refine WL.alloc Try.zeroValue27 M rfl ?_
        intro g12_6 w M
        try simp only [Value.cells] at M
        try simp only [List.toList_toArray] at M
        refine WL.storeWA Try.sizeOf27 rfl rfl (by repeat (first | exact oneNil | refine oneCons rfl ?_)) rfl rfl M (by first | ((repeat (first | with_reducible exact Upd.here | with_reducible apply Upd.there)); done) | (repeat (first | exact Upd.here | apply Upd.there))) ?_
        intro w M
        refine WL.assign rfl rfl ?_
        refine WL.assign rfl rfl ?_
        refine WL.nil ?_
        refine WX.next ?_
        refine W.sub [(2, _), (3, _), (9, _), (10, _), (12, _)] (.cons rfl (.cons rfl (.cons rfl (.cons rfl (.cons rfl .nil))))) ?_
        refine W.seq ?_
        refine W.region ?_
        refine WL.loadW Try.isAgg27 Try.sizeOf27 rfl M (by first | ((repeat (first | with_reducible exact Has.here | with_reducible refine Has.there ?_)); done) | (repeat (first | exact Has.here | refine Has.there ?_))) rfl rfl ?_
        refine WL.call Try.call13 rfl (Command_ok ⟨op', now', flags', lun', tag', ws', ⟨C, cC, c'⟩⟩ _) rfl ?_
        rintro _ w ⟨rfl, m⟩
        replace M := M.call0 m; clear m
        rw [hcE.1, hcE.2]
        unfold CmX.v
        refine WL.move rfl rfl ?_
        refine WL.extractL rfl rfl rfl ?_
        refine WL.extractL rfl rfl rfl ?_
        refine WL.alloc Try.zeroValue36 M rfl ?_
        intro g13_5 w M
        try simp only [Value.cells] at M
        try simp only [List.toList_toArray] at M
        refine WL.storeWA Try.sizeOf36 rfl rfl (by repeat (first | exact oneNil | refine oneCons rfl ?_)) rfl rfl M (by first | ((repeat (first | with_reducible exact Upd.here | with_reducible apply Upd.there)); done) | (repeat (first | exact Upd.here | apply Upd.there))) ?_
        intro w M
        refine WL.assign rfl rfl ?_
        refine WL.nil ?_
        refine WX.next ?_
        refine W.sub [(2, _), (3, _), (9, _), (12, _), (13, _), (14, _)] (.cons rfl (.cons rfl (.cons rfl (.cons rfl (.cons rfl (.cons rfl .nil)))))) ?_
        refine W.seq ?_
        refine W.region ?_
        refine WL.fieldR (off := 0) Try.underlying27 rfl rfl Try.sizeOf3 rfl rfl rfl ?_
        refine WL.storeR Try.sizeOf3 rfl rfl rfl M (by first | ((repeat (first | with_reducible exact Has.here | with_reducible refine Has.there ?_)); done) | (repeat (first | exact Has.here | refine Has.there ?_))) (by repeat (first | exact SetAt.zero | apply SetAt.succ)) (by first | ((repeat (first | with_reducible exact Upd.here | with_reducible apply Upd.there)); done) | (repeat (first | exact Upd.here | apply Upd.there))) ?_
        intro w M
        refine WL.nil ?_
        refine WX.next ?_
        refine W.sub [(2, _), (3, _), (9, _), (12, _), (13, _), (14, _)] (.cons rfl (.cons rfl (.cons rfl (.cons rfl (.cons rfl (.cons rfl .nil)))))) ?_
        refine W.seq ?_
        refine W.region ?_
        refine WL.loadW Try.isAgg27 Try.sizeOf27 rfl M (by first | ((repeat (first | with_reducible exact Has.here | with_reducible refine Has.there ?_)); done) | (repeat (first | exact Has.here | refine Has.there ?_))) rfl rfl ?_
        refine WL.call Try.call13 rfl (Command_no ⟨5, now, flags, lun, tag, W4, ⟨A, cap, l⟩⟩ (by show (5 : Int) ≠ 1; decide) _) rfl ?_
        rintro _ w ⟨rfl, m⟩
        replace M := M.call0 m; clear m
        unfold CmX.v
        refine WL.move rfl rfl ?_
        refine WL.extractL rfl rfl rfl ?_
        refine WL.extractL rfl rfl rfl ?_
        refine WL.alloc Try.zeroValue36 M rfl ?_
        intro g15_5 w M
        try simp only [Value.cells] at M
        try simp only [List.toList_toArray] at M
        refine WL.storeWA Try.sizeOf36 rfl rfl (by repeat (first | exact oneNil | refine oneCons rfl ?_)) rfl rfl M (by first | ((repeat (first | with_reducible exact Upd.here | with_reducible apply Upd.there)); done) | (repeat (first | exact Upd.here | apply Upd.there))) ?_
        intro w M
        refine WL.assign rfl rfl ?_
        refine WL.nil ?_
        refine WX.next ?_
        refine W.sub [(2, _), (9, _), (12, _), (13, _), (14, _), (16, _)] (.cons rfl (.cons rfl (.cons rfl (.cons rfl (.cons rfl (.cons rfl .nil)))))) ?_
        refine W.seq ?_
        refine W.region ?_
        refine WL.move rfl rfl ?_
        refine WL.eqI rfl rfl rfl ?_
        refine WL.moveIf rfl rfl (fun c3 => ?_) (fun c3 => ?_)
        · refine WL.on rfl rfl ?_
          refine WL.move rfl rfl ?_
          refine WL.on rfl rfl ?_
          refine WL.eqI rfl rfl rfl ?_
          refine WL.pickT rfl rfl rfl ?_
          refine WL.moveIf rfl rfl (fun c4 => ?_) (fun c4 => ?_)
          · refine WL.on rfl rfl ?_
            refine WL.move rfl rfl ?_
            refine WL.on rfl rfl ?_
            refine WL.eqI rfl rfl rfl ?_
            refine WL.pickT rfl rfl rfl ?_
            refine WL.moveIf rfl rfl (fun c5 => ?_) (fun c5 => ?_)
            · refine WL.on rfl rfl ?_
              refine WL.loadW Try.isAgg36 Try.sizeOf36 rfl M (by first | ((repeat (first | with_reducible exact Has.here | with_reducible refine Has.there ?_)); done) | (repeat (first | exact Has.here | refine Has.there ?_))) rfl rfl ?_
              refine WL.on rfl rfl ?_
              refine WL.loadW Try.isAgg36 Try.sizeOf36 rfl M (by first | ((repeat (first | with_reducible exact Has.here | with_reducible refine Has.there ?_)); done) | (repeat (first | exact Has.here | refine Has.there ?_))) rfl rfl ?_
              refine WL.on rfl rfl ?_
              refine WL.eqlC c c rfl rfl rfl ?_
              refine WL.pickT rfl rfl rfl ?_
              refine WL.moveIf rfl rfl (fun c6 => ?_) (fun c6 => ?_)
              · refine WL.on rfl rfl ?_
                refine WL.move rfl rfl ?_
                refine WL.on rfl rfl ?_
                refine WL.eqI rfl rfl rfl ?_
                refine WL.pickT rfl rfl rfl ?_
                refine WL.moveIf rfl rfl (fun c7 => ?_) (fun c7 => ?_)
                · refine WL.on rfl rfl ?_
                  refine WL.call Try.call9 rfl (known20_ok _) rfl ?_
                  rintro _ w ⟨rfl, m⟩
                  replace M := M.call0 m; clear m
                  refine WL.pickT rfl rfl rfl ?_
                  refine WL.assign rfl rfl ?_
                  refine WL.nil ?_
                  refine WX.next ?_
                  refine W.sub [(4, _)] (.cons rfl .nil) ?_
                  refine W.ret ?_
                  refine WX.ret1 rfl rfl ?_
                  exact ⟨by simp, M.sel (by first | ((repeat (first | with_reducible exact Sel.refl | with_reducible exact Sel.nil | with_reducible exact Del.here | with_reducible apply Del.there | with_reducible apply Sel.cons | with_reducible apply Sel.drop)); done) | (repeat (first | exact Sel.refl | exact Sel.nil | exact Del.here | apply Del.there | apply Sel.cons | apply Sel.drop)))⟩
                · exact absurd rfl c7
              · exact absurd rfl c6
            · exact absurd rfl c5
          · exact absurd rfl c4
        · exact absurd rfl c3
end Go.Proofs.Ytinbcidgdbmcjaa
