/-
  Walk: what comes of an elder life changes nothing (seawalllaw07.SessLives).
-/
import Derived.Test.YtgaegaaaoopolaaLivesLaw
import Derived.Test.YtgaegaaaoopolaaFew
import Derived.Test.YtgaegaaaoopolaaSameL
import Derived.Test.YtgaegaaaoopolaaSessSends
namespace Go.Proofs.Ytgaegaaaoopolaa
open Go Go.RowKit

def livS (life i k : Nat) (b : List UInt8) : Sn := if k = 0 then ⟨life, 8, 1, i, i + 1, [(b, i + 1)]⟩ else ⟨life, 8, 1, i + 1, i + 1, []⟩
theorem livR_ok {life i : Nat} (hl : life < 18446744073709551616) (hi : i < 1000) : (livR life i).ok := by
  unfold livR
  split
  · exact ⟨by dsimp only; omega, by dsimp only; omega, by simp, by simp, fun p h => by cases h⟩
  · exact ⟨by dsimp only; omega, by dsimp only; omega, by simp; omega, by simp, fun p h => by cases h⟩

theorem sn_ok0 {life i n : Nat} (hl : life < 18446744073709551616) (hi : i < 1000) (hn : n < 1000) : (⟨life, 8, 1, i, n, []⟩ : Sn).ok :=
  ⟨hl, by dsimp only; omega, by dsimp only; omega, by simp; omega, by dsimp only; omega, by simp, (fun p h => by cases h), (fun p h => by cases h)⟩
theorem sn_ok1 {life i n t : Nat} {b : List UInt8} (hl : life < 18446744073709551616) (hi : i < 1000) (hn : n < 1000) (hb : b.length ≤ 1000) (ht : t ≤ n) : (⟨life, 8, 1, i, n, [(b, t)]⟩ : Sn).ok :=
  ⟨hl, by dsimp only; omega, by dsimp only; omega, by simp; omega, by dsimp only; omega, by simp, (fun p h => by rw [List.mem_singleton] at h; subst h; exact hb), (fun p h => by rw [List.mem_singleton] at h; subst h; exact ht)⟩
theorem livS_zero (life i : Nat) (b : List UInt8) : (⟨life, 8, 1, i, i + 1, [(b, i + 1)]⟩ : Sn) = livS life i 0 b := rfl
theorem livS_one (life i : Nat) (b : List UInt8) : livS life i 1 b = ⟨life, 8, 1, i + 1, i + 1, []⟩ := rfl

theorem one_key {l : List SX} {q : Nat × Nat × Bool × List UInt8} (h : l.map SX.key = [q]) : ∃ t, l = [t] ∧ t.key = q := by
  match l, h with
  | [t], h => exact ⟨t, rfl, by simpa using h⟩

set_option maxRecDepth 10000 in
set_option maxHeartbeats 1000000 in
theorem SessLives_ok (A0 : Option Addr) (k0 : Nat) (l : List OX) (A1 : Option Addr) (k1 : Nat) (old : List SX) (life : Nat) (w0 : World) (h0 : RdL w0 oxE A0 k0 l) (hb0 : ∀ o ∈ l, RdB w0 o.A o.cap o.l) (hlm : l.length ≤ maxLen)
    (h1 : RdL w0 segE A1 k1 old) (hq : ∀ s ∈ old, s.inn w0) (hlife : life < 18446744073709551616) :
    Fn Try.prog 7 [.slice A0 l.length k0, .slice A1 old.length k1, .int .u64 (life : Int)] w0 fun v w' => v = .bool true ∧ Mem w0 w' [] := by
  have M := Mem.refl w0
  refine Fn.enter Try.func7 rfl Try.ntmps7 rfl ?_
  refine W.sub [(0, _), (1, _), (2, _)] (.cons rfl (.cons rfl (.cons rfl .nil))) ?_
  refine W.seq ?_
  refine W.region ?_
  refine WL.assign rfl rfl ?_
  refine WL.nil ?_
  refine WX.next ?_
  refine W.sub [(0, _), (1, _), (2, _)] (.cons rfl (.cons rfl (.cons rfl .nil))) ?_
  refine W.seq ?_
  refine W.seq ?_
  refine W.region ?_
  refine WL.move rfl rfl ?_
  refine WL.call Try.call26 rfl (few_ok (h0.mem M) hlm) rfl ?_
  rintro _ w ⟨rfl, m⟩
  replace M := M.call0 m; clear m
  refine WL.notP rfl rfl ?_
  refine WL.moveIf rfl rfl (fun c0 => ?_) (fun c0 => ?_)
  · refine WL.off rfl rfl rfl rfl ?_
    refine WL.off rfl rfl rfl rfl ?_
    refine WL.pickT rfl rfl rfl ?_
    refine WL.nil ?_
    refine WX.next ?_
    refine W.sub [(0, _), (1, _), (2, _), (36, _)] (.cons rfl (.cons rfl (.cons rfl (.cons rfl .nil)))) ?_
    refine W.condT rfl ?_
    refine W.seq ?_
    refine W.region ?_
    refine WL.call Try.call12 rfl (known7_ok _) rfl ?_
    rintro _ w ⟨rfl, m⟩
    replace M := M.call0 m; clear m
    refine WL.assign rfl rfl ?_
    refine WL.nil ?_
    refine WX.next ?_
    refine W.sub [(6, _)] (.cons rfl .nil) ?_
    refine W.ret ?_
    refine WX.thenRet ?_
    refine WX.ret1 rfl rfl ?_
    exact ⟨rfl, M.sel (by first | ((repeat (first | with_reducible exact Sel.refl | with_reducible exact Sel.nil | with_reducible exact Del.here | with_reducible apply Del.there | with_reducible apply Sel.cons | with_reducible apply Sel.drop)); done) | (repeat (first | exact Sel.refl | exact Sel.nil | exact Del.here | apply Del.there | apply Sel.cons | apply Sel.drop)))⟩
  · refine WL.on rfl rfl ?_
    refine WL.move rfl rfl ?_
    refine WL.on rfl rfl ?_
    refine WL.lss rfl rfl rfl ?_
    refine WL.pickF rfl rfl rfl ?_
    refine WL.nil ?_
    refine WX.next ?_
    refine W.sub [(0, _), (1, _), (2, _), (36, _)] (.cons rfl (.cons rfl (.cons rfl (.cons rfl .nil)))) ?_
    refine W.ite rfl (fun c1 => ?_) (fun c1 => ?_)
    · refine W.seq ?_
      refine W.region ?_
      refine WL.call Try.call12 rfl (known7_ok _) rfl ?_
      rintro _ w ⟨rfl, m⟩
      replace M := M.call0 m; clear m
      refine WL.assign rfl rfl ?_
      refine WL.nil ?_
      refine WX.next ?_
      refine W.sub [(6, _)] (.cons rfl .nil) ?_
      refine W.ret ?_
      refine WX.thenRet ?_
      refine WX.ret1 rfl rfl ?_
      exact ⟨rfl, M.sel (by first | ((repeat (first | with_reducible exact Sel.refl | with_reducible exact Sel.nil | with_reducible exact Del.here | with_reducible apply Del.there | with_reducible apply Sel.cons | with_reducible apply Sel.drop)); done) | (repeat (first | exact Sel.refl | exact Sel.nil | exact Del.here | apply Del.there | apply Sel.cons | apply Sel.drop)))⟩
    · have hfew : isFew l := by
        apply Classical.byContradiction
        intro h
        exact absurd h (by first | exact fun _ => c0 ‹_› | simpa using c0)
      obtain ⟨hl60, hl1000⟩ := hfew
      refine W.skip ?_
      refine WX.next ?_
      refine W.seq ?_
      refine W.region ?_
      refine WL.move rfl rfl ?_
      refine WL.call Try.call11 rfl (NewSender_ok life 8 1 _) rfl ?_
      rintro _ w h
      rw [if_neg (by decide)] at h
      obtain ⟨gs, rfl, m⟩ := h
      replace M := M.call1 m; clear m
      refine WL.move rfl rfl ?_
      refine WL.extractL rfl rfl rfl ?_
      refine WL.extractL rfl rfl rfl ?_
      refine WL.assign rfl rfl ?_
      refine WL.assign rfl rfl ?_
      refine WL.nil ?_
      refine WX.next ?_
      refine W.sub [(0, _), (1, _), (2, _), (7, _), (8, _)] (.cons rfl (.cons rfl (.cons rfl (.cons rfl (.cons rfl .nil))))) ?_
      refine W.seq ?_
      refine W.region ?_
      refine WL.call Try.call32 rfl (NewReceiver_ok 8 _) rfl ?_
      rintro _ w h
      rw [if_neg (by decide)] at h
      obtain ⟨gr, gm, rfl, m⟩ := h
      replace M := M.call1 m; clear m
      rw [show (⟨gr, gm, [], (8 : Int).toNat, 0, 0⟩ : RcX) = RcX.of gr gm [] ⟨8, 0, 0, []⟩ from rfl] at M
      refine WL.move rfl rfl ?_
      refine WL.extractL rfl rfl rfl ?_
      refine WL.extractL rfl rfl rfl ?_
      refine WL.assign rfl rfl ?_
      refine WL.assign rfl rfl ?_
      refine WL.nil ?_
      refine WX.next ?_
      refine W.sub [(0, _), (1, _), (2, _), (7, _), (8, _), (9, _), (10, _)] (.cons rfl (.cons rfl (.cons rfl (.cons rfl (.cons rfl (.cons rfl (.cons rfl .nil))))))) ?_
      refine W.seq ?_
      refine W.seq ?_
      refine W.region ?_
      refine WL.move rfl rfl ?_
      refine WL.neI rfl rfl rfl ?_
      refine WL.moveIf rfl rfl (fun c2 => ?_) (fun c2 => ?_)
      · exact absurd rfl c2
      · refine WL.on rfl rfl ?_
        refine WL.move rfl rfl ?_
        refine WL.on rfl rfl ?_
        refine WL.neI rfl rfl rfl ?_
        refine WL.pickF rfl rfl rfl ?_
        refine WL.moveIf rfl rfl (fun c3 => ?_) (fun c3 => ?_)
        · exact absurd rfl c3
        · refine WL.on rfl rfl ?_
          refine WL.move rfl rfl ?_
          refine WL.on rfl rfl ?_
          refine WL.eqNilF Try.underlying24 rfl rfl rfl ?_
          refine WL.pickF rfl rfl rfl ?_
          refine WL.move rfl rfl ?_
          refine WL.on rfl rfl ?_
          refine WL.move rfl rfl ?_
          refine WL.on rfl rfl ?_
          refine WL.eqNilF Try.underlying60 rfl rfl rfl ?_
          refine WL.pickF rfl rfl rfl ?_
          refine WL.nil ?_
          refine WX.next ?_
          refine W.sub [(0, _), (1, _), (2, _), (7, _), (9, _), (60, _)] (.cons rfl (.cons rfl (.cons rfl (.cons rfl (.cons rfl (.cons rfl .nil)))))) ?_
          refine W.condF rfl ?_
          refine W.skip ?_
          refine WX.next ?_
          refine W.seq ?_
          refine W.region ?_
          refine WL.move rfl rfl ?_
          refine WL.move rfl rfl ?_
          refine WL.sub' rfl rfl (show IntKind.u64.wrap ((life : Int) - 1) = ((life - 1 : Nat) : Int) by rw [wU64 (by omega)]; omega) rfl ?_
          refine WL.buildB (es := [_, _, _]) Try.elem5 M rfl rfl (by apply BytesOf.lit (b := 111) (by decide); apply BytesOf.lit (b := 108) (by decide); apply BytesOf.lit (b := 100) (by decide); exact BytesOf.nil) (by rfl) rfl rfl ?_
          intro g7_3 w M
          refine WL.convLitH (l := [111, 108, 100]) Try.underlying34 Try.underlying5 rfl M (by first | ((repeat (first | with_reducible exact Del.here | with_reducible apply Del.there)); done) | (repeat (first | exact Del.here | apply Del.there))) (by rfl) (by rfl) rfl ?_
          intro w M
          refine WL.buildP (places := #[(0, 1), (1, 1), (2, 1), (3, 1)]) Try.underlying36 Try.zeroValue36 (fun _ => by simp [Try.sizeOf22, Try.sizeOf22, Try.sizeOf4, Try.sizeOf34]) rfl (by repeat (first | exact Puts.nil | exact SetAt.zero | apply SetAt.succ | apply Puts.cons rfl rfl)) rfl ?_
          refine WL.call Try.call33 rfl (HearR2 gr gm [] ⟨8, 0, 0, []⟩ rfl ⟨by decide, by decide, by decide, by decide, by decide⟩ ⟨life - 1, 1, false, ⟨_, _, [111, 108, 100]⟩⟩ (by dsimp only; omega) (by dsimp only; omega) _ _ _ _ M (by first | ((repeat (first | with_reducible exact Del.here | with_reducible apply Del.there)); done) | (repeat (first | exact Del.here | apply Del.there))) (by intro w M; exact (by first | first | with_reducible assumption | with_reducible exact RdB.mem (by with_reducible assumption) M | exact M.rdB (by first | ((repeat (first | with_reducible exact Has.here | with_reducible refine Has.there ?_)); done) | (repeat (first | exact Has.here | refine Has.there ?_))) | exact RdH.at (by assumption) (M.sel (by first | ((repeat (first | with_reducible exact Sel.refl | with_reducible exact Sel.nil | with_reducible exact Del.here | with_reducible apply Del.there | with_reducible apply Sel.cons | with_reducible apply Sel.drop)); done) | (repeat (first | exact Sel.refl | exact Sel.nil | exact Del.here | apply Del.there | apply Sel.cons | apply Sel.drop)))) | exact M.rdLit' (by first | ((repeat (first | with_reducible exact Has.here | with_reducible refine Has.there ?_)); done) | (repeat (first | exact Has.here | refine Has.there ?_))) | exact M.rdLent (by first | ((repeat (first | with_reducible exact Has.here | with_reducible refine Has.there ?_)); done) | (repeat (first | exact Has.here | refine Has.there ?_))) | exact RdB.nil _ _ | exact RdB.sub (by first | with_reducible assumption | with_reducible exact RdB.mem (by with_reducible assumption) M | exact M.rdB (by first | ((repeat (first | with_reducible exact Has.here | with_reducible refine Has.there ?_)); done) | (repeat (first | exact Has.here | refine Has.there ?_))) | exact RdH.at (by assumption) (M.sel (by first | ((repeat (first | with_reducible exact Sel.refl | with_reducible exact Sel.nil | with_reducible exact Del.here | with_reducible apply Del.there | with_reducible apply Sel.cons | with_reducible apply Sel.drop)); done) | (repeat (first | exact Sel.refl | exact Sel.nil | exact Del.here | apply Del.there | apply Sel.cons | apply Sel.drop)))) | exact M.rdLit' (by first | ((repeat (first | with_reducible exact Has.here | with_reducible refine Has.there ?_)); done) | (repeat (first | exact Has.here | refine Has.there ?_))) | exact M.rdLent (by first | ((repeat (first | with_reducible exact Has.here | with_reducible refine Has.there ?_)); done) | (repeat (first | exact Has.here | refine Has.there ?_))) | exact RdB.nil _ _) (by omega) (by omega) | exact RdB.pre' (by first | with_reducible assumption | with_reducible exact RdB.mem (by with_reducible assumption) M | exact M.rdB (by first | ((repeat (first | with_reducible exact Has.here | with_reducible refine Has.there ?_)); done) | (repeat (first | exact Has.here | refine Has.there ?_))) | exact RdH.at (by assumption) (M.sel (by first | ((repeat (first | with_reducible exact Sel.refl | with_reducible exact Sel.nil | with_reducible exact Del.here | with_reducible apply Del.there | with_reducible apply Sel.cons | with_reducible apply Sel.drop)); done) | (repeat (first | exact Sel.refl | exact Sel.nil | exact Del.here | apply Del.there | apply Sel.cons | apply Sel.drop)))) | exact M.rdLit' (by first | ((repeat (first | with_reducible exact Has.here | with_reducible refine Has.there ?_)); done) | (repeat (first | exact Has.here | refine Has.there ?_))) | exact M.rdLent (by first | ((repeat (first | with_reducible exact Has.here | with_reducible refine Has.there ?_)); done) | (repeat (first | exact Has.here | refine Has.there ?_))) | exact RdB.nil _ _) (by omega) | exact RdB.suf (by first | with_reducible assumption | with_reducible exact RdB.mem (by with_reducible assumption) M | exact M.rdB (by first | ((repeat (first | with_reducible exact Has.here | with_reducible refine Has.there ?_)); done) | (repeat (first | exact Has.here | refine Has.there ?_))) | exact RdH.at (by assumption) (M.sel (by first | ((repeat (first | with_reducible exact Sel.refl | with_reducible exact Sel.nil | with_reducible exact Del.here | with_reducible apply Del.there | with_reducible apply Sel.cons | with_reducible apply Sel.drop)); done) | (repeat (first | exact Sel.refl | exact Sel.nil | exact Del.here | apply Del.there | apply Sel.cons | apply Sel.drop)))) | exact M.rdLit' (by first | ((repeat (first | with_reducible exact Has.here | with_reducible refine Has.there ?_)); done) | (repeat (first | exact Has.here | refine Has.there ?_))) | exact M.rdLent (by first | ((repeat (first | with_reducible exact Has.here | with_reducible refine Has.there ?_)); done) | (repeat (first | exact Has.here | refine Has.there ?_))) | exact RdB.nil _ _) (by omega)))) rfl ?_
          rintro _ w ⟨gm1, ms1, A7, k7, o7, rfl, hms1, ho7, _, M⟩
          unfold SX.key at hms1 M ⊢
          dsimp only at hms1 M ⊢
          obtain ⟨ho1, ho2⟩ := rh_old (k := life - 1) (b := [111, 108, 100]) (by decide)
          rw [ho2, show (⟨8, life - 1, 1, []⟩ : Rc) = livR life 0 from rfl] at hms1 M
          rw [ho1]
          refine WL.move rfl rfl ?_
          refine WL.extractL rfl rfl rfl ?_
          refine WL.extractL rfl rfl rfl ?_
          refine WL.extractL rfl rfl rfl ?_
          refine WL.alloc Try.zeroValue36 M rfl ?_
          intro g7_11 w M
          try simp only [Value.cells] at M
          try simp only [List.toList_toArray] at M
          refine WL.assign rfl rfl ?_
          refine WL.storeWA Try.sizeOf36 rfl rfl (by repeat (first | exact oneNil | refine oneCons rfl ?_)) rfl rfl M (by first | ((repeat (first | with_reducible exact Upd.here | with_reducible apply Upd.there)); done) | (repeat (first | exact Upd.here | apply Upd.there))) ?_
          intro w M
          refine WL.assign rfl rfl ?_
          refine WL.nil ?_
          refine WX.next ?_
          refine W.sub [(0, _), (1, _), (2, _), (7, _), (9, _), (13, _)] (.cons rfl (.cons rfl (.cons rfl (.cons rfl (.cons rfl (.cons rfl .nil)))))) ?_
          refine W.seq ?_
          refine W.seq ?_
          refine W.region ?_
          refine WL.move rfl rfl ?_
          refine WL.neI rfl rfl rfl ?_
          refine WL.nil ?_
          refine WX.next ?_
          refine W.sub [(0, _), (1, _), (2, _), (7, _), (9, _), (73, _)] (.cons rfl (.cons rfl (.cons rfl (.cons rfl (.cons rfl (.cons rfl .nil)))))) ?_
          refine W.ite rfl (fun c6 => ?_) (fun c6 => ?_)
          · exact absurd rfl c6
          · refine W.skip ?_
            refine WX.next ?_
            refine W.seq ?_
            refine W.region ?_
            refine WL.assign rfl rfl ?_
            refine WL.nil ?_
            refine WX.next ?_
            refine W.sub [(0, _), (1, _), (2, _), (7, _), (9, _), (14, _)] (.cons rfl (.cons rfl (.cons rfl (.cons rfl (.cons rfl (.cons rfl .nil)))))) ?_
            refine W.seq ?_
            refine W.seq ?_
            have hM : Mem w0 w [SnX.O ⟨gs, none, 0, [], ⟨life, 8, 1, 0, 0, []⟩⟩, (RcX.of gr gm1 ms1 (livR life 0)).O, Asr.lst oxE none 0 [], Asr.star (([] : List OX).map OX.O)] := by
              have M3 := Mem.nilOwn (Mem.starNil (M.sel (K := SnX.O ⟨gs, none, 0, [], ⟨life, 8, 1, 0, 0, []⟩⟩ :: [(RcX.of gr gm1 ms1 (livR life 0)).O]) (by first | ((repeat (first | with_reducible exact Sel.refl | with_reducible exact Sel.nil | with_reducible exact Del.here | with_reducible apply Del.there | with_reducible apply Sel.cons | with_reducible apply Sel.drop)); done) | (repeat (first | exact Sel.refl | exact Sel.nil | exact Del.here | apply Del.there | apply Sel.cons | apply Sel.drop))))) 34 1
              exact M3.sel (Sel.cons (.there (.there .here)) (Sel.cons (.there (.there .here)) (Sel.cons .here (Sel.cons .here .nil))))
            refine W.region ?_
            refine WL.assign rfl rfl ?_
            refine WL.nil ?_
            refine WX.next ?_
            refine W.sub [(0, _), (1, _), (2, _), (7, _), (9, _), (14, _), (15, _)] (.cons rfl (.cons rfl (.cons rfl (.cons rfl (.cons rfl (.cons rfl (.cons rfl .nil))))))) ?_
            refine W.block ?_
            refine W.loop (ι := (Nat × List OX) × (Option Addr × Nat × List PX) × (Nat × List (Nat × OX)) × (Option Addr × Nat)) (fun z => [(0, .slice A0 l.length k0), (1, .slice A1 old.length k1), (2, .int .u64 (life : Int)), (7, .pointer (some ⟨gs, 0, none⟩)), (9, .pointer (some ⟨gr, 0, none⟩)), (14, .slice z.2.2.2.1 z.1.2.length z.2.2.2.2), (15, .int .i64 (z.1.1 : Int))]) (fun zz w => Mem w0 w ((fun z => [SnX.O ⟨gs, z.2.1.1, z.2.1.2.1, z.2.1.2.2, ⟨life, 8, 1, z.1.1, z.1.1, []⟩⟩, (RcX.of gr z.2.2.1.1 z.2.2.1.2 (livR life z.1.1)).O, Asr.lst oxE z.2.2.2.1 z.2.2.2.2 z.1.2, Asr.star (z.1.2.map OX.O)]) zz) ∧ (fun z => z.1.1 ≤ l.length ∧ SnX.is ⟨gs, z.2.1.1, z.2.1.2.1, z.2.1.2.2, ⟨life, 8, 1, z.1.1, z.1.1, []⟩⟩ ∧ mmap OX.l z.2.2.1.2 = (livR life z.1.1).m ∧ z.1.2.map OX.l = (l.take z.1.1).map OX.l) zz) (fun z => l.length - z.1.1) (((0, []), (none, 0, []), (gm1, ms1), (none, 0))) (by (repeat' (first | exact envSub.nil | refine envSub.cons ?_ ?_)) <;> first | rfl | (refine congrArg some ?_; refine congrArg (Value.int _) ?_; first | omega | (dsimp only; omega)) | (simp; done) | (refine congrArg some ?_; dsimp only; congr 1; omega) | (simp; omega)) ⟨hM, ⟨by simp, rfl, hms1, rfl⟩⟩ ?_
            clear M; rintro (⟨⟨i, out⟩, ⟨B, cB, ps⟩, ⟨gm2, ms2⟩, At, ct⟩) w ⟨M, ⟨hi, his, hms, hout⟩⟩; dsimp only at M hi his hms hout ⊢
            refine W.sub [(0, _), (1, _), (2, _), (7, _), (9, _), (14, _), (15, _)] (.cons rfl (.cons rfl (.cons rfl (.cons rfl (.cons rfl (.cons rfl (.cons rfl .nil))))))) ?_
            refine W.seq ?_
            refine W.seq ?_
            refine W.region ?_
            refine WL.move rfl rfl ?_
            refine WL.move rfl rfl ?_
            refine WL.len Try.underlying33 rfl rfl ?_
            refine WL.lss rfl rfl rfl ?_
            refine WL.nil ?_
            refine WX.next ?_
            refine W.sub [(0, _), (1, _), (2, _), (7, _), (9, _), (14, _), (15, _), (77, _)] (.cons rfl (.cons rfl (.cons rfl (.cons rfl (.cons rfl (.cons rfl (.cons rfl (.cons rfl .nil)))))))) ?_
            refine W.ite rfl (fun c7 => ?_) (fun c7 => ?_)
            · refine W.skip ?_
              refine WX.next ?_
              refine W.seq ?_
              refine W.block ?_
              refine W.seq ?_
              refine W.region ?_
              refine WL.move rfl rfl ?_
              refine WL.move rfl rfl ?_
              refine WL.move rfl rfl ?_
              refine WL.idxA Try.underlying33 Try.sizeOf34 rfl rfl (RdL.isSome (E := oxE) (by first | with_reducible assumption | with_reducible exact RdL.mem (by with_reducible assumption) M | exact M.rdL (by first | ((repeat (first | with_reducible exact Has.here | with_reducible refine Has.there ?_)); done) | (repeat (first | exact Has.here | refine Has.there ?_))) | exact RdLH.at (by assumption) (M.sel (by first | ((repeat (first | with_reducible exact Sel.refl | with_reducible exact Sel.nil | with_reducible exact Del.here | with_reducible apply Del.there | with_reducible apply Sel.cons | with_reducible apply Sel.drop)); done) | (repeat (first | exact Sel.refl | exact Sel.nil | exact Del.here | apply Del.there | apply Sel.cons | apply Sel.drop)))) | exact RdL.nil _ _ _) (by omega)) (by omega) (by omega) (by first | exact rfl | exact (Int.toNat_of_nonneg (by omega)).symm) rfl ?_
              refine WL.loadE0 (E := oxE) Try.isAgg34 rfl (by first | with_reducible assumption | with_reducible exact RdL.mem (by with_reducible assumption) M | exact M.rdL (by first | ((repeat (first | with_reducible exact Has.here | with_reducible refine Has.there ?_)); done) | (repeat (first | exact Has.here | refine Has.there ?_))) | exact RdLH.at (by assumption) (M.sel (by first | ((repeat (first | with_reducible exact Sel.refl | with_reducible exact Sel.nil | with_reducible exact Del.here | with_reducible apply Del.there | with_reducible apply Sel.cons | with_reducible apply Sel.drop)); done) | (repeat (first | exact Sel.refl | exact Sel.nil | exact Del.here | apply Del.there | apply Sel.cons | apply Sel.drop)))) | exact RdL.nil _ _ _) (by omega) rfl rfl ?_
              refine WL.call Try.call15 rfl (Push2 ⟨gs, B, cB, ps, ⟨life, 8, 1, i, i, []⟩⟩ his (sn_ok0 hlife (by omega) (by omega)) _ _ (el l i).l _ _ _ _ M (by first | ((repeat (first | with_reducible exact Del.here | with_reducible apply Del.there)); done) | (repeat (first | exact Del.here | apply Del.there))) (by intro w M; exact (hb0 _ (el_mem (by omega))).mem M)) rfl ?_
              rintro _ w ⟨B2, cB2, ps2, rfl, his2, M⟩
              dsimp only at his2 M
              have hbi := hl1000 _ (el_mem (l := l) (k := i) (by omega))
              rw [(push_one life i i hbi).2] at his2 M
              refine WL.nil ?_
              refine WX.next ?_
              refine W.sub [(0, _), (1, _), (2, _), (7, _), (9, _), (14, _), (15, _)] (.cons rfl (.cons rfl (.cons rfl (.cons rfl (.cons rfl (.cons rfl (.cons rfl .nil))))))) ?_
              refine W.seq ?_
              refine W.region ?_
              refine WL.move rfl rfl ?_
              refine WL.call Try.call19 rfl (Tick2 ⟨gs, B2, cB2, ps2, ⟨life, 8, 1, i, i, [((el l i).l, 0)]⟩⟩ his2 (sn_ok1 hlife (by omega) (by omega) hbi (by omega)) _ _ _ _ M (by first | ((repeat (first | with_reducible exact Del.here | with_reducible apply Del.there)); done) | (repeat (first | exact Del.here | apply Del.there)))) rfl ?_
              rintro _ w ⟨B3, cB3, ps3, Ao, co, outs, rfl, his3, houts, M⟩
              dsimp only at his3 houts M
              rw [(tick_one life i i (el l i).l).1] at his3 M
              rw [(tick_one life i i (el l i).l).2] at houts
              obtain ⟨t1, ht1, hk1⟩ := one_key houts
              have hol : outs.length = 1 := by rw [ht1]; rfl
              rw [livS_zero] at his3 M
              refine WL.assign rfl rfl ?_
              refine WL.nil ?_
              refine WX.next ?_
              refine W.sub [(0, _), (1, _), (2, _), (7, _), (9, _), (14, _), (15, _), (16, _)] (.cons rfl (.cons rfl (.cons rfl (.cons rfl (.cons rfl (.cons rfl (.cons rfl (.cons rfl .nil)))))))) ?_
              refine W.seq ?_
              refine W.seq ?_
              refine W.region ?_
              refine WL.assign rfl rfl ?_
              refine WL.nil ?_
              refine WX.next ?_
              refine W.sub [(0, _), (1, _), (2, _), (7, _), (9, _), (14, _), (15, _), (16, _), (17, _)] (.cons rfl (.cons rfl (.cons rfl (.cons rfl (.cons rfl (.cons rfl (.cons rfl (.cons rfl (.cons rfl .nil))))))))) ?_
              refine W.block ?_
              refine W.loop (ι := (Nat × List OX) × (Option Addr × Nat × List PX) × (Nat × List (Nat × OX)) × (Option Addr × Nat)) (fun z => [(0, .slice A0 l.length k0), (1, .slice A1 old.length k1), (2, .int .u64 (life : Int)), (7, .pointer (some ⟨gs, 0, none⟩)), (9, .pointer (some ⟨gr, 0, none⟩)), (14, .slice z.2.2.2.1 z.1.2.length z.2.2.2.2), (15, .int .i64 (i : Int)), (16, .slice Ao outs.length co), (17, .int .i64 (z.1.1 : Int))]) (fun zz w => Mem w0 w ((fun z => [SnX.O ⟨gs, z.2.1.1, z.2.1.2.1, z.2.1.2.2, livS life i z.1.1 (el l i).l⟩, (RcX.of gr z.2.2.1.1 z.2.2.1.2 (livR life (i + z.1.1))).O, Asr.lst oxE z.2.2.2.1 z.2.2.2.2 z.1.2, Asr.star (z.1.2.map OX.O), Asr.lst segE Ao co outs, Asr.star (outs.map SX.O)]) zz) ∧ (fun z => z.1.1 ≤ 1 ∧ SnX.is ⟨gs, z.2.1.1, z.2.1.2.1, z.2.1.2.2, livS life i z.1.1 (el l i).l⟩ ∧ mmap OX.l z.2.2.1.2 = (livR life (i + z.1.1)).m ∧ z.1.2.map OX.l = (l.take (i + z.1.1)).map OX.l) zz) (fun z => 1 - z.1.1) (((0, out), (B3, cB3, ps3), (gm2, ms2), (At, ct))) (by (repeat' (first | exact envSub.nil | refine envSub.cons ?_ ?_)) <;> first | rfl | (refine congrArg some ?_; refine congrArg (Value.int _) ?_; first | omega | (dsimp only; omega)) | (simp; done) | (refine congrArg some ?_; dsimp only; congr 1; omega) | (simp; omega)) ⟨M.sel (by first | ((repeat (first | with_reducible exact Sel.refl | with_reducible exact Sel.nil | with_reducible exact Del.here | with_reducible apply Del.there | with_reducible apply Sel.cons | with_reducible apply Sel.drop)); done) | (repeat (first | exact Sel.refl | exact Sel.nil | exact Del.here | apply Del.there | apply Sel.cons | apply Sel.drop))), ⟨by simp, his3, hms, hout⟩⟩ ?_
              clear M; rintro (⟨⟨k, out2⟩, ⟨B4, cB4, ps4⟩, ⟨gm3, ms3⟩, At2, ct2⟩) w ⟨M, ⟨hk, his4, hms3, hout2⟩⟩; dsimp only at M hk his4 hms3 hout2 ⊢
              refine W.sub [(0, _), (1, _), (2, _), (7, _), (9, _), (14, _), (15, _), (16, _), (17, _)] (.cons rfl (.cons rfl (.cons rfl (.cons rfl (.cons rfl (.cons rfl (.cons rfl (.cons rfl (.cons rfl .nil))))))))) ?_
              refine W.seq ?_
              refine W.seq ?_
              refine W.region ?_
              refine WL.move rfl rfl ?_
              refine WL.move rfl rfl ?_
              refine WL.len Try.underlying45 rfl rfl ?_
              refine WL.lss rfl rfl rfl ?_
              refine WL.nil ?_
              refine WX.next ?_
              refine W.sub [(0, _), (1, _), (2, _), (7, _), (9, _), (14, _), (15, _), (16, _), (17, _), (91, _)] (.cons rfl (.cons rfl (.cons rfl (.cons rfl (.cons rfl (.cons rfl (.cons rfl (.cons rfl (.cons rfl (.cons rfl .nil)))))))))) ?_
              refine W.ite rfl (fun c8 => ?_) (fun c8 => ?_)
              · obtain rfl : k = 0 := by omega
                have hk0 : (el outs 0).key = (life, i + 1, false, (el l i).l) := by rw [ht1]; exact hk1
                have hr0 := rh_one (life := life) (by omega) i (hl1000 _ (el_mem (l := l) (k := i) (by omega)))
                rw [Nat.add_zero] at hms3 hout2 M
                refine W.skip ?_
                refine WX.next ?_
                refine W.seq ?_
                refine W.block ?_
                refine W.seq ?_
                refine W.region ?_
                refine WL.move rfl rfl ?_
                refine WL.move rfl rfl ?_
                refine WL.move rfl rfl ?_
                refine WL.idxA Try.underlying45 Try.sizeOf36 rfl rfl (RdL.isSome (E := segE) (by first | with_reducible assumption | with_reducible exact RdL.mem (by with_reducible assumption) M | exact M.rdL (by first | ((repeat (first | with_reducible exact Has.here | with_reducible refine Has.there ?_)); done) | (repeat (first | exact Has.here | refine Has.there ?_))) | exact RdLH.at (by assumption) (M.sel (by first | ((repeat (first | with_reducible exact Sel.refl | with_reducible exact Sel.nil | with_reducible exact Del.here | with_reducible apply Del.there | with_reducible apply Sel.cons | with_reducible apply Sel.drop)); done) | (repeat (first | exact Sel.refl | exact Sel.nil | exact Del.here | apply Del.there | apply Sel.cons | apply Sel.drop)))) | exact RdL.nil _ _ _) (by omega)) (by omega) (by omega) (by first | exact rfl | exact (Int.toNat_of_nonneg (by omega)).symm) rfl ?_
                refine WL.loadL (E := segE) (cs := [_, _, _, _]) Try.isAgg36 Try.sizeOf36 rfl (by first | with_reducible assumption | with_reducible exact RdL.mem (by with_reducible assumption) M | exact M.rdL (by first | ((repeat (first | with_reducible exact Has.here | with_reducible refine Has.there ?_)); done) | (repeat (first | exact Has.here | refine Has.there ?_))) | exact RdLH.at (by assumption) (M.sel (by first | ((repeat (first | with_reducible exact Sel.refl | with_reducible exact Sel.nil | with_reducible exact Del.here | with_reducible apply Del.there | with_reducible apply Sel.cons | with_reducible apply Sel.drop)); done) | (repeat (first | exact Sel.refl | exact Sel.nil | exact Del.here | apply Del.there | apply Sel.cons | apply Sel.drop)))) | exact RdL.nil _ _ _) rfl (by omega) rfl rfl ?_
                refine WL.call Try.call33 rfl (HearR2 gr gm3 ms3 (livR life i) hms3 (livR_ok hlife (by omega)) (el outs 0) (by have := congrArg (·.1) hk0; dsimp only [SX.key] at this; omega) (by have := congrArg (·.2.1) hk0; dsimp only [SX.key] at this; omega) _ _ _ _ M (by first | ((repeat (first | with_reducible exact Del.here | with_reducible apply Del.there)); done) | (repeat (first | exact Del.here | apply Del.there))) (by intro w M; exact M.segRd (by first | ((repeat (first | with_reducible exact Has.here | with_reducible refine Has.there ?_)); done) | (repeat (first | exact Has.here | refine Has.there ?_))) (el_mem (by omega)))) rfl ?_
                rintro _ w ⟨gm5, ms5, A5, k5, o5, rfl, hms5, ho5, hb5, M⟩
                rw [hk0] at hms5 ho5 M ⊢
                rw [hr0.2.1] at hms5 M
                rw [hr0.2.2.1] at ho5
                rw [hr0.1, hr0.2.2.2]
                have hl5 : o5.length = 1 := by have := congrArg List.length ho5; simpa using this
                have hl2 : out2.length = i := by have := congrArg List.length hout2; simp at this; omega
                refine WL.move rfl rfl ?_
                refine WL.extractL rfl rfl rfl ?_
                refine WL.extractL rfl rfl rfl ?_
                refine WL.extractL rfl rfl rfl ?_
                refine WL.alloc Try.zeroValue36 M rfl ?_
                intro g19_10 w M
                try simp only [Value.cells] at M
                try simp only [List.toList_toArray] at M
                refine WL.assign rfl rfl ?_
                refine WL.storeWA Try.sizeOf36 rfl rfl (by repeat (first | exact oneNil | refine oneCons rfl ?_)) rfl rfl M (by first | ((repeat (first | with_reducible exact Upd.here | with_reducible apply Upd.there)); done) | (repeat (first | exact Upd.here | apply Upd.there))) ?_
                intro w M
                refine WL.assign rfl rfl ?_
                refine WL.nil ?_
                refine WX.next ?_
                refine W.sub [(0, _), (1, _), (2, _), (7, _), (9, _), (14, _), (15, _), (16, _), (17, _), (18, _), (19, _), (20, _)] (.cons rfl (.cons rfl (.cons rfl (.cons rfl (.cons rfl (.cons rfl (.cons rfl (.cons rfl (.cons rfl (.cons rfl (.cons rfl (.cons rfl .nil)))))))))))) ?_
                refine W.seq ?_
                refine W.region ?_
                refine WL.move rfl rfl ?_
                refine WL.move rfl rfl ?_
                refine WL.appendL (E := oxE) Try.elem34 rfl rfl M (by first | ((repeat (first | with_reducible exact Del.here | with_reducible apply Del.there)); done) | (repeat (first | exact Del.here | apply Del.there))) (by first | with_reducible assumption | with_reducible exact RdL.mem (by with_reducible assumption) M | exact M.rdL (by first | ((repeat (first | with_reducible exact Has.here | with_reducible refine Has.there ?_)); done) | (repeat (first | exact Has.here | refine Has.there ?_))) | exact RdLH.at (by assumption) (M.sel (by first | ((repeat (first | with_reducible exact Sel.refl | with_reducible exact Sel.nil | with_reducible exact Del.here | with_reducible apply Del.there | with_reducible apply Sel.cons | with_reducible apply Sel.drop)); done) | (repeat (first | exact Sel.refl | exact Sel.nil | exact Del.here | apply Del.there | apply Sel.cons | apply Sel.drop)))) | exact RdL.nil _ _ _) rfl rfl (by first | omega | (simp; done) | (simp; omega)) (by first | (simp only [maxLen]; omega) | (simp [maxLen]; done) | (simp [maxLen]; omega)) rfl ?_
                intro A20_2 cap20_2 w M
                refine WL.assign rfl rfl ?_
                refine WL.nil ?_
                refine WX.next ?_
                refine W.sub [(0, _), (1, _), (2, _), (7, _), (9, _), (14, _), (15, _), (16, _), (17, _), (19, _), (20, _)] (.cons rfl (.cons rfl (.cons rfl (.cons rfl (.cons rfl (.cons rfl (.cons rfl (.cons rfl (.cons rfl (.cons rfl (.cons rfl .nil))))))))))) ?_
                refine W.seq ?_
                refine W.region ?_
                refine WL.move rfl rfl ?_
                refine WL.neI rfl rfl rfl ?_
                refine WL.moveIf rfl rfl (fun c9 => ?_) (fun c9 => ?_)
                · exact absurd rfl c9
                · refine WL.on rfl rfl ?_
                  refine WL.move rfl rfl ?_
                  refine WL.on rfl rfl ?_
                  refine WL.loadW Try.isAgg36 Try.sizeOf36 rfl M (by first | ((repeat (first | with_reducible exact Has.here | with_reducible refine Has.there ?_)); done) | (repeat (first | exact Has.here | refine Has.there ?_))) rfl rfl ?_
                  refine WL.on rfl rfl ?_
                  refine WL.call Try.call22 rfl (HearS2 ⟨gs, B4, cB4, ps4, livS life i 0 (el l i).l⟩ his4 (sn_ok1 hlife (by omega) (by omega) hbi (by omega)) ⟨life, i + 1, true, ⟨none, 0, []⟩⟩ (by dsimp only; omega) _ _ _ _ M (by first | ((repeat (first | with_reducible exact Del.here | with_reducible apply Del.there)); done) | (repeat (first | exact Del.here | apply Del.there)))) rfl ?_
                  rintro _ w ⟨B6, cB6, ps6, rfl, his6, M⟩
                  dsimp only at his6 M
                  rw [show SX.key ⟨life, i + 1, true, ⟨none, 0, []⟩⟩ = (life, i + 1, true, []) from rfl, ← livS_zero, (hear_one life i (i + 1) (el l i).l).2] at his6 M
                  rw [show SX.key ⟨life, i + 1, true, ⟨none, 0, []⟩⟩ = (life, i + 1, true, []) from rfl, ← livS_zero, (hear_one life i (i + 1) (el l i).l).1]
                  refine WL.on rfl rfl ?_
                  refine WL.neI rfl rfl rfl ?_
                  refine WL.pickF rfl rfl rfl ?_
                  refine WL.nil ?_
                  refine WX.next ?_
                  refine W.sub [(0, _), (1, _), (2, _), (7, _), (9, _), (14, _), (15, _), (16, _), (17, _), (114, _)] (.cons rfl (.cons rfl (.cons rfl (.cons rfl (.cons rfl (.cons rfl (.cons rfl (.cons rfl (.cons rfl (.cons rfl .nil)))))))))) ?_
                  refine W.ite rfl (fun c10 => ?_) (fun c10 => ?_)
                  · exact absurd rfl c10
                  · refine W.skip ?_
                    refine WX.blockNormal ?_
                    refine WX.next ?_
                    refine W.region ?_
                    refine WL.move rfl rfl ?_
                    refine WL.add rfl rfl (by first | exact wI64 (by omega) | rfl) rfl ?_
                    refine WL.assign rfl rfl ?_
                    refine WL.nil ?_
                    skip
                    have M5 := Mem.starJoin (M.sel (K := Asr.star (out2.map OX.O) :: Asr.star (o5.map OX.O) :: SnX.O ⟨gs, B6, cB6, ps6, livS life i 1 (el l i).l⟩ :: (RcX.of gr gm5 ms5 (livR life (i + 1))).O :: Asr.lst oxE A20_2 cap20_2 (out2 ++ o5) :: Asr.lst segE Ao co outs :: [Asr.star (outs.map SX.O)]) (by first | ((repeat (first | with_reducible exact Sel.refl | with_reducible exact Sel.nil | with_reducible exact Del.here | with_reducible apply Del.there | with_reducible apply Sel.cons | with_reducible apply Sel.drop)); done) | (repeat (first | exact Sel.refl | exact Sel.nil | exact Del.here | apply Del.there | apply Sel.cons | apply Sel.drop))))
                    rw [← List.map_append] at M5
                    replace M := M5
                    have q : (out2 ++ o5).map OX.l = (l.take (i + 1)).map OX.l := by rw [List.map_append, hout2, ho5, List.take_add_one, el_get (by omega)]; simp
                    refine WX.round (((1, out2 ++ o5), (B6, cB6, ps6), (gm5, ms5), (A20_2, cap20_2))) (by (repeat' (first | exact envSub.nil | refine envSub.cons ?_ ?_)) <;> first | rfl | (refine congrArg some ?_; refine congrArg (Value.int _) ?_; first | omega | (dsimp only; omega)) | (simp; done) | (refine congrArg some ?_; dsimp only; congr 1; omega) | (simp; omega)) ⟨M.sel (by first | ((repeat (first | with_reducible exact Sel.refl | with_reducible exact Sel.nil | with_reducible exact Del.here | with_reducible apply Del.there | with_reducible apply Sel.cons | with_reducible apply Sel.drop)); done) | (repeat (first | exact Sel.refl | exact Sel.nil | exact Del.here | apply Del.there | apply Sel.cons | apply Sel.drop))), ⟨by dsimp only; omega, his6, hms5, q⟩⟩ (by first | omega | (dsimp only; omega))
              · obtain rfl : k = 1 := by omega
                rw [livS_one] at his4 M
                refine W.exit ?_
                refine WX.thenExit ?_
                refine WX.thenExit ?_
                refine WX.blockHere ?_
                refine WX.next ?_
                refine W.seq ?_
                refine W.region ?_
                refine WL.move rfl rfl ?_
                refine WL.move rfl rfl ?_
                refine WL.len Try.underlying45 rfl rfl ?_
                refine WL.lss rfl rfl rfl ?_
                refine WL.moveIf rfl rfl (fun c11 => ?_) (fun c11 => ?_)
                · refine WL.on rfl rfl ?_
                  refine WL.move rfl rfl ?_
                  refine WL.on rfl rfl ?_
                  refine WL.move rfl rfl ?_
                  refine WL.on rfl rfl ?_
                  refine WL.idxA Try.underlying45 Try.sizeOf36 rfl rfl (RdL.isSome (E := segE) (by first | with_reducible assumption | with_reducible exact RdL.mem (by with_reducible assumption) M | exact M.rdL (by first | ((repeat (first | with_reducible exact Has.here | with_reducible refine Has.there ?_)); done) | (repeat (first | exact Has.here | refine Has.there ?_))) | exact RdLH.at (by assumption) (M.sel (by first | ((repeat (first | with_reducible exact Sel.refl | with_reducible exact Sel.nil | with_reducible exact Del.here | with_reducible apply Del.there | with_reducible apply Sel.cons | with_reducible apply Sel.drop)); done) | (repeat (first | exact Sel.refl | exact Sel.nil | exact Del.here | apply Del.there | apply Sel.cons | apply Sel.drop)))) | exact RdL.nil _ _ _) (by omega)) (by omega) (by omega) (by first | exact rfl | exact (Int.toNat_of_nonneg (by omega)).symm) rfl ?_
                  refine WL.on rfl rfl ?_
                  refine WL.fieldA (off := 3) Try.underlying36 rfl rfl Try.sizeOf34 rfl rfl rfl ?_
                  refine WL.on rfl rfl ?_
                  refine WL.loadE (E := segE) Try.isAgg34 rfl (by first | with_reducible assumption | with_reducible exact RdL.mem (by with_reducible assumption) M | exact M.rdL (by first | ((repeat (first | with_reducible exact Has.here | with_reducible refine Has.there ?_)); done) | (repeat (first | exact Has.here | refine Has.there ?_))) | exact RdLH.at (by assumption) (M.sel (by first | ((repeat (first | with_reducible exact Sel.refl | with_reducible exact Sel.nil | with_reducible exact Del.here | with_reducible apply Del.there | with_reducible apply Sel.cons | with_reducible apply Sel.drop)); done) | (repeat (first | exact Sel.refl | exact Sel.nil | exact Del.here | apply Del.there | apply Sel.cons | apply Sel.drop)))) | exact RdL.nil _ _ _) (by omega) rfl rfl ?_
                  refine WL.on rfl rfl ?_
                  refine WL.len Try.underlying34 rfl rfl ?_
                  refine WL.on rfl rfl ?_
                  refine WL.leq rfl rfl rfl ?_
                  refine WL.pickT rfl rfl rfl ?_
                  refine WL.nil ?_
                  refine WX.next ?_
                  refine W.sub [(0, _), (1, _), (2, _), (7, _), (9, _), (14, _), (15, _), (127, _)] (.cons rfl (.cons rfl (.cons rfl (.cons rfl (.cons rfl (.cons rfl (.cons rfl (.cons rfl .nil)))))))) ?_
                  refine W.ite rfl (fun c12 => ?_) (fun c12 => ?_)
                  · have hin := hq _ (el_mem (l := old) (k := i) (by omega))
                    refine W.seq ?_
                    refine W.region ?_
                    refine WL.move rfl rfl ?_
                    refine WL.move rfl rfl ?_
                    refine WL.idxA Try.underlying45 Try.sizeOf36 rfl rfl (RdL.isSome (E := segE) (by first | with_reducible assumption | with_reducible exact RdL.mem (by with_reducible assumption) M | exact M.rdL (by first | ((repeat (first | with_reducible exact Has.here | with_reducible refine Has.there ?_)); done) | (repeat (first | exact Has.here | refine Has.there ?_))) | exact RdLH.at (by assumption) (M.sel (by first | ((repeat (first | with_reducible exact Sel.refl | with_reducible exact Sel.nil | with_reducible exact Del.here | with_reducible apply Del.there | with_reducible apply Sel.cons | with_reducible apply Sel.drop)); done) | (repeat (first | exact Sel.refl | exact Sel.nil | exact Del.here | apply Del.there | apply Sel.cons | apply Sel.drop)))) | exact RdL.nil _ _ _) (by omega)) (by omega) (by omega) (by first | exact rfl | exact (Int.toNat_of_nonneg (by omega)).symm) rfl ?_
                    refine WL.loadL (E := segE) (cs := [_, _, _, _]) Try.isAgg36 Try.sizeOf36 rfl (by first | with_reducible assumption | with_reducible exact RdL.mem (by with_reducible assumption) M | exact M.rdL (by first | ((repeat (first | with_reducible exact Has.here | with_reducible refine Has.there ?_)); done) | (repeat (first | exact Has.here | refine Has.there ?_))) | exact RdLH.at (by assumption) (M.sel (by first | ((repeat (first | with_reducible exact Sel.refl | with_reducible exact Sel.nil | with_reducible exact Del.here | with_reducible apply Del.there | with_reducible apply Sel.cons | with_reducible apply Sel.drop)); done) | (repeat (first | exact Sel.refl | exact Sel.nil | exact Del.here | apply Del.there | apply Sel.cons | apply Sel.drop)))) | exact RdL.nil _ _ _) rfl (by omega) rfl rfl ?_
                    refine WL.alloc Try.zeroValue36 M rfl ?_
                    intro g24_4 w M
                    try simp only [Value.cells] at M
                    try simp only [List.toList_toArray] at M
                    refine WL.storeWA Try.sizeOf36 rfl rfl (by repeat (first | exact oneNil | refine oneCons rfl ?_)) rfl rfl M (by first | ((repeat (first | with_reducible exact Upd.here | with_reducible apply Upd.there)); done) | (repeat (first | exact Upd.here | apply Upd.there))) ?_
                    intro w M
                    refine WL.nil ?_
                    refine WX.next ?_
                    refine W.sub [(0, _), (1, _), (2, _), (7, _), (9, _), (14, _), (15, _), (21, _)] (.cons rfl (.cons rfl (.cons rfl (.cons rfl (.cons rfl (.cons rfl (.cons rfl (.cons rfl .nil)))))))) ?_
                    refine W.seq ?_
                    refine W.region ?_
                    refine WL.fieldR (off := 2) Try.underlying36 rfl rfl Try.sizeOf4 rfl rfl rfl ?_
                    refine WL.storeR Try.sizeOf4 rfl rfl rfl M (by first | ((repeat (first | with_reducible exact Has.here | with_reducible refine Has.there ?_)); done) | (repeat (first | exact Has.here | refine Has.there ?_))) (by repeat (first | exact SetAt.zero | apply SetAt.succ)) (by first | ((repeat (first | with_reducible exact Upd.here | with_reducible apply Upd.there)); done) | (repeat (first | exact Upd.here | apply Upd.there))) ?_
                    intro w M
                    refine WL.nil ?_
                    refine WX.next ?_
                    refine W.sub [(0, _), (1, _), (2, _), (7, _), (9, _), (14, _), (15, _), (21, _)] (.cons rfl (.cons rfl (.cons rfl (.cons rfl (.cons rfl (.cons rfl (.cons rfl (.cons rfl .nil)))))))) ?_
                    refine W.seq ?_
                    refine W.region ?_
                    refine WL.move rfl rfl ?_
                    refine WL.sub' rfl rfl (show IntKind.u64.wrap ((life : Int) - 1) = ((life - 1 : Nat) : Int) by rw [wU64 (by omega)]; omega) rfl ?_
                    refine WL.fieldR (off := 0) Try.underlying36 rfl rfl Try.sizeOf22 rfl rfl rfl ?_
                    refine WL.storeR Try.sizeOf22 rfl rfl rfl M (by first | ((repeat (first | with_reducible exact Has.here | with_reducible refine Has.there ?_)); done) | (repeat (first | exact Has.here | refine Has.there ?_))) (by repeat (first | exact SetAt.zero | apply SetAt.succ)) (by first | ((repeat (first | with_reducible exact Upd.here | with_reducible apply Upd.there)); done) | (repeat (first | exact Upd.here | apply Upd.there))) ?_
                    intro w M
                    refine WL.nil ?_
                    refine WX.next ?_
                    refine W.sub [(0, _), (1, _), (2, _), (7, _), (9, _), (14, _), (15, _), (21, _)] (.cons rfl (.cons rfl (.cons rfl (.cons rfl (.cons rfl (.cons rfl (.cons rfl (.cons rfl .nil)))))))) ?_
                    refine W.seq ?_
                    refine W.region ?_
                    refine WL.fieldR (off := 1) Try.underlying36 rfl rfl Try.sizeOf22 rfl rfl rfl ?_
                    refine WL.loadR Try.isAgg22 rfl M (by first | ((repeat (first | with_reducible exact Has.here | with_reducible refine Has.there ?_)); done) | (repeat (first | exact Has.here | refine Has.there ?_))) rfl rfl ?_
                    refine WL.rem rfl rfl (by omega) (remN (by omega)) rfl ?_
                    refine WL.add rfl rfl (by first | exact wU64 (by omega) | exact mU64 _ | rfl) rfl ?_
                    refine WL.fieldR (off := 1) Try.underlying36 rfl rfl Try.sizeOf22 rfl rfl rfl ?_
                    refine WL.storeR Try.sizeOf22 rfl rfl rfl M (by first | ((repeat (first | with_reducible exact Has.here | with_reducible refine Has.there ?_)); done) | (repeat (first | exact Has.here | refine Has.there ?_))) (by repeat (first | exact SetAt.zero | apply SetAt.succ)) (by first | ((repeat (first | with_reducible exact Upd.here | with_reducible apply Upd.there)); done) | (repeat (first | exact Upd.here | apply Upd.there))) ?_
                    intro w M
                    refine WL.nil ?_
                    refine WX.next ?_
                    refine W.sub [(0, _), (1, _), (2, _), (7, _), (9, _), (14, _), (15, _), (21, _)] (.cons rfl (.cons rfl (.cons rfl (.cons rfl (.cons rfl (.cons rfl (.cons rfl (.cons rfl .nil)))))))) ?_
                    refine W.seq ?_
                    refine W.region ?_
                    refine WL.move rfl rfl ?_
                    refine WL.call Try.call35 rfl (Got_ok (RcX.of gr gm3 ms3 (livR life (i + 1))) _ _ _ _ M (by first | ((repeat (first | with_reducible exact Del.here | with_reducible apply Del.there)); done) | (repeat (first | exact Del.here | apply Del.there)))) rfl ?_
                    rintro _ w ⟨rfl, M⟩
                    refine WL.move rfl rfl ?_
                    refine WL.extractL rfl rfl rfl ?_
                    refine WL.extractL rfl rfl rfl ?_
                    refine WL.assign rfl rfl ?_
                    refine WL.assign rfl rfl ?_
                    refine WL.nil ?_
                    refine WX.next ?_
                    refine W.sub [(0, _), (1, _), (2, _), (7, _), (9, _), (14, _), (15, _), (21, _), (23, _)] (.cons rfl (.cons rfl (.cons rfl (.cons rfl (.cons rfl (.cons rfl (.cons rfl (.cons rfl (.cons rfl .nil))))))))) ?_
                    refine W.seq ?_
                    refine W.region ?_
                    refine WL.move rfl rfl ?_
                    refine WL.loadW Try.isAgg36 Try.sizeOf36 rfl M (by first | ((repeat (first | with_reducible exact Has.here | with_reducible refine Has.there ?_)); done) | (repeat (first | exact Has.here | refine Has.there ?_))) rfl rfl ?_
                    refine WL.call Try.call33 rfl (HearR2 gr gm3 ms3 (livR life (i + 1)) hms3 (livR_ok hlife (by omega)) ⟨life - 1, (el old i).seq % 100 + 1, false, (el old i).x⟩ (by dsimp only; omega) (by dsimp only; omega) _ _ _ _ M (by first | ((repeat (first | with_reducible exact Del.here | with_reducible apply Del.there)); done) | (repeat (first | exact Del.here | apply Del.there))) (by intro w M; exact hin.2.2.mem M)) rfl ?_
                    rintro _ w ⟨gm8, ms8, A8, k8, o8, rfl, hms8, ho8, _, M⟩
                    have hq8 := rh_elder (life := life) (by omega) i ((el old i).seq % 100 + 1) (b := (el old i).x.l) (by omega) (by omega)
                    rw [show SX.key ⟨life - 1, (el old i).seq % 100 + 1, false, (el old i).x⟩ = (life - 1, (el old i).seq % 100 + 1, false, (el old i).x.l) from rfl] at hms8 ho8 M ⊢
                    rw [hq8.2.1] at hms8 M
                    rw [hq8.2.2] at ho8
                    rw [hq8.1]
                    refine WL.move rfl rfl ?_
                    refine WL.extractL rfl rfl rfl ?_
                    refine WL.extractL rfl rfl rfl ?_
                    refine WL.extractL rfl rfl rfl ?_
                    refine WL.alloc Try.zeroValue36 M rfl ?_
                    intro g29_7 w M
                    try simp only [Value.cells] at M
                    try simp only [List.toList_toArray] at M
                    refine WL.assign rfl rfl ?_
                    refine WL.storeWA Try.sizeOf36 rfl rfl (by repeat (first | exact oneNil | refine oneCons rfl ?_)) rfl rfl M (by first | ((repeat (first | with_reducible exact Upd.here | with_reducible apply Upd.there)); done) | (repeat (first | exact Upd.here | apply Upd.there))) ?_
                    intro w M
                    refine WL.assign rfl rfl ?_
                    refine WL.nil ?_
                    refine WX.next ?_
                    refine W.sub [(0, _), (1, _), (2, _), (7, _), (9, _), (14, _), (15, _), (21, _), (23, _), (24, _), (26, _)] (.cons rfl (.cons rfl (.cons rfl (.cons rfl (.cons rfl (.cons rfl (.cons rfl (.cons rfl (.cons rfl (.cons rfl (.cons rfl .nil))))))))))) ?_
                    refine W.seq ?_
                    refine W.region ?_
                    refine WL.move rfl rfl ?_
                    refine WL.call Try.call35 rfl (Got_ok (RcX.of gr gm8 ms8 (livR life (i + 1))) _ _ _ _ M (by first | ((repeat (first | with_reducible exact Del.here | with_reducible apply Del.there)); done) | (repeat (first | exact Del.here | apply Del.there)))) rfl ?_
                    rintro _ w ⟨rfl, M⟩
                    refine WL.move rfl rfl ?_
                    refine WL.extractL rfl rfl rfl ?_
                    refine WL.extractL rfl rfl rfl ?_
                    refine WL.assign rfl rfl ?_
                    refine WL.assign rfl rfl ?_
                    refine WL.nil ?_
                    refine WX.next ?_
                    refine W.sub [(0, _), (1, _), (2, _), (7, _), (9, _), (14, _), (15, _), (21, _), (23, _), (24, _), (26, _), (28, _)] (.cons rfl (.cons rfl (.cons rfl (.cons rfl (.cons rfl (.cons rfl (.cons rfl (.cons rfl (.cons rfl (.cons rfl (.cons rfl (.cons rfl .nil)))))))))))) ?_
                    refine W.seq ?_
                    refine W.region ?_
                    refine WL.move rfl rfl ?_
                    refine WL.move rfl rfl ?_
                    refine WL.sub' rfl rfl (show IntKind.u64.wrap ((life : Int) - 1) = ((life - 1 : Nat) : Int) by rw [wU64 (by omega)]; omega) rfl ?_
                    refine WL.fieldR (off := 1) Try.underlying36 rfl rfl Try.sizeOf22 rfl rfl rfl ?_
                    refine WL.loadR Try.isAgg22 rfl M (by first | ((repeat (first | with_reducible exact Has.here | with_reducible refine Has.there ?_)); done) | (repeat (first | exact Has.here | refine Has.there ?_))) rfl rfl ?_
                    refine WL.buildP (places := #[(0, 1), (1, 1), (2, 1), (3, 1)]) Try.underlying36 Try.zeroValue36 (fun _ => by simp [Try.sizeOf22, Try.sizeOf22, Try.sizeOf4, Try.sizeOf34]) rfl (by repeat (first | exact Puts.nil | exact SetAt.zero | apply SetAt.succ | apply Puts.cons rfl rfl)) rfl ?_
                    refine WL.call Try.call22 rfl (HearS2 ⟨gs, B4, cB4, ps4, ⟨life, 8, 1, i + 1, i + 1, []⟩⟩ his4 (sn_ok0 hlife (by omega) (by omega)) ⟨life - 1, (el old i).seq % 100 + 1, true, ⟨none, 0, []⟩⟩ (by dsimp only; omega) _ _ _ _ M (by first | ((repeat (first | with_reducible exact Del.here | with_reducible apply Del.there)); done) | (repeat (first | exact Del.here | apply Del.there)))) rfl ?_
                    rintro _ w ⟨B9, cB9, ps9, rfl, his9, M⟩
                    dsimp only at his9 M
                    rw [show SX.key ⟨life - 1, (el old i).seq % 100 + 1, true, ⟨none, 0, []⟩⟩ = (life - 1, (el old i).seq % 100 + 1, true, []) from rfl] at his9 M ⊢
                    have he9 := hear_elder (life := life) (by omega) ⟨life, 8, 1, i + 1, i + 1, []⟩ rfl ((el old i).seq % 100 + 1)
                    rw [he9.2] at his9 M
                    rw [he9.1]
                    have ho9 : o8.length = 0 := by have := congrArg List.length ho8; simpa using this
                    refine WL.assign rfl rfl ?_
                    refine WL.nil ?_
                    refine WX.next ?_
                    refine W.sub [(0, _), (1, _), (2, _), (7, _), (9, _), (14, _), (15, _), (23, _), (24, _), (26, _), (28, _), (29, _)] (.cons rfl (.cons rfl (.cons rfl (.cons rfl (.cons rfl (.cons rfl (.cons rfl (.cons rfl (.cons rfl (.cons rfl (.cons rfl (.cons rfl .nil)))))))))))) ?_
                    refine W.seq ?_
                    refine W.region ?_
                    refine WL.move rfl rfl ?_
                    refine WL.len Try.underlying33 rfl rfl ?_
                    refine WL.neI rfl rfl rfl ?_
                    refine WL.moveIf rfl rfl (fun c13 => ?_) (fun c13 => ?_)
                    · exact absurd (by rw [ho9]; rfl) c13
                    · refine WL.on rfl rfl ?_
                      refine WL.move rfl rfl ?_
                      refine WL.on rfl rfl ?_
                      refine WL.neI rfl rfl rfl ?_
                      refine WL.pickF rfl rfl rfl ?_
                      refine WL.moveIf rfl rfl (fun c14 => ?_) (fun c14 => ?_)
                      · exact absurd rfl c14
                      · refine WL.on rfl rfl ?_
                        refine WL.move rfl rfl ?_
                        refine WL.on rfl rfl ?_
                        refine WL.move rfl rfl ?_
                        refine WL.on rfl rfl ?_
                        refine WL.neI rfl rfl rfl ?_
                        refine WL.pickF rfl rfl rfl ?_
                        refine WL.moveIf rfl rfl (fun c15 => ?_) (fun c15 => ?_)
                        · exact absurd rfl c15
                        · refine WL.on rfl rfl ?_
                          refine WL.move rfl rfl ?_
                          refine WL.on rfl rfl ?_
                          refine WL.neI rfl rfl rfl ?_
                          refine WL.pickF rfl rfl rfl ?_
                          refine WL.nil ?_
                          refine WX.next ?_
                          refine W.sub [(0, _), (1, _), (2, _), (7, _), (9, _), (14, _), (15, _), (180, _)] (.cons rfl (.cons rfl (.cons rfl (.cons rfl (.cons rfl (.cons rfl (.cons rfl (.cons rfl .nil)))))))) ?_
                          refine W.ite rfl (fun c16 => ?_) (fun c16 => ?_)
                          · exact absurd rfl c16
                          · refine W.skip ?_
                            refine WX.blockNormal ?_
                            refine WX.next ?_
                            refine W.region ?_
                            refine WL.move rfl rfl ?_
                            refine WL.add rfl rfl (by first | exact wI64 (by omega) | rfl) rfl ?_
                            refine WL.assign rfl rfl ?_
                            refine WL.nil ?_
                            refine WX.round (((i + 1, out2), (B9, cB9, ps9), (gm8, ms8), (At2, ct2))) (by (repeat' (first | exact envSub.nil | refine envSub.cons ?_ ?_)) <;> first | rfl | (refine congrArg some ?_; refine congrArg (Value.int _) ?_; first | omega | (dsimp only; omega)) | (simp; done) | (refine congrArg some ?_; dsimp only; congr 1; omega) | (simp; omega)) ⟨M.sel (by first | ((repeat (first | with_reducible exact Sel.refl | with_reducible exact Sel.nil | with_reducible exact Del.here | with_reducible apply Del.there | with_reducible apply Sel.cons | with_reducible apply Sel.drop)); done) | (repeat (first | exact Sel.refl | exact Sel.nil | exact Del.here | apply Del.there | apply Sel.cons | apply Sel.drop))), ⟨by dsimp only; omega, his9, hms8, hout2⟩⟩ (by first | omega | (dsimp only; omega))
                  · refine W.skip ?_
                    refine WX.blockNormal ?_
                    refine WX.next ?_
                    refine W.region ?_
                    refine WL.move rfl rfl ?_
                    refine WL.add rfl rfl (by first | exact wI64 (by omega) | rfl) rfl ?_
                    refine WL.assign rfl rfl ?_
                    refine WL.nil ?_
                    refine WX.round (((i + 1, out2), (B4, cB4, ps4), (gm3, ms3), (At2, ct2))) (by (repeat' (first | exact envSub.nil | refine envSub.cons ?_ ?_)) <;> first | rfl | (refine congrArg some ?_; refine congrArg (Value.int _) ?_; first | omega | (dsimp only; omega)) | (simp; done) | (refine congrArg some ?_; dsimp only; congr 1; omega) | (simp; omega)) ⟨M.sel (by first | ((repeat (first | with_reducible exact Sel.refl | with_reducible exact Sel.nil | with_reducible exact Del.here | with_reducible apply Del.there | with_reducible apply Sel.cons | with_reducible apply Sel.drop)); done) | (repeat (first | exact Sel.refl | exact Sel.nil | exact Del.here | apply Del.there | apply Sel.cons | apply Sel.drop))), ⟨by dsimp only; omega, his4, hms3, hout2⟩⟩ (by first | omega | (dsimp only; omega))
                · refine WL.off rfl rfl rfl rfl ?_
                  refine WL.off rfl rfl rfl rfl ?_
                  refine WL.off rfl rfl rfl rfl ?_
                  refine WL.off rfl rfl rfl rfl ?_
                  refine WL.off rfl rfl rfl rfl ?_
                  refine WL.off rfl rfl rfl rfl ?_
                  refine WL.off rfl rfl rfl rfl ?_
                  refine WL.pickF rfl rfl rfl ?_
                  refine WL.nil ?_
                  refine WX.next ?_
                  refine W.sub [(0, _), (1, _), (2, _), (7, _), (9, _), (14, _), (15, _), (127, _)] (.cons rfl (.cons rfl (.cons rfl (.cons rfl (.cons rfl (.cons rfl (.cons rfl (.cons rfl .nil)))))))) ?_
                  refine W.condF rfl ?_
                  refine W.skip ?_
                  refine WX.blockNormal ?_
                  refine WX.next ?_
                  refine W.region ?_
                  refine WL.move rfl rfl ?_
                  refine WL.add rfl rfl (by first | exact wI64 (by omega) | rfl) rfl ?_
                  refine WL.assign rfl rfl ?_
                  refine WL.nil ?_
                  refine WX.round (((i + 1, out2), (B4, cB4, ps4), (gm3, ms3), (At2, ct2))) (by (repeat' (first | exact envSub.nil | refine envSub.cons ?_ ?_)) <;> first | rfl | (refine congrArg some ?_; refine congrArg (Value.int _) ?_; first | omega | (dsimp only; omega)) | (simp; done) | (refine congrArg some ?_; dsimp only; congr 1; omega) | (simp; omega)) ⟨M.sel (by first | ((repeat (first | with_reducible exact Sel.refl | with_reducible exact Sel.nil | with_reducible exact Del.here | with_reducible apply Del.there | with_reducible apply Sel.cons | with_reducible apply Sel.drop)); done) | (repeat (first | exact Sel.refl | exact Sel.nil | exact Del.here | apply Del.there | apply Sel.cons | apply Sel.drop))), ⟨by dsimp only; omega, his4, hms3, hout2⟩⟩ (by first | omega | (dsimp only; omega))
            · obtain rfl : i = l.length := by omega
              rw [List.take_length] at hout
              refine W.exit ?_
              refine WX.thenExit ?_
              refine WX.thenExit ?_
              refine WX.blockHere ?_
              refine WX.next ?_
              refine W.seq ?_
              have b1 : ∀ o ∈ out, RdB w o.A o.cap o.l := fun o h => ownRd (M.starHas (f := OX.O) (by first | ((repeat (first | with_reducible exact Has.here | with_reducible refine Has.there ?_)); done) | (repeat (first | exact Has.here | refine Has.there ?_))) h)
              have hol : out.length = l.length := by have := congrArg List.length hout; simpa using this
              have hpl : ps = [] := List.map_eq_nil_iff.1 his
              refine W.region ?_
              refine WL.move rfl rfl ?_
              refine WL.move rfl rfl ?_
              refine WL.call Try.call31 rfl (SameLists_ok (by first | with_reducible assumption | with_reducible exact RdL.mem (by with_reducible assumption) M | exact M.rdL (by first | ((repeat (first | with_reducible exact Has.here | with_reducible refine Has.there ?_)); done) | (repeat (first | exact Has.here | refine Has.there ?_))) | exact RdLH.at (by assumption) (M.sel (by first | ((repeat (first | with_reducible exact Sel.refl | with_reducible exact Sel.nil | with_reducible exact Del.here | with_reducible apply Del.there | with_reducible apply Sel.cons | with_reducible apply Sel.drop)); done) | (repeat (first | exact Sel.refl | exact Sel.nil | exact Del.here | apply Del.there | apply Sel.cons | apply Sel.drop)))) | exact RdL.nil _ _ _) (h0.mem M) b1 (fun o h => (hb0 o h).mem M) (by omega)) rfl ?_
              rintro _ w ⟨rfl, m⟩
              replace M := M.call0 m; clear m
              rw [decide_eq_true hout]
              refine WL.moveIfB rfl rfl (fun c17 => ?_) (fun c17 => ?_)
              · refine WL.on rfl rfl ?_
                refine WL.move rfl rfl ?_
                refine WL.on rfl rfl ?_
                refine WL.call Try.call24 rfl (Left_ok ⟨gs, B, cB, ps, ⟨life, 8, 1, l.length, l.length, []⟩⟩ _ _ _ _ M (by first | ((repeat (first | with_reducible exact Del.here | with_reducible apply Del.there)); done) | (repeat (first | exact Del.here | apply Del.there)))) rfl ?_
                rintro _ _ ⟨rfl, rfl⟩
                refine WL.on rfl rfl ?_
                refine WL.eqI rfl rfl rfl ?_
                refine WL.pickT rfl rfl rfl ?_
                refine WL.moveIf rfl rfl (fun c18 => ?_) (fun c18 => ?_)
                · refine WL.on rfl rfl ?_
                  refine WL.call Try.call12 rfl (known7_ok _) rfl ?_
                  rintro _ w ⟨rfl, m⟩
                  replace M := M.call0 m; clear m
                  refine WL.pickT rfl rfl rfl ?_
                  refine WL.assign rfl rfl ?_
                  refine WL.nil ?_
                  refine WX.next ?_
                  refine W.sub [(6, _)] (.cons rfl .nil) ?_
                  refine W.ret ?_
                  refine WX.ret1 rfl rfl ?_
                  exact ⟨rfl, M.sel (by first | ((repeat (first | with_reducible exact Sel.refl | with_reducible exact Sel.nil | with_reducible exact Del.here | with_reducible apply Del.there | with_reducible apply Sel.cons | with_reducible apply Sel.drop)); done) | (repeat (first | exact Sel.refl | exact Sel.nil | exact Del.here | apply Del.there | apply Sel.cons | apply Sel.drop)))⟩
                · exact absurd (by rw [hpl]; rfl) c18
              · exact absurd c17 (by decide)
end Go.Proofs.Ytgaegaaaoopolaa
