/-
  Walk: TopMetered answers true.
-/
import Derived.Test.YtkdkdaljgoibaaaMet2
namespace Go.Proofs.Ytkdkdaljgoibaaa
open Go Go.RowKit Bin

theorem Seg.to_range {up N copies : Nat} {c : Int} {has : List Int} {ms : List Mv} (h : Seg up N copies c has ms) : ∀ m ∈ ms, 0 ≤ m.to_ ∧ m.to_ < (N : Int) := by
  induction h with
  | stop _ => intro m hm; cases hm
  | step h0 h1 ht hf h ih =>
    intro m hm
    rcases List.mem_cons.1 hm with rfl | hm
    · exact ⟨ht.1, ht.2.1⟩
    · exact ih m hm
theorem PlanR.to_range {up N copies : Nat} : ∀ {ps : List Pl} {ms : List Mv}, PlanR up N copies ps ms → ∀ m ∈ ms, 0 ≤ m.to_ ∧ m.to_ < (N : Int)
  | _, _, .nil, m, hm => by cases hm
  | _, _, .cons h1 h2, m, hm => by
    rcases List.mem_append.1 hm with hm | hm
    · exact h1.to_range m hm
    · exact h2.to_range m hm
/-- How long one waits. -/
theorem wait_is {len n more t : Nat} (hm : 1 ≤ more) (h1 : len ≤ n + more * t) (h2 : t = 0 ∨ n + more * (t - 1) < len) (hgt : n < len) : (len - n + more - 1) / more = t := by
  rcases h2 with rfl | h2
  · omega
  · obtain ⟨s, rfl⟩ : ∃ s, t = s + 1 := ⟨t - 1, by
      have : t ≠ 0 := by rintro rfl; omega
      omega⟩
    rw [Nat.add_sub_cancel] at h2
    rw [Nat.mul_add, Nat.mul_one] at h1
    have h3 : (s + 1) * more ≤ len - n + more - 1 := by rw [Nat.add_mul, Nat.one_mul, Nat.mul_comm]; omega
    have h4 : len - n + more - 1 < (s + 1 + 1) * more := by rw [Nat.add_mul, Nat.add_mul, Nat.one_mul, Nat.mul_comm]; omega
    exact Nat.div_eq_of_lt_le h3 h4
theorem wait_no {len n more t : Nat} (hm : 1 ≤ more) (h2 : t = 0 ∨ n + more * (t - 1) < len) (hgt : ¬ n < len) : t = 0 := by
  rcases h2 with rfl | h2
  · rfl
  · omega
set_option maxHeartbeats 8000000 in
set_option maxRecDepth 10000 in
theorem TopMetered_ok (rate burst : Int) (As : Option Addr) (cs : Nat) (sites : List Int) (up : Nat) (hup : up < 4294967296) (A : Option Addr) (cap : Nat) (raw : List PlX) (hsl : sites.length ≤ 9223372036854775807) (hrl : raw.length ≤ 9223372036854775807) (hrn : ∀ p ∈ raw, p.nodes.length ≤ 9223372036854775807) (w0 : World) (hs : RdL w0 intE As cs sites) (h : RdP w0 A cap raw) :
    Fn Try.prog 3 [.int .i64 rate, .int .i64 burst, .slice As sites.length cs, .int .u32 (up : Int), .slice A raw.length cap] w0 fun v w' => v = .bool true ∧ Mem w0 w' [] := by
  have M := Mem.refl w0
  obtain ⟨w, hw⟩ : ∃ w, w = w0 := ⟨w0, rfl⟩
  obtain ⟨r, hr, hr1, hr9⟩ : ∃ r : Nat, 1 + rate % 18446744073709551616 % 9 = (r : Int) ∧ 1 ≤ r ∧ r ≤ 9 := ⟨(1 + rate % 18446744073709551616 % 9).toNat, by omega, by omega, by omega⟩
  obtain ⟨n, hn, hn1, hn20⟩ : ∃ n : Nat, 1 + burst % 18446744073709551616 % 20 = (n : Int) ∧ 1 ≤ n ∧ n ≤ 20 := ⟨(1 + burst % 18446744073709551616 % 20).toNat, by omega, by omega, by omega⟩
  refine Fn.enter Try.func3 rfl Try.ntmps3 rfl ?_
  refine W.sub [(0, _), (1, _), (2, _), (3, _), (4, _)] (.cons rfl (.cons rfl (.cons rfl (.cons rfl (.cons rfl .nil))))) ?_
  refine W.seq ?_
  refine W.region ?_
  refine WL.assign rfl rfl ?_
  refine WL.nil ?_
  refine WX.next ?_
  refine W.sub [(0, _), (1, _), (2, _), (3, _), (4, _)] (.cons rfl (.cons rfl (.cons rfl (.cons rfl (.cons rfl .nil))))) ?_
  refine W.seq ?_
  refine W.region ?_
  refine WL.move rfl rfl ?_
  refine WL.conv Try.underlying3 Try.underlying25 rfl (by first | exact wU64 (by omega) | exact mU64 _ | rfl) rfl ?_
  refine WL.rem rfl rfl (by omega) (remN (by omega)) rfl ?_
  refine WL.conv Try.underlying25 Try.underlying3 rfl (by first | exact wI64 (by omega) | rfl) rfl ?_
  refine WL.add rfl rfl (by first | exact wI64 (by omega) | rfl) rfl ?_
  rw [hr]
  refine WL.assign rfl rfl ?_
  refine WL.nil ?_
  refine WX.next ?_
  refine W.sub [(1, _), (2, _), (3, _), (4, _), (11, _)] (.cons rfl (.cons rfl (.cons rfl (.cons rfl (.cons rfl .nil))))) ?_
  refine W.seq ?_
  refine W.region ?_
  refine WL.move rfl rfl ?_
  refine WL.conv Try.underlying3 Try.underlying25 rfl (by first | exact wU64 (by omega) | exact mU64 _ | rfl) rfl ?_
  refine WL.rem rfl rfl (by omega) (remN (by omega)) rfl ?_
  refine WL.conv Try.underlying25 Try.underlying3 rfl (by first | exact wI64 (by omega) | rfl) rfl ?_
  refine WL.add rfl rfl (by first | exact wI64 (by omega) | rfl) rfl ?_
  rw [hn]
  refine WL.assign rfl rfl ?_
  refine WL.nil ?_
  refine WX.next ?_
  refine W.sub [(2, _), (3, _), (4, _), (11, _), (12, _)] (.cons rfl (.cons rfl (.cons rfl (.cons rfl (.cons rfl .nil))))) ?_
  refine W.seq ?_
  refine W.region ?_
  refine WL.move rfl rfl ?_
  refine WL.move rfl rfl ?_
  refine WL.call Try.call4 rfl (BNew_ok r n (by omega) (by omega) _) rfl ?_
  rintro _ w ⟨g, rfl, m⟩
  replace M := M.call1 m; clear m
  refine WL.move rfl rfl ?_
  refine WL.extractL rfl rfl rfl ?_
  refine WL.extractL rfl rfl rfl ?_
  refine WL.assign rfl rfl ?_
  refine WL.assign rfl rfl ?_
  refine WL.nil ?_
  refine WX.next ?_
  refine W.sub [(2, _), (3, _), (4, _), (11, _), (12, _), (13, _), (14, _)] (.cons rfl (.cons rfl (.cons rfl (.cons rfl (.cons rfl (.cons rfl (.cons rfl .nil))))))) ?_
  refine W.seq ?_
  refine W.region ?_
  refine WL.move rfl rfl ?_
  refine WL.move rfl rfl ?_
  refine WL.call Try.call5 rfl (rightful_ok hsl hrl hrn (hs.mem M) (h.mem M)) rfl ?_
  rintro _ w ⟨B, cb, s, C, cc, l, rfl, hS, hl60, hmd, m⟩
  replace M := M.callN m; clear m
  have hF := hmd.formed (by omega)
  refine WL.move rfl rfl ?_
  refine WL.extractL rfl rfl rfl ?_
  refine WL.extractL rfl rfl rfl ?_
  refine WL.assign rfl rfl ?_
  refine WL.assign rfl rfl ?_
  refine WL.nil ?_
  refine WX.next ?_
  refine W.sub [(3, _), (11, _), (12, _), (13, _), (14, _), (15, _), (16, _)] (.cons rfl (.cons rfl (.cons rfl (.cons rfl (.cons rfl (.cons rfl (.cons rfl .nil))))))) ?_
  refine W.seq ?_
  refine W.region ?_
  refine WL.move rfl rfl ?_
  refine WL.move rfl rfl ?_
  refine WL.move rfl rfl ?_
  refine WL.call Try.call6 rfl (Plan_ok (copies := 3) hup (by omega) hS hF (M.rdL (by first | ((repeat (first | with_reducible exact Has.here | with_reducible refine Has.there ?_)); done) | (repeat (first | exact Has.here | refine Has.there ?_)))) (M.rdP (by first | ((repeat (first | with_reducible exact Has.here | with_reducible refine Has.there ?_)); done) | (repeat (first | exact Has.here | refine Has.there ?_))) (by first | ((repeat (first | with_reducible exact Has.here | with_reducible refine Has.there ?_)); done) | (repeat (first | exact Has.here | refine Has.there ?_))))) rfl ?_
  rintro _ w ⟨D, cd, ms, rfl, hpl, hml, m⟩
  replace M := M.call1 m; clear m
  have hto := hpl.to_range
  obtain ⟨qs, hmv, hFq, hql, hhe⟩ := hpl.moves (by have := hS.hi; omega) hF
  rw [List.length_map] at hql
  refine WL.move rfl rfl ?_
  refine WL.extractL rfl rfl rfl ?_
  refine WL.extractL rfl rfl rfl ?_
  refine WL.assign rfl rfl ?_
  refine WL.assign rfl rfl ?_
  refine WL.nil ?_
  refine WX.next ?_
  refine W.sub [(3, _), (11, _), (12, _), (13, _), (14, _), (15, _), (16, _), (17, _), (18, _)] (.cons rfl (.cons rfl (.cons rfl (.cons rfl (.cons rfl (.cons rfl (.cons rfl (.cons rfl (.cons rfl .nil))))))))) ?_
  refine W.seq ?_
  refine W.region ?_
  refine WL.move rfl rfl ?_
  refine WL.move rfl rfl ?_
  refine WL.call Try.call7 rfl (Apply_ok hS.hi hF hmv hto (by omega) (M.rdP (by first | ((repeat (first | with_reducible exact Has.here | with_reducible refine Has.there ?_)); done) | (repeat (first | exact Has.here | refine Has.there ?_))) (by first | ((repeat (first | with_reducible exact Has.here | with_reducible refine Has.there ?_)); done) | (repeat (first | exact Has.here | refine Has.there ?_)))) (M.rdL (by first | ((repeat (first | with_reducible exact Has.here | with_reducible refine Has.there ?_)); done) | (repeat (first | exact Has.here | refine Has.there ?_))))) rfl ?_
  rintro _ w ⟨E, ce, wl, rfl, hwq, m⟩
  replace M := M.callN m; clear m
  refine WL.move rfl rfl ?_
  refine WL.extractL rfl rfl rfl ?_
  refine WL.extractL rfl rfl rfl ?_
  refine WL.assign rfl rfl ?_
  refine WL.assign rfl rfl ?_
  refine WL.nil ?_
  refine WX.next ?_
  refine W.sub [(3, _), (11, _), (12, _), (13, _), (14, _), (15, _), (16, _), (17, _), (18, _), (19, _), (20, _)] (.cons rfl (.cons rfl (.cons rfl (.cons rfl (.cons rfl (.cons rfl (.cons rfl (.cons rfl (.cons rfl (.cons rfl (.cons rfl .nil))))))))))) ?_
  refine W.seq ?_
  refine W.seq ?_
  refine W.region ?_
  refine WL.move rfl rfl ?_
  refine WL.neI rfl rfl rfl ?_
  refine WL.moveIf rfl rfl (fun c0 => ?_) (fun c0 => ?_)
  · exact absurd rfl c0
  · refine WL.on rfl rfl ?_
    refine WL.move rfl rfl ?_
    refine WL.on rfl rfl ?_
    refine WL.neI rfl rfl rfl ?_
    refine WL.pickF rfl rfl rfl ?_
    refine WL.moveIf rfl rfl (fun c1 => ?_) (fun c1 => ?_)
    · exact absurd rfl c1
    · refine WL.on rfl rfl ?_
      refine WL.move rfl rfl ?_
      refine WL.on rfl rfl ?_
      refine WL.neI rfl rfl rfl ?_
      refine WL.pickF rfl rfl rfl ?_
      refine WL.moveIf rfl rfl (fun c2 => ?_) (fun c2 => ?_)
      · exact absurd rfl c2
      · refine WL.on rfl rfl ?_
        refine WL.move rfl rfl ?_
        refine WL.on rfl rfl ?_
        refine WL.eqNilF Try.underlying26 rfl rfl rfl ?_
        refine WL.pickF rfl rfl rfl ?_
        refine WL.nil ?_
        refine WX.next ?_
        refine W.sub [(3, _), (11, _), (12, _), (13, _), (15, _), (16, _), (17, _), (19, _), (78, _)] (.cons rfl (.cons rfl (.cons rfl (.cons rfl (.cons rfl (.cons rfl (.cons rfl (.cons rfl (.cons rfl .nil))))))))) ?_
        refine W.condF rfl ?_
        refine W.skip ?_
        refine WX.next ?_
        refine W.seq ?_
        refine W.region ?_
        refine WL.move rfl rfl ?_
        refine WL.assign rfl rfl ?_
        refine WL.nil ?_
        refine WX.next ?_
        refine W.sub [(3, _), (11, _), (12, _), (13, _), (15, _), (17, _), (19, _), (21, _)] (.cons rfl (.cons rfl (.cons rfl (.cons rfl (.cons rfl (.cons rfl (.cons rfl (.cons rfl .nil)))))))) ?_
        refine W.seq ?_
        refine W.region ?_
        refine WL.assign rfl rfl ?_
        refine WL.nil ?_
        refine WX.next ?_
        refine W.sub [(3, _), (11, _), (12, _), (13, _), (15, _), (17, _), (19, _), (21, _), (22, _)] (.cons rfl (.cons rfl (.cons rfl (.cons rfl (.cons rfl (.cons rfl (.cons rfl (.cons rfl (.cons rfl .nil))))))))) ?_
        refine W.seq ?_
        refine W.region ?_
        refine WL.assign rfl rfl ?_
        refine WL.nil ?_
        refine WX.next ?_
        refine W.sub [(3, _), (11, _), (12, _), (13, _), (15, _), (17, _), (19, _), (21, _), (22, _), (23, _)] (.cons rfl (.cons rfl (.cons rfl (.cons rfl (.cons rfl (.cons rfl (.cons rfl (.cons rfl (.cons rfl (.cons rfl .nil)))))))))) ?_
        refine W.joint (fun (z : Nat × (Option Addr × Nat × List PlX)) => [(3, .int .u32 (up : Int)), (11, .int .i64 (r : Int)), (12, .int .i64 (n : Int)), (15, .slice B s.length cb), (17, .slice D ms.length cd), (19, .slice E wl.length ce), (21, .slice z.2.1 z.2.2.2.length z.2.2.1), (23, .int .i64 (z.1 : Int))]) (fun zj w => Mem w0 w ((fun z => [Asr.lst intE B cb s, Asr.lst placeE E ce wl, Asr.star (wl.map PlX.O), Asr.lst placeE z.2.1 z.2.2.1 z.2.2.2, Asr.star (z.2.2.2.map PlX.O)]) zj) ∧ (fun z => z.2.2.2.map PlX.key = qs ∧ z.1 ≤ 1000 ∧ ms.length ≤ n + min r n * z.1 ∧ (z.1 = 0 ∨ n + min r n * (z.1 - 1) < ms.length)) zj) ?_ ?_
        · refine W.block ?_
          refine W.loop (ι := Nat × Nat × Nat × (Option Addr × Nat × List PlX)) (fun z => [(3, .int .u32 (up : Int)), (11, .int .i64 (r : Int)), (12, .int .i64 (n : Int)), (13, .pointer (some ⟨g, 0, none⟩)), (15, .slice B s.length cb), (17, .slice D ms.length cd), (19, .slice E wl.length ce), (21, .slice z.2.2.2.1 z.2.2.2.2.2.length z.2.2.2.2.1), (22, .int .i64 (z.2.1 : Int)), (23, .int .i64 (z.1 : Int))]) (fun zz w => Mem w0 w ((fun z => [Asr.row g 42 [.int .i64 (r : Int), .int .i64 (n : Int), .int .i64 (z.2.2.1 : Int)], Asr.lst intE B cb s, Asr.lst moveE D cd ms, Asr.lst placeE E ce wl, Asr.star (wl.map PlX.O), Asr.lst placeE z.2.2.2.1 z.2.2.2.2.1 z.2.2.2.2.2, Asr.star (z.2.2.2.2.2.map PlX.O)]) zz) ∧ (fun z => z.1 ≤ 800 ∧ z.2.1 ≤ ms.length ∧ z.2.2.1 ≤ n ∧ z.2.1 + z.2.2.1 = n + min r n * z.1 ∧ (z.1 = 0 ∨ n + min r n * (z.1 - 1) < ms.length) ∧ Moves (z.2.2.2.2.2.map PlX.key) (ms.drop z.2.1) qs ∧ Formed (z.2.2.2.2.2.map PlX.key) (s.length : Int)) zz) (fun z => 800 - z.1) ((0, 0, n, (C, cc, l))) (by (repeat' (first | exact envSub.nil | refine envSub.cons ?_ ?_)) <;> first | rfl | (refine congrArg some ?_; refine congrArg (Value.int _) ?_; first | omega | (dsimp only; omega)) | (simp; done) | (refine congrArg some ?_; dsimp only; congr 1; omega) | (simp; omega)) ⟨M.sel (by first | ((repeat (first | with_reducible exact Sel.refl | with_reducible exact Sel.nil | with_reducible exact Del.here | with_reducible apply Del.there | with_reducible apply Sel.cons | with_reducible apply Sel.drop)); done) | (repeat (first | exact Sel.refl | exact Sel.nil | exact Del.here | apply Del.there | apply Sel.cons | apply Sel.drop))), ⟨Nat.zero_le _, Nat.zero_le _, Nat.le_refl _, by simp, .inl rfl, hmv, hF⟩⟩ ?_
          clear M; rintro (⟨t, d, lv, Aw, cw, nl⟩) w ⟨M, ⟨ht, hd, hlv, hinv, hlate, hmw, hFw⟩⟩; dsimp only at M ht hd hlv hinv hlate hmw hFw ⊢
          refine W.sub [(3, _), (11, _), (12, _), (13, _), (15, _), (17, _), (19, _), (21, _), (22, _), (23, _)] (.cons rfl (.cons rfl (.cons rfl (.cons rfl (.cons rfl (.cons rfl (.cons rfl (.cons rfl (.cons rfl (.cons rfl .nil)))))))))) ?_
          refine W.block ?_
          refine W.joint (fun (z : Nat × Nat × (Option Addr × Nat × List PlX)) => [(3, .int .u32 (up : Int)), (11, .int .i64 (r : Int)), (12, .int .i64 (n : Int)), (13, .pointer (some ⟨g, 0, none⟩)), (15, .slice B s.length cb), (17, .slice D ms.length cd), (19, .slice E wl.length ce), (21, .slice z.2.2.1 z.2.2.2.2.length z.2.2.2.1), (22, .int .i64 (z.1 : Int)), (23, .int .i64 (t : Int))]) (fun zj w => Mem w0 w ((fun z => [Asr.row g 42 [.int .i64 (r : Int), .int .i64 (n : Int), .int .i64 (z.2.1 : Int)], Asr.lst intE B cb s, Asr.lst moveE D cd ms, Asr.lst placeE E ce wl, Asr.star (wl.map PlX.O), Asr.lst placeE z.2.2.1 z.2.2.2.1 z.2.2.2.2, Asr.star (z.2.2.2.2.map PlX.O)]) zj) ∧ (fun z => z.1 ≤ ms.length ∧ z.2.1 ≤ n ∧ z.1 + z.2.1 = n + min r n * t ∧ (z.1 = ms.length ∨ z.2.1 = 0) ∧ Moves (z.2.2.2.2.map PlX.key) (ms.drop z.1) qs ∧ Formed (z.2.2.2.2.map PlX.key) (s.length : Int)) zj) ?_ ?_
          · refine W.block ?_
            refine W.loop (ι := Nat × Nat × (Option Addr × Nat × List PlX)) (fun z => [(3, .int .u32 (up : Int)), (11, .int .i64 (r : Int)), (12, .int .i64 (n : Int)), (13, .pointer (some ⟨g, 0, none⟩)), (15, .slice B s.length cb), (17, .slice D ms.length cd), (19, .slice E wl.length ce), (21, .slice z.2.2.1 z.2.2.2.2.length z.2.2.2.1), (22, .int .i64 (z.1 : Int)), (23, .int .i64 (t : Int))]) (fun zz w => Mem w0 w ((fun z => [Asr.row g 42 [.int .i64 (r : Int), .int .i64 (n : Int), .int .i64 (z.2.1 : Int)], Asr.lst intE B cb s, Asr.lst moveE D cd ms, Asr.lst placeE E ce wl, Asr.star (wl.map PlX.O), Asr.lst placeE z.2.2.1 z.2.2.2.1 z.2.2.2.2, Asr.star (z.2.2.2.2.map PlX.O)]) zz) ∧ (fun z => z.1 ≤ ms.length ∧ z.2.1 ≤ n ∧ z.1 + z.2.1 = n + min r n * t ∧ Moves (z.2.2.2.2.map PlX.key) (ms.drop z.1) qs ∧ Formed (z.2.2.2.2.map PlX.key) (s.length : Int)) zz) (fun z => ms.length - z.1) ((d, lv, (Aw, cw, nl))) (by (repeat' (first | exact envSub.nil | refine envSub.cons ?_ ?_)) <;> first | rfl | (refine congrArg some ?_; refine congrArg (Value.int _) ?_; first | omega | (dsimp only; omega)) | (simp; done) | (refine congrArg some ?_; dsimp only; congr 1; omega) | (simp; omega)) ⟨M.sel (by first | ((repeat (first | with_reducible exact Sel.refl | with_reducible exact Sel.nil | with_reducible exact Del.here | with_reducible apply Del.there | with_reducible apply Sel.cons | with_reducible apply Sel.drop)); done) | (repeat (first | exact Sel.refl | exact Sel.nil | exact Del.here | apply Del.there | apply Sel.cons | apply Sel.drop))), ⟨hd, hlv, hinv, hmw, hFw⟩⟩ ?_
            clear M; rintro (⟨d, lv, Aw, cw, nl⟩) w ⟨M, ⟨hd, hlv, hinv, hmw, hFw⟩⟩; dsimp only at M hd hlv hinv hmw hFw ⊢
            refine W.sub [(3, _), (11, _), (12, _), (13, _), (15, _), (17, _), (19, _), (21, _), (22, _), (23, _)] (.cons rfl (.cons rfl (.cons rfl (.cons rfl (.cons rfl (.cons rfl (.cons rfl (.cons rfl (.cons rfl (.cons rfl .nil)))))))))) ?_
            refine W.seq ?_
            refine W.seq ?_
            refine W.region ?_
            refine WL.move rfl rfl ?_
            refine WL.move rfl rfl ?_
            refine WL.len Try.underlying32 rfl rfl ?_
            refine WL.lss rfl rfl rfl ?_
            refine WL.moveIf rfl rfl (fun c4 => ?_) (fun c4 => ?_)
            · refine WL.on rfl rfl ?_
              refine WL.move rfl rfl ?_
              refine WL.on rfl rfl ?_
              refine WL.call Try.call8 rfl (BTake_ok g r n lv (by omega) w0 w _ _ M (by first | ((repeat (first | with_reducible exact Del.here | with_reducible apply Del.there)); done) | (repeat (first | exact Del.here | apply Del.there)))) rfl ?_
              rintro _ w ⟨rfl, M⟩
              refine WL.pickT rfl rfl rfl ?_
              refine WL.nil ?_
              refine WX.next ?_
              refine W.sub [(3, _), (11, _), (12, _), (13, _), (15, _), (17, _), (19, _), (21, _), (22, _), (23, _), (87, _)] (.cons rfl (.cons rfl (.cons rfl (.cons rfl (.cons rfl (.cons rfl (.cons rfl (.cons rfl (.cons rfl (.cons rfl (.cons rfl .nil))))))))))) ?_
              refine W.ite rfl (fun c5 => ?_) (fun c5 => ?_)
              · have hdl : d < ms.length := by omega
                have hcd : ms.length ≤ cd := (M.rdL (E := moveE) (l := ms) (by first | ((repeat (first | with_reducible exact Has.here | with_reducible refine Has.there ?_)); done) | (repeat (first | exact Has.here | refine Has.there ?_)))).le
                obtain ⟨mv, hmv0⟩ : ∃ mv, mv = el ms d := ⟨_, rfl⟩
                have hto2 := hto mv (by rw [hmv0]; exact el_mem hdl)
                have hdrop : ms.drop d = mv :: ms.drop (d + 1) := by
                  rw [List.drop_eq_getElem_cons hdl, hmv0]
                  simp [el, hdl]
                have hcut : (ms.drop d).take (d + 1 - d) = [mv] := by rw [hdrop, show d + 1 - d = 1 by omega]; rfl
                rw [hdrop] at hmw
                obtain ⟨hmay, hmw2⟩ := hmw
                have hF3 := hFw.doM hmay hto2
                refine W.skip ?_
                refine WX.next ?_
                refine W.block ?_
                refine W.seq ?_
                refine W.region ?_
                refine WL.move rfl rfl ?_
                refine WL.move rfl rfl ?_
                refine WL.move rfl rfl ?_
                refine WL.move rfl rfl ?_
                refine WL.add rfl rfl (by first | exact wI64 (by omega) | rfl) rfl ?_
                refine WL.cutLH (m' := ([mv]).length) Try.underlying32 Try.sizeOf54 rfl rfl rfl (by omega) (by omega) (by omega) (by first | exact rfl | exact (Int.toNat_of_nonneg (by omega)).symm) (by first | exact rfl | exact (Int.toNat_of_nonneg (by omega)).symm) (by simp) rfl ?_
                refine WL.call Try.call7 rfl (Apply_ok (ms := [mv]) (qs := doM (nl.map PlX.key) mv) hS.hi hFw ⟨hmay, rfl⟩ (fun m hm => by obtain rfl : m = mv := (by simpa using hm); exact hto2) (by simp) (M.rdP (by first | ((repeat (first | with_reducible exact Has.here | with_reducible refine Has.there ?_)); done) | (repeat (first | exact Has.here | refine Has.there ?_))) (by first | ((repeat (first | with_reducible exact Has.here | with_reducible refine Has.there ?_)); done) | (repeat (first | exact Has.here | refine Has.there ?_)))) (by rw [← hcut]; exact RdL.cutAt (M.rdL (by first | ((repeat (first | with_reducible exact Has.here | with_reducible refine Has.there ?_)); done) | (repeat (first | exact Has.here | refine Has.there ?_)))) (by omega) (by omega))) rfl ?_
                rintro _ w ⟨Ax, cx, nx, rfl, hxq, m⟩
                replace M := M.callN m; clear m
                refine WL.move rfl rfl ?_
                refine WL.extractL rfl rfl rfl ?_
                refine WL.extractL rfl rfl rfl ?_
                refine WL.assign rfl rfl ?_
                refine WL.assign rfl rfl ?_
                refine WL.nil ?_
                refine WX.next ?_
                refine W.sub [(3, _), (11, _), (12, _), (13, _), (15, _), (17, _), (19, _), (22, _), (23, _), (24, _), (25, _)] (.cons rfl (.cons rfl (.cons rfl (.cons rfl (.cons rfl (.cons rfl (.cons rfl (.cons rfl (.cons rfl (.cons rfl (.cons rfl .nil))))))))))) ?_
                refine W.seq ?_
                refine W.seq ?_
                refine W.region ?_
                refine WL.move rfl rfl ?_
                refine WL.neI rfl rfl rfl ?_
                refine WL.nil ?_
                refine WX.next ?_
                refine W.sub [(3, _), (11, _), (12, _), (13, _), (15, _), (17, _), (19, _), (22, _), (23, _), (24, _), (99, _)] (.cons rfl (.cons rfl (.cons rfl (.cons rfl (.cons rfl (.cons rfl (.cons rfl (.cons rfl (.cons rfl (.cons rfl (.cons rfl .nil))))))))))) ?_
                refine W.ite rfl (fun c6 => ?_) (fun c6 => ?_)
                · exact absurd rfl c6
                · refine W.skip ?_
                  refine WX.next ?_
                  refine W.seq ?_
                  refine W.region ?_
                  refine WL.move rfl rfl ?_
                  refine WL.assign rfl rfl ?_
                  refine WL.nil ?_
                  refine WX.next ?_
                  refine W.sub [(3, _), (11, _), (12, _), (13, _), (15, _), (17, _), (19, _), (21, _), (22, _), (23, _)] (.cons rfl (.cons rfl (.cons rfl (.cons rfl (.cons rfl (.cons rfl (.cons rfl (.cons rfl (.cons rfl (.cons rfl .nil)))))))))) ?_
                  refine W.region ?_
                  refine WL.move rfl rfl ?_
                  refine WL.add rfl rfl (by first | exact wI64 (by omega) | rfl) rfl ?_
                  refine WL.assign rfl rfl ?_
                  refine WL.nil ?_
                  refine WX.blockNormal ?_
                  refine WX.round ((d + 1, lv - 1, (Ax, cx, nx))) (by (repeat' (first | exact envSub.nil | refine envSub.cons ?_ ?_)) <;> first | rfl | (refine congrArg some ?_; refine congrArg (Value.int _) ?_; first | omega | (dsimp only; omega)) | (simp; done) | (refine congrArg some ?_; dsimp only; congr 1; omega) | (simp; omega)) ⟨M.sel (by first | ((repeat (first | with_reducible exact Sel.refl | with_reducible exact Sel.nil | with_reducible exact Del.here | with_reducible apply Del.there | with_reducible apply Sel.cons | with_reducible apply Sel.drop)); done) | (repeat (first | exact Sel.refl | exact Sel.nil | exact Del.here | apply Del.there | apply Sel.cons | apply Sel.drop))), ⟨by dsimp only; omega, by dsimp only; omega, by dsimp only; omega, by dsimp only; rw [hxq]; exact hmw2, by dsimp only; rw [hxq]; exact hF3⟩⟩ (by first | omega | (dsimp only; omega))
              · refine W.exit ?_
                refine WX.thenExit ?_
                refine WX.thenExit ?_
                refine WX.blockHere ?_
                refine WX.join ((d, lv - 1, (Aw, cw, nl))) (by (repeat' (first | exact envSub.nil | refine envSub.cons ?_ ?_)) <;> first | rfl | (refine congrArg some ?_; refine congrArg (Value.int _) ?_; first | omega | (dsimp only; omega)) | (simp; done) | (refine congrArg some ?_; dsimp only; congr 1; omega) | (simp; omega)) ⟨M.sel (by first | ((repeat (first | with_reducible exact Sel.refl | with_reducible exact Sel.nil | with_reducible exact Del.here | with_reducible apply Del.there | with_reducible apply Sel.cons | with_reducible apply Sel.drop)); done) | (repeat (first | exact Sel.refl | exact Sel.nil | exact Del.here | apply Del.there | apply Sel.cons | apply Sel.drop))), ⟨hd, by dsimp only; omega, by dsimp only; omega, .inr (by dsimp only; omega), hmw, hFw⟩⟩
            · refine WL.off rfl rfl rfl rfl ?_
              refine WL.off rfl rfl rfl rfl ?_
              refine WL.pickF rfl rfl rfl ?_
              refine WL.nil ?_
              refine WX.next ?_
              refine W.sub [(3, _), (11, _), (12, _), (13, _), (15, _), (17, _), (19, _), (21, _), (22, _), (23, _), (87, _)] (.cons rfl (.cons rfl (.cons rfl (.cons rfl (.cons rfl (.cons rfl (.cons rfl (.cons rfl (.cons rfl (.cons rfl (.cons rfl .nil))))))))))) ?_
              refine W.condF rfl ?_
              refine W.exit ?_
              refine WX.thenExit ?_
              refine WX.thenExit ?_
              refine WX.blockHere ?_
              refine WX.join ((d, lv, (Aw, cw, nl))) (by (repeat' (first | exact envSub.nil | refine envSub.cons ?_ ?_)) <;> first | rfl | (refine congrArg some ?_; refine congrArg (Value.int _) ?_; first | omega | (dsimp only; omega)) | (simp; done) | (refine congrArg some ?_; dsimp only; congr 1; omega) | (simp; omega)) ⟨M.sel (by first | ((repeat (first | with_reducible exact Sel.refl | with_reducible exact Sel.nil | with_reducible exact Del.here | with_reducible apply Del.there | with_reducible apply Sel.cons | with_reducible apply Sel.drop)); done) | (repeat (first | exact Sel.refl | exact Sel.nil | exact Del.here | apply Del.there | apply Sel.cons | apply Sel.drop))), ⟨hd, hlv, hinv, .inl (by dsimp only; omega), hmw, hFw⟩⟩
          clear M; rintro (⟨d, lv, Aw, cw, nl⟩) w ⟨M, ⟨hd, hlv, hinv, hend, hmw, hFw⟩⟩; dsimp only at M hd hlv hinv hend hmw hFw ⊢
          refine W.sub [(3, _), (11, _), (12, _), (13, _), (15, _), (17, _), (19, _), (21, _), (22, _), (23, _)] (.cons rfl (.cons rfl (.cons rfl (.cons rfl (.cons rfl (.cons rfl (.cons rfl (.cons rfl (.cons rfl (.cons rfl .nil)))))))))) ?_
          have hmr : min r n * t ≤ r * t := Nat.mul_le_mul_right _ (Nat.min_le_left ..)
          have hrt : r * t ≤ 9 * 800 := Nat.mul_le_mul hr9 ht
          have hmt : 1 * t ≤ min r n * t := Nat.mul_le_mul_right _ (by omega)
          refine W.seq ?_
          refine W.seq ?_
          refine W.region ?_
          refine WL.move rfl rfl ?_
          refine WL.move rfl rfl ?_
          refine WL.move rfl rfl ?_
          refine WL.move rfl rfl ?_
          refine WL.mul rfl rfl (show IntKind.i64.wrap ((r : Int) * (t : Int)) = ((r * t : Nat) : Int) by rw [Int.natCast_mul, wI64 (by rw [← Int.natCast_mul]; omega)]) rfl ?_
          refine WL.add rfl rfl (by first | exact wI64 (by omega) | rfl) rfl ?_
          refine WL.gtr rfl rfl rfl ?_
          refine WL.nil ?_
          refine WX.next ?_
          refine W.sub [(3, _), (11, _), (12, _), (13, _), (15, _), (17, _), (19, _), (21, _), (22, _), (23, _), (109, _)] (.cons rfl (.cons rfl (.cons rfl (.cons rfl (.cons rfl (.cons rfl (.cons rfl (.cons rfl (.cons rfl (.cons rfl (.cons rfl .nil))))))))))) ?_
          refine W.ite rfl (fun c7 => ?_) (fun c7 => ?_)
          · exact absurd c7 (by omega)
          · refine W.skip ?_
            refine WX.next ?_
            refine W.seq ?_
            refine W.seq ?_
            refine W.region ?_
            refine WL.move rfl rfl ?_
            refine WL.move rfl rfl ?_
            refine WL.len Try.underlying32 rfl rfl ?_
            refine WL.eqI rfl rfl rfl ?_
            refine WL.moveIf rfl rfl (fun c8 => ?_) (fun c8 => ?_)
            · refine WL.off rfl rfl rfl rfl ?_
              refine WL.off rfl rfl rfl rfl ?_
              refine WL.pickT rfl rfl rfl ?_
              refine WL.nil ?_
              refine WX.next ?_
              refine W.sub [(3, _), (11, _), (12, _), (13, _), (15, _), (17, _), (19, _), (21, _), (22, _), (23, _), (117, _)] (.cons rfl (.cons rfl (.cons rfl (.cons rfl (.cons rfl (.cons rfl (.cons rfl (.cons rfl (.cons rfl (.cons rfl (.cons rfl .nil))))))))))) ?_
              refine W.condT rfl ?_
              refine W.exit ?_
              refine WX.thenExit ?_
              refine WX.blockPast rfl ?_
              refine WX.thenExit ?_
              refine WX.blockHere ?_
              obtain rfl : d = ms.length := by omega
              rw [List.drop_length] at hmw
              refine WX.join ((t, (Aw, cw, nl))) (by (repeat' (first | exact envSub.nil | refine envSub.cons ?_ ?_)) <;> first | rfl | (refine congrArg some ?_; refine congrArg (Value.int _) ?_; first | omega | (dsimp only; omega)) | (simp; done) | (refine congrArg some ?_; dsimp only; congr 1; omega) | (simp; omega)) ⟨M.sel (by first | ((repeat (first | with_reducible exact Sel.refl | with_reducible exact Sel.nil | with_reducible exact Del.here | with_reducible apply Del.there | with_reducible apply Sel.cons | with_reducible apply Sel.drop)); done) | (repeat (first | exact Sel.refl | exact Sel.nil | exact Del.here | apply Del.there | apply Sel.cons | apply Sel.drop))), ⟨hmw, by dsimp only; omega, by dsimp only; omega, hlate⟩⟩
            · refine WL.on rfl rfl ?_
              refine WL.move rfl rfl ?_
              refine WL.on rfl rfl ?_
              refine WL.gtr rfl rfl rfl ?_
              refine WL.pickF rfl rfl rfl ?_
              refine WL.nil ?_
              refine WX.next ?_
              refine W.sub [(3, _), (11, _), (12, _), (13, _), (15, _), (17, _), (19, _), (21, _), (22, _), (23, _), (117, _)] (.cons rfl (.cons rfl (.cons rfl (.cons rfl (.cons rfl (.cons rfl (.cons rfl (.cons rfl (.cons rfl (.cons rfl (.cons rfl .nil))))))))))) ?_
              refine W.ite rfl (fun c9 => ?_) (fun c9 => ?_)
              · exact absurd c9 (by omega)
              · refine W.skip ?_
                refine WX.next ?_
                refine W.seq ?_
                refine W.region ?_
                refine WL.move rfl rfl ?_
                refine WL.call Try.call9 rfl (BTick_ok g r n lv (by omega) (by omega) hlv w0 w _ _ M (by first | ((repeat (first | with_reducible exact Del.here | with_reducible apply Del.there)); done) | (repeat (first | exact Del.here | apply Del.there)))) rfl ?_
                rintro _ w M
                refine WL.nil ?_
                refine WX.next ?_
                refine W.sub [(3, _), (11, _), (12, _), (13, _), (15, _), (17, _), (19, _), (21, _), (22, _), (23, _)] (.cons rfl (.cons rfl (.cons rfl (.cons rfl (.cons rfl (.cons rfl (.cons rfl (.cons rfl (.cons rfl (.cons rfl .nil)))))))))) ?_
                refine W.region ?_
                refine WL.move rfl rfl ?_
                refine WL.add rfl rfl (by first | exact wI64 (by omega) | rfl) rfl ?_
                refine WL.assign rfl rfl ?_
                refine WL.nil ?_
                refine WX.blockNormal ?_
                skip
                have hlv0 : lv = 0 := by omega
                have hdl : d < ms.length := by omega
                have hms : min r n * (t + 1) = min r n * t + min r n := Nat.mul_succ ..
                have q1 : d + min n (lv + min r n) = n + min r n * (t + 1) := by omega
                have q2 : n + min r n * (t + 1 - 1) < ms.length := by rw [Nat.add_sub_cancel]; omega
                refine WX.round ((t + 1, d, min n (lv + min r n), (Aw, cw, nl))) (by (repeat' (first | exact envSub.nil | refine envSub.cons ?_ ?_)) <;> first | rfl | (refine congrArg some ?_; refine congrArg (Value.int _) ?_; first | omega | (dsimp only; omega)) | (simp; done) | (refine congrArg some ?_; dsimp only; congr 1; omega) | (simp; omega)) ⟨M.sel (by first | ((repeat (first | with_reducible exact Sel.refl | with_reducible exact Sel.nil | with_reducible exact Del.here | with_reducible apply Del.there | with_reducible apply Sel.cons | with_reducible apply Sel.drop)); done) | (repeat (first | exact Sel.refl | exact Sel.nil | exact Del.here | apply Del.there | apply Sel.cons | apply Sel.drop))), ⟨by dsimp only; omega, hd, by dsimp only; omega, q1, .inr q2, hmw, hFw⟩⟩ (by first | omega | (dsimp only; omega))
        clear M; rintro (⟨t, Aw, cw, nl⟩) w ⟨M, ⟨hnq, ht1, ht2, ht3⟩⟩; dsimp only at M hnq ht1 ht2 ht3 ⊢
        refine W.sub [(3, _), (11, _), (12, _), (15, _), (17, _), (19, _), (21, _), (23, _)] (.cons rfl (.cons rfl (.cons rfl (.cons rfl (.cons rfl (.cons rfl (.cons rfl (.cons rfl .nil)))))))) ?_
        have hmin : 1 ≤ min r n := by omega
        have hFn : Formed (nl.map PlX.key) (s.length : Int) := by rw [hnq]; exact hFq
        have hmnn : min (r : Int) (n : Int) = ((min r n : Nat) : Int) := by omega
        have hml2 : ms.length ≤ 720 := by omega
        have hnl : nl.length = l.length := by have := congrArg List.length hnq; rw [List.length_map] at this; omega
        refine W.seq ?_
        refine W.region ?_
        refine WL.assign rfl rfl ?_
        refine WL.nil ?_
        refine WX.next ?_
        refine W.sub [(3, _), (11, _), (12, _), (15, _), (17, _), (19, _), (21, _), (23, _), (26, _)] (.cons rfl (.cons rfl (.cons rfl (.cons rfl (.cons rfl (.cons rfl (.cons rfl (.cons rfl (.cons rfl .nil))))))))) ?_
        refine W.joint (fun (k : Int) => [(3, .int .u32 (up : Int)), (15, .slice B s.length cb), (19, .slice E wl.length ce), (21, .slice Aw nl.length cw), (23, .int .i64 (t : Int)), (26, .int .i64 k)]) (fun zj w => Mem w0 w ((fun _ => [Asr.lst intE B cb s, Asr.lst placeE E ce wl, Asr.star (wl.map PlX.O), Asr.lst placeE Aw cw nl, Asr.star (nl.map PlX.O)]) zj) ∧ (fun k => k = (t : Int)) zj) ?_ ?_
        · refine W.seq ?_
          refine W.region ?_
          refine WL.move rfl rfl ?_
          refine WL.len Try.underlying32 rfl rfl ?_
          refine WL.move rfl rfl ?_
          refine WL.gtr rfl rfl rfl ?_
          refine WL.nil ?_
          refine WX.next ?_
          refine W.sub [(3, _), (11, _), (12, _), (15, _), (17, _), (19, _), (21, _), (23, _), (26, _), (125, _)] (.cons rfl (.cons rfl (.cons rfl (.cons rfl (.cons rfl (.cons rfl (.cons rfl (.cons rfl (.cons rfl (.cons rfl .nil)))))))))) ?_
          refine W.ite rfl (fun c10 => ?_) (fun c10 => ?_)
          · refine W.seq ?_
            refine W.region ?_
            refine WL.move rfl rfl ?_
            refine WL.move rfl rfl ?_
            refine WL.min rfl rfl rfl ?_
            rw [hmnn]
            refine WL.assign rfl rfl ?_
            refine WL.nil ?_
            refine WX.next ?_
            refine W.sub [(3, _), (12, _), (15, _), (17, _), (19, _), (21, _), (23, _), (27, _)] (.cons rfl (.cons rfl (.cons rfl (.cons rfl (.cons rfl (.cons rfl (.cons rfl (.cons rfl .nil)))))))) ?_
            refine W.region ?_
            refine WL.move rfl rfl ?_
            refine WL.len Try.underlying32 rfl rfl ?_
            refine WL.move rfl rfl ?_
            refine WL.sub' rfl rfl (by first | exact wI64 (by omega) | rfl) rfl ?_
            refine WL.move rfl rfl ?_
            refine WL.add rfl rfl (by first | exact wI64 (by omega) | rfl) rfl ?_
            refine WL.sub' rfl rfl (by first | exact wI64 (by omega) | rfl) rfl ?_
            refine WL.move rfl rfl ?_
            refine WL.quo rfl rfl (by omega) (quoI64 (by omega)) rfl ?_
            refine WL.assign rfl rfl ?_
            refine WL.nil ?_
            refine WX.join (_) (by (repeat' (first | exact envSub.nil | refine envSub.cons ?_ ?_)) <;> first | rfl | (refine congrArg some ?_; refine congrArg (Value.int _) ?_; first | omega | (dsimp only; omega)) | (simp; done) | (refine congrArg some ?_; dsimp only; congr 1; omega) | (simp; omega)) ⟨M.sel (by first | ((repeat (first | with_reducible exact Sel.refl | with_reducible exact Sel.nil | with_reducible exact Del.here | with_reducible apply Del.there | with_reducible apply Sel.cons | with_reducible apply Sel.drop)); done) | (repeat (first | exact Sel.refl | exact Sel.nil | exact Del.here | apply Del.there | apply Sel.cons | apply Sel.drop))), (by have h1 := wait_is hmin ht2 ht3 (show n < ms.length by omega); rw [← h1, Int.natCast_ediv, show ((ms.length - n + min r n - 1 : Nat) : Int) = (ms.length : Int) - (n : Int) + ((min r n : Nat) : Int) - 1 by omega])⟩
          · refine W.skip ?_
            refine WX.join (_) (by (repeat' (first | exact envSub.nil | refine envSub.cons ?_ ?_)) <;> first | rfl | (refine congrArg some ?_; refine congrArg (Value.int _) ?_; first | omega | (dsimp only; omega)) | (simp; done) | (refine congrArg some ?_; dsimp only; congr 1; omega) | (simp; omega)) ⟨M.sel (by first | ((repeat (first | with_reducible exact Sel.refl | with_reducible exact Sel.nil | with_reducible exact Del.here | with_reducible apply Del.there | with_reducible apply Sel.cons | with_reducible apply Sel.drop)); done) | (repeat (first | exact Sel.refl | exact Sel.nil | exact Del.here | apply Del.there | apply Sel.cons | apply Sel.drop))), (by have h1 := wait_no hmin ht3 (show ¬ n < ms.length by omega); omega)⟩
        clear M; rintro (k) w ⟨M, hk⟩; dsimp only at M hk ⊢
        refine W.sub [(3, _), (15, _), (19, _), (21, _), (23, _), (26, _)] (.cons rfl (.cons rfl (.cons rfl (.cons rfl (.cons rfl (.cons rfl .nil)))))) ?_
        subst hk
        refine W.seq ?_
        refine W.region ?_
        refine WL.move rfl rfl ?_
        refine WL.move rfl rfl ?_
        refine WL.move rfl rfl ?_
        refine WL.call Try.call6 rfl (Plan_ok (copies := 3) hup (by omega) hS hFn (M.rdL (by first | ((repeat (first | with_reducible exact Has.here | with_reducible refine Has.there ?_)); done) | (repeat (first | exact Has.here | refine Has.there ?_)))) (M.rdP (by first | ((repeat (first | with_reducible exact Has.here | with_reducible refine Has.there ?_)); done) | (repeat (first | exact Has.here | refine Has.there ?_))) (by first | ((repeat (first | with_reducible exact Has.here | with_reducible refine Has.there ?_)); done) | (repeat (first | exact Has.here | refine Has.there ?_))))) rfl ?_
        rintro _ w ⟨D2, cd2, ms2, rfl, hpl2, hml3, m⟩
        replace M := M.call1 m; clear m
        have hno : ms2 = [] := PlanR.again (ms := []) (fun k hk => hhe k hk) (by rw [List.length_map]; exact hql) (by rw [← hnq]; exact hpl2)
        subst hno
        refine WL.move rfl rfl ?_
        refine WL.extractL rfl rfl rfl ?_
        refine WL.extractL rfl rfl rfl ?_
        refine WL.assign rfl rfl ?_
        refine WL.assign rfl rfl ?_
        refine WL.nil ?_
        refine WX.next ?_
        refine W.sub [(15, _), (19, _), (21, _), (23, _), (26, _), (28, _), (29, _)] (.cons rfl (.cons rfl (.cons rfl (.cons rfl (.cons rfl (.cons rfl (.cons rfl .nil))))))) ?_
        refine W.seq ?_
        refine W.region ?_
        refine WL.move rfl rfl ?_
        refine WL.move rfl rfl ?_
        refine WL.eqI rfl rfl rfl ?_
        refine WL.moveIf rfl rfl (fun c11 => ?_) (fun c11 => ?_)
        · refine WL.on rfl rfl ?_
          refine WL.move rfl rfl ?_
          refine WL.on rfl rfl ?_
          refine WL.move rfl rfl ?_
          refine WL.on rfl rfl ?_
          refine WL.call Try.call10 rfl (Same16_ok (hnq.trans hwq.symm) (by omega) (fun p hp => Nat.le_trans (hFn.len p.key (List.mem_map.2 ⟨p, hp, rfl⟩)) (by have := hS.hi; omega)) (M.rdP (by first | ((repeat (first | with_reducible exact Has.here | with_reducible refine Has.there ?_)); done) | (repeat (first | exact Has.here | refine Has.there ?_))) (by first | ((repeat (first | with_reducible exact Has.here | with_reducible refine Has.there ?_)); done) | (repeat (first | exact Has.here | refine Has.there ?_)))) (M.rdP (by first | ((repeat (first | with_reducible exact Has.here | with_reducible refine Has.there ?_)); done) | (repeat (first | exact Has.here | refine Has.there ?_))) (by first | ((repeat (first | with_reducible exact Has.here | with_reducible refine Has.there ?_)); done) | (repeat (first | exact Has.here | refine Has.there ?_))))) rfl ?_
          rintro _ w ⟨rfl, m⟩
          replace M := M.call0 m; clear m
          refine WL.pickT rfl rfl rfl ?_
          refine WL.move rfl rfl ?_
          refine WL.on rfl rfl ?_
          refine WL.move rfl rfl ?_
          refine WL.on rfl rfl ?_
          refine WL.eqI rfl rfl rfl ?_
          refine WL.pickT rfl rfl rfl ?_
          refine WL.moveIf rfl rfl (fun c13 => ?_) (fun c13 => ?_)
          · refine WL.on rfl rfl ?_
            refine WL.move rfl rfl ?_
            refine WL.on rfl rfl ?_
            refine WL.len Try.underlying32 rfl rfl ?_
            refine WL.on rfl rfl ?_
            refine WL.eqI rfl rfl rfl ?_
            refine WL.pickT rfl rfl rfl ?_
            refine WL.moveIf rfl rfl (fun c14 => ?_) (fun c14 => ?_)
            · refine WL.on rfl rfl ?_
              refine WL.move rfl rfl ?_
              refine WL.on rfl rfl ?_
              refine WL.len Try.underlying22 rfl rfl ?_
              refine WL.on rfl rfl ?_
              refine WL.gtr rfl rfl rfl ?_
              refine WL.pickT rfl rfl rfl ?_
              refine WL.assign rfl rfl ?_
              refine WL.nil ?_
              refine WX.next ?_
              refine W.sub [(10, _)] (.cons rfl .nil) ?_
              refine W.ret ?_
              refine WX.ret1 rfl rfl ?_
              exact ⟨by rw [decide_eq_true (by have := hS.lo; omega)], M.sel (by first | ((repeat (first | with_reducible exact Sel.refl | with_reducible exact Sel.nil | with_reducible exact Del.here | with_reducible apply Del.there | with_reducible apply Sel.cons | with_reducible apply Sel.drop)); done) | (repeat (first | exact Sel.refl | exact Sel.nil | exact Del.here | apply Del.there | apply Sel.cons | apply Sel.drop)))⟩
            · exact absurd rfl c14
          · exact absurd rfl c13
        · exact absurd rfl c11
end Go.Proofs.Ytkdkdaljgoibaaa
