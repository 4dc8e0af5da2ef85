/-
  Walk: seawalllaw01.BinNumbers: any number has the chapter's bytes.
-/
import Derived.Test.YtfnegfnpgjicpaaKnown01
import Derived.Test.YtfnegfnpgjicpaaOwnAll2
import Derived.Test.YtfnegfnpgjicpaaOrd
namespace Go.Proofs.Ytfnegfnpgjicpaa
open Go Go.RowKit Bin

theorem BinNumbers_ok (n : Nat) (i : Int) (x : Nat) (hn : n < 18446744073709551616) (hi : -9223372036854775808 ≤ i ∧ i ≤ 9223372036854775807) (hx : x < 4294967296) (w : World) :
    Fn Try.prog 6 [.int .u64 (n : Int), .int .i64 i, .int .u32 (x : Int)] w fun v w' => v = .bool true ∧ Mem w w' [] := by
  have p1 := put_len hn
  have p2 := put_len (zig_lt hi)
  refine Fn.enter Try.func6 rfl Try.ntmps6 rfl ?_
  refine W.sub [(0, _), (1, _), (2, _)] (.cons rfl (.cons rfl (.cons rfl .nil))) ?_
  refine W.seq ?_
  refine W.region ?_
  refine WL.assign rfl rfl ?_
  refine WL.nil ?_
  refine WX.next ?_
  refine W.sub [(0, _), (1, _), (2, _)] (.cons rfl (.cons rfl (.cons rfl .nil))) ?_
  refine W.seq ?_
  refine W.region ?_
  refine WL.move rfl rfl ?_
  refine WL.call Try.call10 rfl (PutUint_ok n hn w) rfl ?_
  rintro _ w1 ⟨A1, cap1, rfl, m1⟩
  refine WL.assign rfl rfl ?_
  refine WL.nil ?_
  refine WX.next ?_
  refine W.sub [(0, _), (1, _), (2, _), (7, _)] (.cons rfl (.cons rfl (.cons rfl (.cons rfl .nil)))) ?_
  refine W.seq ?_
  refine W.region ?_
  refine WL.move rfl rfl ?_
  refine WL.call Try.call22 rfl (PutInt_ok i hi w1) rfl ?_
  rintro _ w2 ⟨A2, cap2, rfl, m2⟩
  refine WL.assign rfl rfl ?_
  refine WL.nil ?_
  refine WX.next ?_
  refine W.sub [(0, _), (1, _), (2, _), (7, _), (8, _)] (.cons rfl (.cons rfl (.cons rfl (.cons rfl (.cons rfl .nil))))) ?_
  refine W.seq ?_
  refine W.region ?_
  refine WL.move rfl rfl ?_
  refine WL.call Try.call23 rfl (PutFixed_ok x w2 hx) rfl ?_
  rintro _ w3 ⟨A3, rfl, m3⟩
  have M3 := (m1.call m2).call m3
  refine WL.assign rfl rfl ?_
  refine WL.nil ?_
  refine WX.next ?_
  refine W.sub [(0, _), (1, _), (2, _), (7, _), (8, _), (9, _)] (.cons rfl (.cons rfl (.cons rfl (.cons rfl (.cons rfl (.cons rfl .nil)))))) ?_
  refine W.seq ?_
  refine W.region ?_
  refine WL.move rfl rfl ?_
  refine WL.move rfl rfl ?_
  refine WL.call Try.call24 rfl (refPutUint_ok n hn w3) rfl ?_
  rintro _ w4 ⟨A4, cap4, rfl, m4⟩
  have M4 := M3.call m4
  refine WL.call Try.call12 rfl (Same_ok (l1 := put n) (l2 := put n) M4.f3.rdOwnB m4.rdOwnB) rfl ?_
  rintro _ _ ⟨rfl, rfl⟩
  refine WL.moveIf rfl rfl (fun c0 => ?_) (fun c0 => ?_)
  · refine WL.on rfl rfl ?_
    refine WL.move rfl rfl ?_
    refine WL.on rfl rfl ?_
    refine WL.move rfl rfl ?_
    refine WL.on rfl rfl ?_
    refine WL.call Try.call25 rfl (refPutInt_ok i hi w4) rfl ?_
    rintro _ w5 ⟨A5, cap5, rfl, m5⟩
    have M5 := M4.call m5
    refine WL.on rfl rfl ?_
    refine WL.call Try.call12 rfl (Same_ok (l1 := put (zig i)) (l2 := put (zig i)) M5.f3.rdOwnB m5.rdOwnB) rfl ?_
    rintro _ _ ⟨rfl, rfl⟩
    refine WL.pickT rfl rfl rfl ?_
    refine WL.moveIf rfl rfl (fun c1 => ?_) (fun c1 => ?_)
    · refine WL.on rfl rfl ?_
      refine WL.move rfl rfl ?_
      refine WL.on rfl rfl ?_
      refine WL.move rfl rfl ?_
      refine WL.on rfl rfl ?_
      refine WL.call Try.call26 rfl (refPutFixed_ok x w5 hx) rfl ?_
      rintro _ w6 ⟨A6, rfl, m6⟩
      have M6 := M5.call m6
      refine WL.on rfl rfl ?_
      refine WL.call Try.call12 rfl (Same_ok (l1 := fixed x) (l2 := fixed x) (M6.f3.rdOwnB (l := fixed x)) (m6.rdOwnB (l := fixed x))) rfl ?_
      rintro _ _ ⟨rfl, rfl⟩
      refine WL.pickT rfl rfl rfl ?_
      refine WL.assign rfl rfl ?_
      refine WL.nil ?_
      refine WX.next ?_
      refine W.sub [(0, _), (1, _), (2, _), (7, _), (8, _), (9, _), (10, _)] (.cons rfl (.cons rfl (.cons rfl (.cons rfl (.cons rfl (.cons rfl (.cons rfl .nil))))))) ?_
      refine W.seq ?_
      refine W.region ?_
      refine WL.call Try.call11 rfl (known_dec w6) rfl ?_
      rintro _ w7 ⟨rfl, m7⟩
      have M7 := M6.call m7
      refine WL.moveIf rfl rfl (fun c2 => ?_) (fun c2 => ?_)
      · refine WL.on rfl rfl ?_
        refine WL.move rfl rfl ?_
        refine WL.pickT rfl rfl rfl ?_
        refine WL.moveIf rfl rfl (fun c3 => ?_) (fun c3 => ?_)
        · refine WL.on rfl rfl ?_
          refine WL.move rfl rfl ?_
          refine WL.on rfl rfl ?_
          refine WL.move rfl rfl ?_
          refine WL.on rfl rfl ?_
          refine WL.move rfl rfl ?_
          refine WL.on rfl rfl ?_
          refine WL.move rfl rfl ?_
          refine WL.on rfl rfl ?_
          refine WL.call Try.call10 rfl (PutUint_ok n hn w7) rfl ?_
          rintro _ w8 ⟨A8, cap8, rfl, m8⟩
          refine WL.on rfl rfl ?_
          refine WL.move rfl rfl ?_
          refine WL.on rfl rfl ?_
          refine WL.call Try.call22 rfl (PutInt_ok i hi w8) rfl ?_
          rintro _ w9 ⟨A9, cap9, rfl, m9⟩
          refine WL.on rfl rfl ?_
          refine WL.move rfl rfl ?_
          refine WL.on rfl rfl ?_
          refine WL.call Try.call23 rfl (PutFixed_ok x w9 hx) rfl ?_
          rintro _ w10 ⟨A10, rfl, m10⟩
          have M10 := ((M7.call m8).call m9).call m10
          refine WL.on rfl rfl ?_
          refine WL.buildS Try.elem23 M10 rfl rfl rfl (by simp [Value.oneCell']) rfl rfl ?_
          intro g w11 M11
          refine WL.on rfl rfl ?_
          refine WL.call Try.call20 rfl (Own_ok (L := []) (xs := [⟨A1, cap1, put n⟩, ⟨A2, cap2, put (zig i)⟩, ⟨A3, 4, fixed x⟩, ⟨A8, cap8, put n⟩, ⟨A9, cap9, put (zig i)⟩, ⟨A10, 4, fixed x⟩]) (M11.ord [0, 9, 8, 7, 3, 2, 1] (by decide) rfl) (by simp) (by simp [fixed]; omega)) rfl ?_
          rintro _ w12 ⟨rfl, m12⟩
          refine WL.pickT rfl rfl rfl ?_
          refine WL.assign rfl rfl ?_
          refine WL.nil ?_
          refine WX.next ?_
          refine W.sub [(6, _)] (.cons rfl .nil) ?_
          refine W.ret ?_
          refine WX.ret1 rfl rfl ?_
          exact ⟨rfl, m12⟩
        · exact absurd rfl c3
      · exact absurd trivial c2
    · exact absurd rfl c1
  · exact absurd rfl c0
end Go.Proofs.Ytfnegfnpgjicpaa
