/-
  Rules for plain operations: numbers, tests, conversions, lengths. Generic in the program.
-/
import Derived.Test.YtkdkdaljgoibaaaCore
import Derived.Laws.Small
namespace Go.Proofs.Ytkdkdaljgoibaaa
open Go

theorem wI64 {e : Int} (h : -9223372036854775808 ≤ e ∧ e ≤ 9223372036854775807) : IntKind.i64.wrap e = e := IntWalk.i64_in e h
theorem wU64 {e : Int} (h : 0 ≤ e ∧ e ≤ 18446744073709551615) : IntKind.u64.wrap e = e := IntWalk.u64_in e h
theorem wU32 {e : Int} (h : 0 ≤ e ∧ e ≤ 4294967295) : IntKind.u32.wrap e = e := IntWalk.u32_in e h
theorem wU8 {e : Int} (h : 0 ≤ e ∧ e ≤ 255) : IntKind.u8.wrap e = e := IntWalk.u8_in e h
theorem mU64 (e : Int) : IntKind.u64.wrap e = e % 18446744073709551616 := by simp [IntKind.wrap, IntKind.bits, IntKind.signed]
theorem mU32 (e : Int) : IntKind.u32.wrap e = e % 4294967296 := by simp [IntKind.wrap, IntKind.bits, IntKind.signed]
theorem mU8 (e : Int) : IntKind.u8.wrap e = e % 256 := by simp [IntKind.wrap, IntKind.bits, IntKind.signed]

section
variable {P : Program} {n : Nat} {ρ : List (Nat × Value)} {w : World} {rest : List Oper} {X : SqV P n}
variable {d : Nat} {ty : TypeId} {pos : String} {aft : Array Edge} {x y : Operand} {t t' : TypeId} {k yk : IntKind} {i j r : Int}

theorem WL.bin {op : BinOp} {u v r : Value} (hx : ev ρ x = some u) (hy : ev ρ y = some v) (hg : eqGuard op t x y u v = pure ()) (hr : (binOp op t u v).run P w = .ok r w)
    (hd : Nat.blt d n = true) (kk : X.S rest ((d, r) :: ρ) w) : X.S (⟨some d, .binOp op t x y t', ty, pos, aft, none⟩ :: rest) ρ w :=
  WL.val rfl rfl hd (fun a ha => by simp [execOp, ha.eval hx, ha.eval hy, hg, hr]) kk

theorem WL.add (hx : ev ρ x = some (.int k i)) (hy : ev ρ y = some (.int k j)) (hr : k.wrap (i + j) = r) (hd : Nat.blt d n = true)
    (kk : X.S rest ((d, .int k r) :: ρ) w) : X.S (⟨some d, .binOp .add t x y t', ty, pos, aft, none⟩ :: rest) ρ w :=
  WL.bin hx hy (eqGuard_at_int ..) (by simp [binOp_add, Op.intArith, hr]) hd kk
theorem WL.sub' (hx : ev ρ x = some (.int k i)) (hy : ev ρ y = some (.int k j)) (hr : k.wrap (i - j) = r) (hd : Nat.blt d n = true)
    (kk : X.S rest ((d, .int k r) :: ρ) w) : X.S (⟨some d, .binOp .sub t x y t', ty, pos, aft, none⟩ :: rest) ρ w :=
  WL.bin hx hy (eqGuard_at_int ..) (by simp [binOp_sub, Op.intArith, hr]) hd kk
theorem WL.mul (hx : ev ρ x = some (.int k i)) (hy : ev ρ y = some (.int k j)) (hr : k.wrap (i * j) = r) (hd : Nat.blt d n = true)
    (kk : X.S rest ((d, .int k r) :: ρ) w) : X.S (⟨some d, .binOp .mul t x y t', ty, pos, aft, none⟩ :: rest) ρ w :=
  WL.bin hx hy (eqGuard_at_int ..) (by simp [binOp_mul, Op.intArith, hr]) hd kk
theorem WL.quo (hx : ev ρ x = some (.int k i)) (hy : ev ρ y = some (.int k j)) (hj : j ≠ 0) (hr : k.wrap (i.tdiv j) = r) (hd : Nat.blt d n = true)
    (kk : X.S rest ((d, .int k r) :: ρ) w) : X.S (⟨some d, .binOp .quo t x y t', ty, pos, aft, none⟩ :: rest) ρ w :=
  WL.bin hx hy (eqGuard_at_int ..) (by simp [binOp_quo, Op.intDiv, hj, hr]) hd kk
theorem WL.rem (hx : ev ρ x = some (.int k i)) (hy : ev ρ y = some (.int k j)) (hj : j ≠ 0) (hr : i.tmod j = r) (hd : Nat.blt d n = true)
    (kk : X.S rest ((d, .int k r) :: ρ) w) : X.S (⟨some d, .binOp .rem t x y t', ty, pos, aft, none⟩ :: rest) ρ w :=
  WL.bin hx hy (eqGuard_at_int ..) (by simp [binOp_rem, Op.intDiv, hj, hr]) hd kk

theorem quoI64 (h : 0 ≤ i ∧ i ≤ 9223372036854775807 ∧ 1 ≤ j) : IntKind.i64.wrap (i.tdiv j) = i / j := IntWalk.i64_quo i j h
theorem quoU64 (h : 0 ≤ i ∧ i ≤ 18446744073709551615 ∧ 1 ≤ j) : IntKind.u64.wrap (i.tdiv j) = i / j := IntWalk.u64_quo i j h
theorem quoU32 (h : 0 ≤ i ∧ i ≤ 4294967295 ∧ 1 ≤ j) : IntKind.u32.wrap (i.tdiv j) = i / j := IntWalk.u32_quo i j h
theorem quoU8 (h : 0 ≤ i ∧ i ≤ 255 ∧ 1 ≤ j) : IntKind.u8.wrap (i.tdiv j) = i / j := IntWalk.u8_quo i j h
theorem remN (h : 0 ≤ i) : i.tmod j = i % j := IntWalk.rem_in i j h

theorem WL.lss (hx : ev ρ x = some (.int k i)) (hy : ev ρ y = some (.int k j)) (hd : Nat.blt d n = true)
    (kk : X.S rest ((d, .bool (decide (i < j))) :: ρ) w) : X.S (⟨some d, .binOp .lss t x y t', ty, pos, aft, none⟩ :: rest) ρ w :=
  WL.bin hx hy (eqGuard_at_int ..) (by simp [binOp_lss]) hd kk
theorem WL.leq (hx : ev ρ x = some (.int k i)) (hy : ev ρ y = some (.int k j)) (hd : Nat.blt d n = true)
    (kk : X.S rest ((d, .bool (decide (i ≤ j))) :: ρ) w) : X.S (⟨some d, .binOp .leq t x y t', ty, pos, aft, none⟩ :: rest) ρ w :=
  WL.bin hx hy (eqGuard_at_int ..) (by simp [binOp_leq]) hd kk
theorem WL.gtr (hx : ev ρ x = some (.int k i)) (hy : ev ρ y = some (.int k j)) (hd : Nat.blt d n = true)
    (kk : X.S rest ((d, .bool (decide (i > j))) :: ρ) w) : X.S (⟨some d, .binOp .gtr t x y t', ty, pos, aft, none⟩ :: rest) ρ w :=
  WL.bin hx hy (eqGuard_at_int ..) (by simp [binOp_gtr]) hd kk
theorem WL.geq (hx : ev ρ x = some (.int k i)) (hy : ev ρ y = some (.int k j)) (hd : Nat.blt d n = true)
    (kk : X.S rest ((d, .bool (decide (i ≥ j))) :: ρ) w) : X.S (⟨some d, .binOp .geq t x y t', ty, pos, aft, none⟩ :: rest) ρ w :=
  WL.bin hx hy (eqGuard_at_int ..) (by simp [binOp_geq]) hd kk
theorem WL.eqI (hx : ev ρ x = some (.int k i)) (hy : ev ρ y = some (.int k j)) (hd : Nat.blt d n = true)
    (kk : X.S rest ((d, .bool (decide (i = j))) :: ρ) w) : X.S (⟨some d, .binOp .eql t x y t', ty, pos, aft, none⟩ :: rest) ρ w :=
  WL.bin hx hy (eqGuard_at_int ..) (by simp only [binOp_eql, Sem.run_pure]; congr 2) hd kk
theorem WL.neI (hx : ev ρ x = some (.int k i)) (hy : ev ρ y = some (.int k j)) (hd : Nat.blt d n = true)
    (kk : X.S rest ((d, .bool (decide (i ≠ j))) :: ρ) w) : X.S (⟨some d, .binOp .neq t x y t', ty, pos, aft, none⟩ :: rest) ρ w :=
  WL.bin hx hy (eqGuard_at_int ..) (by simp only [binOp_neq, Sem.run_pure]; congr 2; by_cases h : i = j <;> simp [h]) hd kk
theorem WL.eqB {a b : Bool} (ht : P.underlying t = some .bool) (hx : ev ρ x = some (.bool a)) (hy : ev ρ y = some (.bool b)) (hd : Nat.blt d n = true)
    (kk : X.S rest ((d, .bool (decide (a = b))) :: ρ) w) : X.S (⟨some d, .binOp .eql t x y t', ty, pos, aft, none⟩ :: rest) ρ w :=
  WL.bin hx hy (eqGuard_at_bool ..) (by rw [run_eql_bool _ _ _ _ ht]; congr 2) hd kk
theorem WL.neB {a b : Bool} (ht : P.underlying t = some .bool) (hx : ev ρ x = some (.bool a)) (hy : ev ρ y = some (.bool b)) (hd : Nat.blt d n = true)
    (kk : X.S rest ((d, .bool (decide (a ≠ b))) :: ρ) w) : X.S (⟨some d, .binOp .neq t x y t', ty, pos, aft, none⟩ :: rest) ρ w :=
  WL.bin hx hy (eqGuard_at_bool ..) (by rw [run_neq_bool _ _ _ _ ht]; congr 2; cases a <;> cases b <;> rfl) hd kk

/-- A string of bytes. -/
def str (l : List UInt8) : Value := .string ⟨l.toArray⟩
theorem WL.eqS {l m : List UInt8} (hx : ev ρ x = some (str l)) (hy : ev ρ y = some (str m)) (hd : Nat.blt d n = true)
    (kk : X.S rest ((d, .bool (decide (l = m))) :: ρ) w) : X.S (⟨some d, .binOp .eql t x y t', ty, pos, aft, none⟩ :: rest) ρ w :=
  WL.bin hx hy (eqGuard_at_string ..) (by rw [str, str, binOp_string_eql]; simp only [ByteArray.toList_mk, Sem.run_pure]; congr 2; by_cases h : l = m <;> simp [h]) hd kk
theorem WL.neS {l m : List UInt8} (hx : ev ρ x = some (str l)) (hy : ev ρ y = some (str m)) (hd : Nat.blt d n = true)
    (kk : X.S rest ((d, .bool (decide (l ≠ m))) :: ρ) w) : X.S (⟨some d, .binOp .neq t x y t', ty, pos, aft, none⟩ :: rest) ρ w :=
  WL.bin hx hy (eqGuard_at_string ..) (by rw [str, str, binOp_string_neq]; simp only [ByteArray.toList_mk, Sem.run_pure]; congr 2; by_cases h : l = m <;> simp [h]) hd kk

theorem bitsAnd (k : IntKind) (a b : Nat) (ha : a < 2 ^ k.bits) (hb : b < 2 ^ k.bits) (hw : ∀ e : Int, 0 ≤ e → e < 2 ^ k.bits → k.wrap e = e) :
    bits .and k a b = ((a &&& b : Nat) : Int) := (bits_nat k k.bits (Nat.le_refl _) hw a b ha hb).1
theorem bitsOr (k : IntKind) (a b : Nat) (ha : a < 2 ^ k.bits) (hb : b < 2 ^ k.bits) (hw : ∀ e : Int, 0 ≤ e → e < 2 ^ k.bits → k.wrap e = e) :
    bits .or k a b = ((a ||| b : Nat) : Int) := (bits_nat k k.bits (Nat.le_refl _) hw a b ha hb).2
theorem bitsXor (k : IntKind) (a b : Nat) (ha : a < 2 ^ k.bits) (hb : b < 2 ^ k.bits) (hw : ∀ e : Int, 0 ≤ e → e < 2 ^ k.bits → k.wrap e = e) :
    bits .xor k a b = ((a ^^^ b : Nat) : Int) := by
  have hx : a ^^^ b < 2 ^ k.bits := Nat.xor_lt_two_pow ha hb
  have h1 : (BitVec.ofInt k.bits (a : Int)).toNat = a := by rw [BitVec.ofInt_natCast, BitVec.toNat_ofNat]; exact Nat.mod_eq_of_lt ha
  have h2 : (BitVec.ofInt k.bits (b : Int)).toNat = b := by rw [BitVec.ofInt_natCast, BitVec.toNat_ofNat]; exact Nat.mod_eq_of_lt hb
  simp only [bits, BitVec.toNat_xor, h1, h2]
  exact hw _ (by omega) (by exact_mod_cast hx)

/-- The unsigned kinds: nothing wraps below their bound. -/
theorem wrapU8 (e : Int) (h0 : 0 ≤ e) (h1 : e < 2 ^ IntKind.u8.bits) : IntKind.u8.wrap e = e := wU8 ⟨h0, by simp [IntKind.bits] at h1; omega⟩
theorem wrapU32 (e : Int) (h0 : 0 ≤ e) (h1 : e < 2 ^ IntKind.u32.bits) : IntKind.u32.wrap e = e := wU32 ⟨h0, by simp [IntKind.bits] at h1; omega⟩
theorem wrapU64 (e : Int) (h0 : 0 ≤ e) (h1 : e < 2 ^ IntKind.u64.bits) : IntKind.u64.wrap e = e := wU64 ⟨h0, by simp [IntKind.bits] at h1; omega⟩

theorem andU8 (a b : Nat) (ha : a < 256) (hb : b < 256) : bits .and .u8 a b = ((a &&& b : Nat) : Int) := bitsAnd .u8 a b ha hb wrapU8
theorem orU8 (a b : Nat) (ha : a < 256) (hb : b < 256) : bits .or .u8 a b = ((a ||| b : Nat) : Int) := bitsOr .u8 a b ha hb wrapU8
theorem xorU8 (a b : Nat) (ha : a < 256) (hb : b < 256) : bits .xor .u8 a b = ((a ^^^ b : Nat) : Int) := bitsXor .u8 a b ha hb wrapU8
theorem andU32 (a b : Nat) (ha : a < 4294967296) (hb : b < 4294967296) : bits .and .u32 a b = ((a &&& b : Nat) : Int) := bitsAnd .u32 a b ha hb wrapU32
theorem orU32 (a b : Nat) (ha : a < 4294967296) (hb : b < 4294967296) : bits .or .u32 a b = ((a ||| b : Nat) : Int) := bitsOr .u32 a b ha hb wrapU32
theorem xorU32 (a b : Nat) (ha : a < 4294967296) (hb : b < 4294967296) : bits .xor .u32 a b = ((a ^^^ b : Nat) : Int) := bitsXor .u32 a b ha hb wrapU32
theorem andU64 (a b : Nat) (ha : a < 18446744073709551616) (hb : b < 18446744073709551616) : bits .and .u64 a b = ((a &&& b : Nat) : Int) := bitsAnd .u64 a b ha hb wrapU64
theorem orU64 (a b : Nat) (ha : a < 18446744073709551616) (hb : b < 18446744073709551616) : bits .or .u64 a b = ((a ||| b : Nat) : Int) := bitsOr .u64 a b ha hb wrapU64
theorem xorU64 (a b : Nat) (ha : a < 18446744073709551616) (hb : b < 18446744073709551616) : bits .xor .u64 a b = ((a ^^^ b : Nat) : Int) := bitsXor .u64 a b ha hb wrapU64

theorem WL.band (hx : ev ρ x = some (.int k i)) (hy : ev ρ y = some (.int k j)) (hr : bits .and k i j = r) (hd : Nat.blt d n = true)
    (kk : X.S rest ((d, .int k r) :: ρ) w) : X.S (⟨some d, .binOp .and t x y t', ty, pos, aft, none⟩ :: rest) ρ w :=
  WL.bin hx hy (eqGuard_at_int ..) (by simp [binOp_and, intBits_and, hr]) hd kk
theorem WL.bor (hx : ev ρ x = some (.int k i)) (hy : ev ρ y = some (.int k j)) (hr : bits .or k i j = r) (hd : Nat.blt d n = true)
    (kk : X.S rest ((d, .int k r) :: ρ) w) : X.S (⟨some d, .binOp .or t x y t', ty, pos, aft, none⟩ :: rest) ρ w :=
  WL.bin hx hy (eqGuard_at_int ..) (by simp [binOp_or, intBits_or, hr]) hd kk
theorem WL.bxor (hx : ev ρ x = some (.int k i)) (hy : ev ρ y = some (.int k j)) (hr : bits .xor k i j = r) (hd : Nat.blt d n = true)
    (kk : X.S rest ((d, .int k r) :: ρ) w) : X.S (⟨some d, .binOp .xor t x y t', ty, pos, aft, none⟩ :: rest) ρ w :=
  WL.bin hx hy (eqGuard_at_int ..) (by simp [binOp_xor, intBits_xor, hr]) hd kk

theorem WL.shr (hx : ev ρ x = some (.int k i)) (hy : ev ρ y = some (.int yk j)) (h0 : 0 ≤ j) (h1 : j ≤ k.bits) (hr : i / 2 ^ j.toNat = r) (hd : Nat.blt d n = true)
    (kk : X.S rest ((d, .int k r) :: ρ) w) : X.S (⟨some d, .binOp .shr t x y t', ty, pos, aft, none⟩ :: rest) ρ w :=
  WL.bin hx hy (eqGuard_at_int ..) (by simp [binOp_shr, shift_shr k yk i j h0 h1, hr]) hd kk
theorem WL.shl (hx : ev ρ x = some (.int k i)) (hy : ev ρ y = some (.int yk j)) (h0 : 0 ≤ j) (h1 : j ≤ k.bits) (hr : k.wrap (i * 2 ^ j.toNat) = r) (hd : Nat.blt d n = true)
    (kk : X.S rest ((d, .int k r) :: ρ) w) : X.S (⟨some d, .binOp .shl t x y t', ty, pos, aft, none⟩ :: rest) ρ w :=
  WL.bin hx hy (eqGuard_at_int ..) (by simp [binOp_shl, shift_shl k yk i j h0 h1, hr]) hd kk

theorem WL.shrC (hx : ev ρ x = some (.int k i)) (hy : ev ρ y = some (.int yk j)) (s : Nat) (hs : j = s) (hk : Nat.ble s k.bits = true) (p : Int) (hp : p = 2 ^ s) (hd : Nat.blt d n = true)
    (kk : X.S rest ((d, .int k (i / p)) :: ρ) w) : X.S (⟨some d, .binOp .shr t x y t', ty, pos, aft, none⟩ :: rest) ρ w := by
  subst hs hp
  have := Nat.le_of_ble_eq_true hk
  exact WL.shr hx hy (by omega) (by omega) (by simp) hd kk
theorem WL.shlC (hx : ev ρ x = some (.int k i)) (hy : ev ρ y = some (.int yk j)) (s : Nat) (hs : j = s) (hk : Nat.ble s k.bits = true) (p : Int) (hp : p = 2 ^ s) (hr : k.wrap (i * p) = r) (hd : Nat.blt d n = true)
    (kk : X.S rest ((d, .int k r) :: ρ) w) : X.S (⟨some d, .binOp .shl t x y t', ty, pos, aft, none⟩ :: rest) ρ w := by
  subst hs hp
  have := Nat.le_of_ble_eq_true hk
  exact WL.shl hx hy (by omega) (by omega) (by simpa using hr) hd kk
theorem WL.not {b : Bool} (hx : ev ρ x = some (.bool b)) (hd : Nat.blt d n = true)
    (kk : X.S rest ((d, .bool (!b)) :: ρ) w) : X.S (⟨some d, .unOp .not t x, ty, pos, aft, none⟩ :: rest) ρ w :=
  WL.val rfl rfl hd (fun a ha => by simp [execOp, ha.eval hx, Op.unary]) kk
theorem WL.notP {p : Prop} [Decidable p] (hx : ev ρ x = some (.bool (decide p))) (hd : Nat.blt d n = true)
    (kk : X.S rest ((d, .bool (decide ¬ p)) :: ρ) w) : X.S (⟨some d, .unOp .not t x, ty, pos, aft, none⟩ :: rest) ρ w :=
  WL.not hx hd (by rw [← decide_not]; exact kk)
theorem WL.neg (hx : ev ρ x = some (.int k i)) (hr : k.wrap (0 - i) = r) (hd : Nat.blt d n = true)
    (kk : X.S rest ((d, .int k r) :: ρ) w) : X.S (⟨some d, .unOp .neg t x, ty, pos, aft, none⟩ :: rest) ρ w :=
  WL.val rfl rfl hd (fun a ha => by simp only [Int.zero_sub] at hr; simp [execOp, ha.eval hx, Op.unary, Op.intArith, hr]) kk

theorem WL.conv {src dst : TypeId} {kd : IntKind} {ds : TypeDesc} (hs : P.underlying src = some ds) (ht : P.underlying dst = some (.int kd)) (hx : ev ρ x = some (.int k i)) (hr : kd.wrap i = r) (hd : Nat.blt d n = true)
    (kk : X.S rest ((d, .int kd r) :: ρ) w) : X.S (⟨some d, .convert src dst x, ty, pos, aft, none⟩ :: rest) ρ w :=
  WL.val rfl rfl hd (fun a ha => by simp [execOp, ha.eval hx, convert, run_underlying hs, run_underlying ht, Conv.intToInt, hr]) kk

theorem WL.len {A : Option Addr} {m c : Nat} {t e : TypeId} (ht : P.underlying t = some (.slice e)) (hx : ev ρ x = some (.slice A m c)) (hd : Nat.blt d n = true)
    (kk : X.S rest ((d, .int .i64 (m : Int)) :: ρ) w) : X.S (⟨some d, .call ⟨.builtin .len, #[x], #[t]⟩, ty, pos, aft, none⟩ :: rest) ρ w :=
  WL.val rfl rfl hd (fun a ha => by simp [execOp, resolve, invoke, builtin, ha.eval hx, Builtin.len_, run_underlying ht, goInt]) kk
theorem WL.lenS {l : List UInt8} {t : TypeId} (ht : P.underlying t = some .string) (hx : ev ρ x = some (str l)) (hd : Nat.blt d n = true)
    (kk : X.S rest ((d, .int .i64 (l.length : Int)) :: ρ) w) : X.S (⟨some d, .call ⟨.builtin .len, #[x], #[t]⟩, ty, pos, aft, none⟩ :: rest) ρ w :=
  WL.val rfl rfl hd (fun a ha => by
    have e : (ByteArray.mk l.toArray).size = l.length := by simp [ByteArray.size]
    simp only [execOp, resolve, invoke, builtin, List.map_toArray, List.map_cons, List.map_nil, ha.eval hx, str, Sem.run_bind, Sem.run_pure, Result.andThen_ok, Builtin.len_, List.getElem?_toArray, List.getElem?_cons_zero, run_underlying ht, goInt, e]) kk
theorem WL.max {ts : Array TypeId} {k' : IntKind} (hx : ev ρ x = some (.int k i)) (hy : ev ρ y = some (.int k' j)) (hd : Nat.blt d n = true)
    (kk : X.S rest ((d, .int k (max i j)) :: ρ) w) : X.S (⟨some d, .call ⟨.builtin .max, #[x, y], ts⟩, ty, pos, aft, none⟩ :: rest) ρ w :=
  WL.val rfl rfl hd (fun a ha => by
    simp only [execOp, resolve, invoke, builtin, List.map_toArray, List.map_cons, List.map_nil, ha.eval hx, ha.eval hy, Sem.run_bind, Sem.run_pure, Result.andThen_ok, run_max_int2]
    congr 3
    split <;> omega) kk
theorem WL.min {ts : Array TypeId} {k' : IntKind} (hx : ev ρ x = some (.int k i)) (hy : ev ρ y = some (.int k' j)) (hd : Nat.blt d n = true)
    (kk : X.S rest ((d, .int k (min i j)) :: ρ) w) : X.S (⟨some d, .call ⟨.builtin .min, #[x, y], ts⟩, ty, pos, aft, none⟩ :: rest) ρ w :=
  WL.val rfl rfl hd (fun a ha => by
    simp only [execOp, resolve, invoke, builtin, List.map_toArray, List.map_cons, List.map_nil, ha.eval hx, ha.eval hy, Sem.run_bind, Sem.run_pure, Result.andThen_ok, run_min_int2]
    congr 3
    split <;> omega) kk

theorem WL.indexS {l : List UInt8} {b : UInt8} {t : TypeId} (ht : P.underlying t = some .string) (hx : ev ρ x = some (str l)) (hy : ev ρ y = some (.int k j)) (h0 : 0 ≤ j) (hb : l[j.toNat]? = some b) (hd : Nat.blt d n = true)
    (kk : X.S rest ((d, .int .u8 (b.toNat : Int)) :: ρ) w) : X.S (⟨some d, .index t x y, ty, pos, aft, none⟩ :: rest) ρ w :=
  WL.val rfl rfl hd (fun a ha => by
    have hb' : (ByteArray.mk l.toArray)[j.toNat]? = some b := by
      obtain ⟨h1, h2⟩ := List.getElem?_eq_some_iff.1 hb
      rw [getElem?_pos (ByteArray.mk l.toArray) j.toNat (by simpa [ByteArray.size] using h1)]
      exact congrArg some h2
    simp [execOp, ha.eval hx, ha.eval hy, Instr.index, run_underlying ht, asIntOf, h0, str, hb']) kk
end
end Go.Proofs.Ytkdkdaljgoibaaa
