/-
  Rules for operations on memory, what is needed being found by search. Generic in the program.
-/
import Derived.Test.YtkdkdaljgoibaaaHeap
import Derived.Test.YtkdkdaljgoibaaaDraw
namespace Go.Proofs.Ytkdkdaljgoibaaa
open Go Go.RowKit

/-- A byte of a number. -/
def u8 (e : Int) : UInt8 := UInt8.ofNat e.toNat
theorem u8_nat (b : UInt8) : u8 (b.toNat : Int) = b := by simp [u8]
theorem u8_toNat' {e : Int} (h0 : 0 ≤ e) (h1 : e < 256) : ((u8 e).toNat : Int) = e := by
  unfold u8
  rw [UInt8.toNat_ofNat']
  omega
theorem bv_u8 {e : Int} (h0 : 0 ≤ e) (h1 : e < 256) : Value.int .u8 e = bv (u8 e) := by rw [bv, u8_toNat' h0 h1]

theorem RdB.cellAt' {w : World} {A : Option Addr} {cap : Nat} {l : List UInt8} (h : RdB w A cap l) {k : Nat} (hk : k < l.length) : w.cell? (atA A k) = some (.int .u8 ((el l k).toNat : Int)) :=
  Rd.cellAt h (by rw [bs_get, el_get hk]; rfl)
theorem RdB.isSome {w : World} {A : Option Addr} {cap : Nat} {l : List UInt8} (h : RdB w A cap l) (hl : 0 < l.length) : A.isSome = true := Rd.isSome h hl
theorem RdL.isSome {α : Type} {E : Enc α} {w : World} {A : Option Addr} {cap : Nat} {l : List α} (h : RdL w E A cap l) (hl : 0 < l.length) : A.isSome = true := Rd.isSome h hl
/-- Bytes of l from i up to j. -/
def sub (l : List UInt8) (i j : Nat) : List UInt8 := (l.drop i).take (j - i)
theorem sub_length {l : List UInt8} {i j : Nat} (hij : i ≤ j) (hj : j ≤ l.length) : (sub l i j).length = j - i := by unfold sub; simp; omega
theorem RdB.sub {w : World} {A : Option Addr} {cap : Nat} {l : List UInt8} (h : RdB w A cap l) {i j : Nat} (hij : i ≤ j) (hj : j ≤ l.length) : RdB w (cutA A i 1 cap) (cap - i) (sub l i j) := by
  have := Rd.cutAt h hij hj
  unfold RdB
  rw [sub_length hij hj, Proofs.Ytkdkdaljgoibaaa.sub, ← bs_take, ← bs_drop]
  simpa using this
/-- Readable as long as L stands. -/
def RdH (w0 : World) (L : List Asr) (A : Option Addr) (cap : Nat) (l : List UInt8) : Prop := ∀ w, Mem w0 w L → RdB w A cap l
theorem RdH.at {w0 w : World} {L : List Asr} {A : Option Addr} {cap : Nat} {l : List UInt8} (h : RdH w0 L A cap l) (M : Mem w0 w L) : RdB w A cap l := h w M
def RdLH {α : Type} (w0 : World) (L : List Asr) (E : Enc α) (A : Option Addr) (cap : Nat) (l : List α) : Prop := ∀ w, Mem w0 w L → RdL w E A cap l
theorem RdLH.at {α : Type} {E : Enc α} {w0 w : World} {L : List Asr} {A : Option Addr} {cap : Nat} {l : List α} (h : RdLH w0 L E A cap l) (M : Mem w0 w L) : RdL w E A cap l := h w M
theorem cutA_zero (A : Option Addr) (size c : Nat) : cutA A 0 size c = A := by
  unfold cutA
  split
  · rfl
  · cases A <;> simp [Addr.add]

section
variable {P : Program} {n : Nat} {ρ : List (Nat × Value)} {w0 w : World} {rest : List Oper} {L L' : List Asr} {X : SqV P n} {Y : Sq P n}
variable {d : Nat} {ty : TypeId} {pos : String} {aft : Array Edge} {x y : Operand} {t e : TypeId} {k : IntKind} {i j : Int} {α : Type} {E : Enc α}

/-! ### addresses -/

theorem WL.idxA {A : Option Addr} {m c size jn : Nat} (ht : P.underlying t = some (.slice e)) (hs : ∀ w, (sizeOf e).run P w = .ok size w) (hx : ev ρ x = some (.slice A m c)) (hy : ev ρ y = some (.int k j))
    (hA : A.isSome = true) (h0 : 0 ≤ j) (h1 : j < m) (hj : j = (jn : Int)) (hd : Nat.blt d n = true)
    (kk : X.S rest ((d, .pointer (some (atA A (jn * size)))) :: ρ) w) : X.S (⟨some d, .indexAddr t x y, ty, pos, aft, none⟩ :: rest) ρ w := by
  subst hj
  rw [show jn = ((jn : Int)).toNat from rfl] at kk
  obtain ⟨ad, rfl⟩ := Option.isSome_iff_exists.1 hA
  exact WL.val rfl rfl hd (fun a ha => by simp [execOp, ha.eval hx, ha.eval hy, Instr.indexAt, run_underlying ht, asIntOf, (by omega : jn < m), hs, atA]) kk
/-- An array's element. -/
theorem WL.idxArr {ad : Addr} {m size jn : Nat} (ht : P.underlying t = some (.array m e)) (hs : ∀ w, (sizeOf e).run P w = .ok size w) (hx : ev ρ x = some (.pointer (some ad))) (hy : ev ρ y = some (.int k j))
    (h0 : 0 ≤ j) (h1 : j < m) (hj : j = (jn : Int)) (hd : Nat.blt d n = true)
    (kk : X.S rest ((d, .pointer (some (ad.add (jn * size)))) :: ρ) w) : X.S (⟨some d, .indexAddr t x y, ty, pos, aft, none⟩ :: rest) ρ w :=
  WL.val rfl rfl hd (fun a ha => by subst hj; simp [execOp, ha.eval hx, ha.eval hy, Instr.indexAt, run_underlying ht, asIntOf, (by omega : jn < m), hs, Instr.sureAddr]) kk

theorem fieldPlace_run {ad : Addr} {f : Field} {s : Nat} (hs : ∀ w, (sizeOf f.type).run P w = .ok s w) (hp : 0 < s) (w : World) : (fieldPlace ad f).run P w = .ok (ad.add f.offset) w := by
  unfold fieldPlace
  have : s ≠ 0 := by omega
  simp [hs, this]
theorem WL.fieldR {g off : Nat} {fs : Array Field} {f : Field} {fi s : Nat} (ht : P.underlying t = some (.struct fs)) (hf : fs[fi]? = some f) (hoff : f.offset = off) (hs : ∀ w, (sizeOf f.type).run P w = .ok s w) (hp : Nat.blt 0 s = true)
    (hx : ev ρ x = some (.pointer (some ⟨g, 0, none⟩))) (hd : Nat.blt d n = true)
    (kk : X.S rest ((d, .pointer (some ⟨g, off, none⟩)) :: ρ) w) : X.S (⟨some d, .fieldAddr t x fi, ty, pos, aft, none⟩ :: rest) ρ w := by
  subst hoff
  refine WL.fieldAddr ht hf hx (fun w => fieldPlace_run hs (by simpa [Nat.blt_eq] using hp) w) hd ?_
  rw [add_lit, Nat.zero_add]
  exact kk
theorem WL.fieldA {A : Option Addr} {k off : Nat} {fs : Array Field} {f : Field} {fi s : Nat} (ht : P.underlying t = some (.struct fs)) (hf : fs[fi]? = some f) (hoff : f.offset = off) (hs : ∀ w, (sizeOf f.type).run P w = .ok s w) (hp : Nat.blt 0 s = true)
    (hx : ev ρ x = some (.pointer (some (atA A k)))) (hd : Nat.blt d n = true)
    (kk : X.S rest ((d, .pointer (some (atA A (k + off)))) :: ρ) w) : X.S (⟨some d, .fieldAddr t x fi, ty, pos, aft, none⟩ :: rest) ρ w := by
  subst hoff
  refine WL.fieldAddr ht hf hx (fun w => fieldPlace_run hs (by simpa [Nat.blt_eq] using hp) w) hd ?_
  rw [atA_add]
  exact kk
theorem WL.fieldRO {g o off : Nat} {fs : Array Field} {f : Field} {fi s : Nat} (ht : P.underlying t = some (.struct fs)) (hf : fs[fi]? = some f) (hoff : f.offset = off) (hs : ∀ w, (sizeOf f.type).run P w = .ok s w) (hp : Nat.blt 0 s = true)
    (hx : ev ρ x = some (.pointer (some ⟨g, o, none⟩))) (hd : Nat.blt d n = true)
    (kk : X.S rest ((d, .pointer (some ⟨g, o + off, none⟩)) :: ρ) w) : X.S (⟨some d, .fieldAddr t x fi, ty, pos, aft, none⟩ :: rest) ρ w := by
  subst hoff
  refine WL.fieldAddr ht hf hx (fun w => fieldPlace_run hs (by simpa [Nat.blt_eq] using hp) w) hd ?_
  rw [add_lit]
  exact kk
/-- A field of a struct's value. -/
theorem WL.fieldV {cs : Array Value} {v : Value} {fs : Array Field} {f : Field} {fi : Nat} (ht : P.underlying t = some (.struct fs)) (hf : fs[fi]? = some f) (hx : ev ρ x = some (.agg cs)) (hp : ∀ w, (part f.type cs f.offset).run P w = .ok v w) (hd : Nat.blt d n = true)
    (kk : X.S rest ((d, v) :: ρ) w) : X.S (⟨some d, .field t x fi, ty, pos, aft, none⟩ :: rest) ρ w :=
  WL.val rfl rfl hd (fun a ha => by simp [execOp, ha.eval hx, Instr.field, run_underlying ht, hf, asAgg, hp]) kk

/-! ### pointers against nil -/

theorem run_equalIn_ptrNil {t u : TypeId} (a : Option Addr) (ht : P.underlying t = some (.pointer u)) (w : World) : (Op.equalIn (9999 + 1) t (.pointer a) (.pointer none)).run P w = .ok a.isNone w := by
  unfold Op.equalIn
  cases a <;> simp only [Sem.run_bind, run_underlying ht, Result.andThen_ok, Sem.run_pure, Option.isNone]
theorem WL.eqNil {a : Option Addr} {u t' : TypeId} (ht : P.underlying t = some (.pointer u)) (hx : ev ρ x = some (.pointer a)) (hy : ev ρ y = some (.pointer none)) (hd : Nat.blt d n = true)
    (kk : X.S rest ((d, .bool a.isNone) :: ρ) w) : X.S (⟨some d, .binOp .eql t x y t', ty, pos, aft, none⟩ :: rest) ρ w :=
  WL.bin hx hy (by exact eqGuard_at_pointer ..) (by
    simp only [binOp]
    simp [Op.equal, Op.maxDepth, run_equalIn_ptrNil a ht w]) hd kk
theorem WL.neNil {a : Option Addr} {u t' : TypeId} (ht : P.underlying t = some (.pointer u)) (hx : ev ρ x = some (.pointer a)) (hy : ev ρ y = some (.pointer none)) (hd : Nat.blt d n = true)
    (kk : X.S rest ((d, .bool (!a.isNone)) :: ρ) w) : X.S (⟨some d, .binOp .neq t x y t', ty, pos, aft, none⟩ :: rest) ρ w :=
  WL.bin hx hy (by exact eqGuard_at_pointer ..) (by
    simp only [binOp]
    simp [Op.equal, Op.maxDepth, run_equalIn_ptrNil a ht w]) hd kk
theorem WL.eqNilT {u t' : TypeId} (ht : P.underlying t = some (.pointer u)) (hx : ev ρ x = some (.pointer none)) (hy : ev ρ y = some (.pointer none)) (hd : Nat.blt d n = true)
    (kk : X.S rest ((d, .bool true) :: ρ) w) : X.S (⟨some d, .binOp .eql t x y t', ty, pos, aft, none⟩ :: rest) ρ w := WL.eqNil ht hx hy hd kk
theorem WL.eqNilF {ad : Addr} {u t' : TypeId} (ht : P.underlying t = some (.pointer u)) (hx : ev ρ x = some (.pointer (some ad))) (hy : ev ρ y = some (.pointer none)) (hd : Nat.blt d n = true)
    (kk : X.S rest ((d, .bool false) :: ρ) w) : X.S (⟨some d, .binOp .eql t x y t', ty, pos, aft, none⟩ :: rest) ρ w := WL.eqNil ht hx hy hd kk
theorem WL.neNilF {u t' : TypeId} (ht : P.underlying t = some (.pointer u)) (hx : ev ρ x = some (.pointer none)) (hy : ev ρ y = some (.pointer none)) (hd : Nat.blt d n = true)
    (kk : X.S rest ((d, .bool false) :: ρ) w) : X.S (⟨some d, .binOp .neq t x y t', ty, pos, aft, none⟩ :: rest) ρ w := WL.neNil ht hx hy hd kk
theorem WL.neNilT {ad : Addr} {u t' : TypeId} (ht : P.underlying t = some (.pointer u)) (hx : ev ρ x = some (.pointer (some ad))) (hy : ev ρ y = some (.pointer none)) (hd : Nat.blt d n = true)
    (kk : X.S rest ((d, .bool true) :: ρ) w) : X.S (⟨some d, .binOp .neq t x y t', ty, pos, aft, none⟩ :: rest) ρ w := WL.neNil ht hx hy hd kk

theorem WL.extractL {vs : List Value} {i : Nat} {v : Value} (hx : ev ρ x = some (.tuple vs.toArray)) (hv : vs[i]? = some v) (hd : Nat.blt d n = true)
    (k : X.S rest ((d, v) :: ρ) w) : X.S (⟨some d, .extract x i, ty, pos, aft, none⟩ :: rest) ρ w := WL.extract hx (by simpa using hv) hd k

/-! ### loads -/

/-- From a variable. -/
theorem WL.loadR {g o : Nat} {te : TypeId} {cs : List Value} {v : Value} (hA : ∀ w, (isAgg t).run P w = .ok false w) (hx : ev ρ x = some (.pointer (some ⟨g, o, none⟩))) (M : Mem w0 w L) (h : Has (Asr.row g te cs) L) (hv : cs[o]? = some v) (hd : Nat.blt d n = true)
    (kk : X.S rest ((d, v) :: ρ) w) : X.S (⟨some d, .load t x, ty, pos, aft, none⟩ :: rest) ρ w :=
  WL.load hA hx (by rw [M.cellH h, hv]) hd kk
/-- A byte. -/
theorem WL.loadB {A : Option Addr} {cap j : Nat} {l : List UInt8} (hA : ∀ w, (isAgg t).run P w = .ok false w) (hx : ev ρ x = some (.pointer (some (atA A (j * 1))))) (h : RdB w A cap l) (hj : j < l.length) (hd : Nat.blt d n = true)
    (kk : X.S rest ((d, .int .u8 ((el l j).toNat : Int)) :: ρ) w) : X.S (⟨some d, .load t x, ty, pos, aft, none⟩ :: rest) ρ w :=
  WL.load hA hx (by rw [Nat.mul_one]; exact h.cellAt' hj) hd kk
/-- A cell of a thing of a list. -/
theorem WL.loadE [Inhabited α] {A : Option Addr} {cap j o : Nat} {l : List α} {v : Value} (hA : ∀ w, (isAgg t).run P w = .ok false w) (hx : ev ρ x = some (.pointer (some (atA A (j * E.size + o))))) (h : RdL w E A cap l) (hj : j < l.length)
    (hv : (E.cells (el l j))[o]? = some v) (hd : Nat.blt d n = true) (kk : X.S rest ((d, v) :: ρ) w) : X.S (⟨some d, .load t x, ty, pos, aft, none⟩ :: rest) ρ w :=
  WL.load hA hx (h.cell hj hv) hd kk
theorem WL.loadE0 [Inhabited α] {A : Option Addr} {cap j : Nat} {l : List α} {v : Value} (hA : ∀ w, (isAgg t).run P w = .ok false w) (hx : ev ρ x = some (.pointer (some (atA A (j * E.size))))) (h : RdL w E A cap l) (hj : j < l.length)
    (hv : (E.cells (el l j))[0]? = some v) (hd : Nat.blt d n = true) (kk : X.S rest ((d, v) :: ρ) w) : X.S (⟨some d, .load t x, ty, pos, aft, none⟩ :: rest) ρ w :=
  WL.load hA hx (by have := h.cell hj hv; rwa [Nat.add_zero] at this) hd kk
/-- A whole variable. -/
theorem WL.loadW {g : Nat} {te : TypeId} {cs : List Value} {s : Nat} (hA : ∀ w, (isAgg t).run P w = .ok true w) (hs : ∀ w, (sizeOf t).run P w = .ok s w) (hx : ev ρ x = some (.pointer (some ⟨g, 0, none⟩))) (M : Mem w0 w L) (h : Has (Asr.row g te cs) L) (hl : cs.length = s) (hd : Nat.blt d n = true)
    (kk : X.S rest ((d, .agg cs.toArray) :: ρ) w) : X.S (⟨some d, .load t x, ty, pos, aft, none⟩ :: rest) ρ w := by
  subst hl
  exact WL.loadAgg hA hs hx (M.cellsH h) hd kk
/-- A whole thing of a list. -/
theorem WL.loadL [Inhabited α] {A : Option Addr} {cap j s : Nat} {l : List α} {cs : List Value} (hA : ∀ w, (isAgg t).run P w = .ok true w) (hs : ∀ w, (sizeOf t).run P w = .ok s w) (hx : ev ρ x = some (.pointer (some (atA A (j * s))))) (h : RdL w E A cap l) (hE : E.size = s) (hj : j < l.length)
    (hcs : E.cells (el l j) = cs) (hd : Nat.blt d n = true) (kk : X.S rest ((d, .agg cs.toArray) :: ρ) w) : X.S (⟨some d, .load t x, ty, pos, aft, none⟩ :: rest) ρ w := by
  subst hcs hE
  refine WL.loadAgg (cs := E.cells (el l j)) hA (by rw [E.len]; exact hs) hx (fun o v hv => ?_) hd kk
  rw [atA_add]
  exact h.cell hj hv

/-- A struct's value, part by part. -/
inductive Puts (pl : Array (Nat × Nat)) : List Nat → List Value → List Value → List Value → Prop
  | nil {cs : List Value} : Puts pl [] [] cs cs
  | cons {i : Nat} {is : List Nat} {v : Value} {vs cs cs1 cs2 : List Value} {o : Nat} (h : pl[i]? = some (o, 1)) (h1 : v.oneCell' = true) (hs : SetAt v cs o cs1) (r : Puts pl is vs cs1 cs2) : Puts pl (i :: is) (v :: vs) cs cs2
theorem Puts.fill {pl : Array (Nat × Nat)} {is : List Nat} {vs cs cs' : List Value} (h : Puts pl is vs cs cs') : Instr.fill (pl[·]?) cs.toArray (is.zip vs) = some cs'.toArray := by
  induction h with
  | nil => rfl
  | @cons i is v vs cs cs1 cs2 o h h1 hs _ ih =>
    have hv : v.cells = #[v] := by cases v <;> first | rfl | simp [Value.oneCell'] at h1
    have hlt := hs.lt
    rw [List.zip_cons_cons, Instr.fill]
    simp only [h, hv]
    rw [if_neg (by simp; omega)]
    have e : Array.foldl (fun (cs : Array Value) (x : Value × Nat) => cs.setIfInBounds (o + x.2) x.1) cs.toArray (#[v].zipIdx) = cs1.toArray := by
      simp [hs.eq]
    exact (congrArg (fun c => Instr.fill (pl[·]?) c (is.zip vs)) e).trans ih
theorem WL.buildP {parts : Array (Nat × Operand)} {fs : Array Field} {zs : List Value} {vs cells : List Value} {places : Array (Nat × Nat)} (ht : P.underlying t = some (.struct fs)) (hz : ∀ w, (zeroValue t).run P w = .ok (.agg zs.toArray) w)
    (hp : ∀ w, (fs.mapM (m := Sem) fun (f : Field) => Prod.mk f.offset <$> sizeOf f.type).run P w = .ok places w) (hx : evs ρ (parts.toList.map (·.2)) = some vs)
    (hf : Puts places (parts.toList.map (·.1)) vs zs cells) (hd : Nat.blt d n = true)
    (kk : X.S rest ((d, .agg cells.toArray) :: ρ) w) : X.S (⟨some d, .build t parts, ty, pos, aft, none⟩ :: rest) ρ w :=
  WL.build ht hz hp hx hf.fill hd kk

/-! ### stores -/

theorem WL.storeR {g o : Nat} {te : TypeId} {cs cs' : List Value} {v : Value} (hs : ∀ w, (sizeOf t).run P w = .ok 1 w) (hx : ev ρ x = some (.pointer (some ⟨g, o, none⟩))) (hy : ev ρ y = some v) (hv : v.oneCell' = true)
    (M : Mem w0 w L) (_ : Has (Asr.row g te cs) L) (hset : SetAt v cs o cs') (h : Upd (Asr.row g te cs) (Asr.row g te cs') L L') (kk : ∀ w', Mem w0 w' L' → Y.S rest ρ w') :
    Y.S (⟨none, .store t x y, ty, pos, aft, none⟩ :: rest) ρ w := by
  obtain ⟨K, h1, h2⟩ := h.perm
  refine WL.store (M.perm h1) hs hx hy hv hset.lt fun w' M' => kk w' ?_
  rw [hset.eq] at M'
  exact M'.perm h2.symm
/-- A store over a whole variable. -/
theorem WL.storeWR {g : Nat} {te : TypeId} {old new : List Value} {v : Value} {s : Nat} (hs : ∀ w, (sizeOf t).run P w = .ok s w) (hx : ev ρ x = some (.pointer (some ⟨g, 0, none⟩))) (hy : ev ρ y = some v) (hc : v.cells.toList = new)
    (hv : ∀ u ∈ new, u.oneCell' = true) (hold : old.length = s) (hsz : new.length = s) (M : Mem w0 w L) (h : Upd (Asr.row g te old) (Asr.row g te new) L L') (kk : ∀ w', Mem w0 w' L' → Y.S rest ρ w') :
    Y.S (⟨none, .store t x y, ty, pos, aft, none⟩ :: rest) ρ w := by
  subst hc
  obtain ⟨K, h1, h2⟩ := h.perm
  exact WL.storeW (M.perm h1) hs hx hy hv hold (by simpa using hsz) fun w' M' => kk w' (M'.perm h2.symm)

theorem oneNil : ∀ v ∈ ([] : List Value), v.oneCell' = true := fun _ h => by cases h
theorem oneCons {a : Value} {l : List Value} (h : a.oneCell' = true) (k : ∀ v ∈ l, v.oneCell' = true) : ∀ v ∈ a :: l, v.oneCell' = true := fun v hv => by
  rcases List.mem_cons.1 hv with rfl | hv
  · exact h
  · exact k v hv
theorem WL.storeWA {g : Nat} {te : TypeId} {old new : List Value} {s : Nat} (hs : ∀ w, (sizeOf t).run P w = .ok s w) (hx : ev ρ x = some (.pointer (some ⟨g, 0, none⟩))) (hy : ev ρ y = some (.agg new.toArray))
    (hv : ∀ u ∈ new, u.oneCell' = true) (hold : old.length = s) (hsz : new.length = s) (M : Mem w0 w L) (h : Upd (Asr.row g te old) (Asr.row g te new) L L') (kk : ∀ w', Mem w0 w' L' → Y.S rest ρ w') :
    Y.S (⟨none, .store t x y, ty, pos, aft, none⟩ :: rest) ρ w := WL.storeWR hs hx hy rfl hv hold hsz M h kk

theorem Mem.lstWrite {A : Option Addr} {cap : Nat} {l l' : List α} (M : Mem w0 w (Asr.lst E A cap l :: L)) (hl : l'.length = l.length) (hA : A.isSome = true) :
    ∃ g sp, A = some ⟨g, 0, none⟩ ∧ Mem w0 w (Asr.row g E.e (E.all l ++ sp) :: L) ∧ ∀ w', Mem w0 w' (Asr.row g E.e (E.all l' ++ sp) :: L) → Mem w0 w' (Asr.lst E A cap l' :: L) := by
  obtain ⟨g, sp, rfl, M1, hc, hm, hn, _⟩ := M.ownRow (by rintro rfl; cases hA)
  refine ⟨g, sp, rfl, M1, fun w' M' => M'.rowOwn sp rfl (E.all_length l') ?_ hm (by rw [hl]; exact hn)⟩
  rw [List.length_append, E.all_length, hl, ← E.all_length, ← List.length_append]
  exact hc
/-- A store of a cell of a thing of a list. -/
theorem WL.storeE [Inhabited α] {A : Option Addr} {cap j o : Nat} {l : List α} {x' : α} {v : Value} (hs : ∀ w, (sizeOf t).run P w = .ok 1 w) (hx : ev ρ x = some (.pointer (some (atA A (j * E.size + o))))) (hy : ev ρ y = some v) (hv : v.oneCell' = true)
    (M : Mem w0 w L) (_ : Has (Asr.lst E A cap l) L) (hj : j < l.length) (hset : SetAt v (E.cells (el l j)) o (E.cells x')) (h : Upd (Asr.lst E A cap l) (Asr.lst E A cap (l.set j x')) L L') (kk : ∀ w', Mem w0 w' L' → Y.S rest ρ w') :
    Y.S (⟨none, .store t x y, ty, pos, aft, none⟩ :: rest) ρ w := by
  obtain ⟨K, h1, h2⟩ := h.perm
  have M0 := M.perm h1
  have hlen := M0.head.1
  obtain ⟨g, sp, rfl, M1, back⟩ := M0.lstWrite (l' := l.set j x') (by simp) (ownRd M0.head |>.isSome (by omega))
  rw [atA_lit, Nat.zero_add] at hx
  have hlt := hset.lt
  rw [E.len] at hlt
  have hb : j * E.size + o < (E.all l).length := by
    rw [E.all_length]
    have : (j + 1) * E.size ≤ l.length * E.size := Nat.mul_le_mul_right _ hj
    rw [Nat.add_mul] at this
    omega
  refine WL.store M1 hs hx hy hv (by rw [List.length_append]; omega) fun w' M' => kk w' ?_
  rw [List.set_append, if_pos hb, E.all_setCell l j o x' v hj hlt hset.eq.symm] at M'
  exact (back w' M').perm h2.symm
theorem WL.storeE0 [Inhabited α] {A : Option Addr} {cap j : Nat} {l : List α} {x' : α} {v : Value} (hs : ∀ w, (sizeOf t).run P w = .ok 1 w) (hx : ev ρ x = some (.pointer (some (atA A (j * E.size))))) (hy : ev ρ y = some v) (hv : v.oneCell' = true)
    (M : Mem w0 w L) (hh : Has (Asr.lst E A cap l) L) (hj : j < l.length) (hset : SetAt v (E.cells (el l j)) 0 (E.cells x')) (h : Upd (Asr.lst E A cap l) (Asr.lst E A cap (l.set j x')) L L') (kk : ∀ w', Mem w0 w' L' → Y.S rest ρ w') :
    Y.S (⟨none, .store t x y, ty, pos, aft, none⟩ :: rest) ρ w := WL.storeE (o := 0) hs (by rw [Nat.add_zero]; exact hx) hy hv M hh hj hset h kk
/-- A store of a byte. -/
theorem WL.storeB {A : Option Addr} {cap j : Nat} {l : List UInt8} {v : Int} {te : TypeId} (hs : ∀ w, (sizeOf t).run P w = .ok 1 w) (hx : ev ρ x = some (.pointer (some (atA A (j * 1))))) (hy : ev ρ y = some (.int .u8 v)) (M : Mem w0 w L) (_ : Has (Asr.own te 1 A l.length cap (bs l)) L) (h0 : 0 ≤ v) (h1 : v < 256)
    (hj : j < l.length) (h : Upd (Asr.own te 1 A l.length cap (bs l)) (Asr.own te 1 A (l.set j (u8 v)).length cap (bs (l.set j (u8 v)))) L L') (kk : ∀ w', Mem w0 w' L' → Y.S rest ρ w') :
    Y.S (⟨none, .store t x y, ty, pos, aft, none⟩ :: rest) ρ w := by
  obtain ⟨K, h1', h2⟩ := h.perm
  have M0 := M.perm h1'
  obtain ⟨g, sp, rfl, M1, hc, hm, hn, hl⟩ := M0.ownRow (by rintro rfl; have := (ownRd M0.head).isSome (by omega); exact absurd this (by decide))
  rw [Nat.mul_one, atA_lit, Nat.zero_add] at hx
  refine WL.store M1 hs hx hy rfl (by rw [List.length_append, bs_length]; omega) fun w' M' => kk w' ?_
  rw [List.set_append, if_pos (by rw [bs_length]; exact hj), bv_u8 h0 h1, bs_set] at M'
  exact (M'.rowOwn sp rfl (by simp [bs]) (by simp [bs] at hc ⊢; omega) hm (by rw [List.length_set]; exact hn)).perm h2.symm

/-! ### new things -/

theorem foldl_sets (off : Nat) : ∀ (c : List Value) (k : Nat) (p z s : List Value), z.length = c.length → p.length = off + k →
    (c.zipIdx k).foldl (fun (cs : Array Value) (x : Value × Nat) => cs.setIfInBounds (off + x.2) x.1) (p ++ z ++ s).toArray = (p ++ c ++ s).toArray
  | [], _, p, z, s, hz, _ => by
    have : z = [] := List.eq_nil_of_length_eq_zero hz
    subst this
    rfl
  | u :: c, k, p, z, s, hz, hp => by
    cases z with
    | nil => simp at hz
    | cons z0 z =>
      rw [List.zipIdx_cons, List.foldl_cons]
      have e : (p ++ z0 :: z ++ s).toArray.setIfInBounds (off + k) u = ((p ++ [u]) ++ z ++ s).toArray := by
        rw [List.setIfInBounds_toArray, ← hp, List.append_assoc, List.set_append, if_neg (by omega)]
        simp
      have ih := foldl_sets off c (k + 1) (p ++ [u]) z s (by simpa using hz) (by simp; omega)
      simp only at e ⊢
      rw [e, ih]
      simp

theorem fill_list (s : Nat) : ∀ (vs pre zs : List Value) (k : Nat), (∀ v ∈ vs, v.cells.size = s) → zs.length = vs.length * s → pre.length = k * s →
    Instr.fill (fun i => some (i * s, s)) (pre ++ zs).toArray ((List.range' k vs.length).zip vs) = some (pre ++ vs.flatMap (·.cells.toList)).toArray
  | [], pre, zs, _, _, hz, _ => by
    have : zs = [] := List.eq_nil_of_length_eq_zero (by simpa using hz)
    subst this
    simp [Instr.fill]
  | v :: vs, pre, zs, k, hv, hz, hp => by
    have hv0 := hv v (List.mem_cons_self ..)
    have hz' : zs.length = s + vs.length * s := by rw [hz, List.length_cons, Nat.add_mul]; omega
    obtain ⟨z, zs', rfl, hzl⟩ : ∃ z zs', zs = z ++ zs' ∧ z.length = s := ⟨zs.take s, zs.drop s, (List.take_append_drop ..).symm, by rw [List.length_take]; omega⟩
    have hzs' : zs'.length = vs.length * s := by rw [List.length_append] at hz'; omega
    simp only [List.length_cons, List.range'_succ, List.zip_cons_cons, Instr.fill]
    rw [if_neg (by simp only [hv0, ne_eq, not_true_eq_false, decide_false, Bool.false_or, decide_eq_true_eq, List.size_toArray, List.length_append]; omega)]
    have e : Array.foldl (fun (cs : Array Value) (x : Value × Nat) => cs.setIfInBounds (k * s + x.2) x.1) (pre ++ (z ++ zs')).toArray v.cells.zipIdx = (pre ++ v.cells.toList ++ zs').toArray := by
      rw [← Array.foldl_toList, Array.toList_zipIdx, ← List.append_assoc]
      exact foldl_sets (k * s) v.cells.toList 0 pre z zs' (by rw [hzl]; simp [hv0]) (by rw [hp]; rfl)
    have ih := fill_list s vs (pre ++ v.cells.toList) zs' (k + 1) (fun u hu => hv u (List.mem_cons_of_mem _ hu)) hzs' (by rw [List.length_append, hp, Nat.add_mul]; simp [hv0])
    refine Eq.trans (congrArg (fun cs => Instr.fill (fun i => some (i * s, s)) cs ((List.range' (k + 1) vs.length).zip vs)) e) ?_
    rw [ih]
    simp

/-- A slice literal of things. -/
theorem WL.buildL {parts : Array (Nat × Operand)} {len : Nat} {vs : List Value} {l : List α} {bytes : Nat} (T : Elem P t E.e E.size bytes) (M : Mem w0 w L) (hxs : evs ρ (parts.toList.map (·.2)) = some vs)
    (hp : parts.toList = (List.range' 0 (parts.toList.map (·.2)).length).zip (parts.toList.map (·.2))) (hv : vs.map (·.cells.toList) = l.map E.cells) (hlen : len = l.length) (hl : Nat.ble (len * E.size) 100000 = true) (hd : Nat.blt d n = true)
    (kk : ∀ g w', Mem w0 w' (Asr.lst E (some ⟨g, 0, none⟩) len l :: L) → Y.S rest ((d, .slice (some ⟨g, 0, none⟩) len len) :: ρ) w') :
    Y.S (⟨some d, .buildSlice t len parts, ty, pos, aft, none⟩ :: rest) ρ w := by
  subst hlen
  obtain ⟨inf, z, hi, hz, hsz, hby, hzs⟩ := T.info
  have hl' : l.length * E.size ≤ 100000 := Nat.le_of_ble_eq_true hl
  have hpos := E.pos
  have hll : l.length ≤ l.length * E.size := Nat.le_mul_of_pos_right _ hpos
  have hvl : vs.length = l.length := by simpa using congrArg List.length hv
  have hall : vs.flatMap (·.cells.toList) = E.all l := by rw [List.flatMap_def, hv, Enc.all, List.flatMap_def]
  have hcs : ∀ v ∈ vs, v.cells.size = E.size := by
    intro v hv'
    have h1 : v.cells.toList ∈ vs.map (·.cells.toList) := List.mem_map_of_mem hv'
    rw [hv] at h1
    obtain ⟨a, _, ha⟩ := List.mem_map.1 h1
    rw [← Array.length_toList, ← ha, E.len]
  have M1 := M.alloc (.cells (E.all l).toArray E.e)
  have M2 : Mem w0 _ (Asr.lst E (some ⟨w.heap.size, 0, none⟩) l.length l :: L) :=
    Mem.rowOwn (g := w.heap.size) (cs := E.all l) (vs := E.all l) M1 [] (by simp) (E.all_length l) (by rw [List.append_nil, E.all_length]) (by simp only [maxLen]; omega) (Nat.le_refl _)
  refine WL.valW (v := .slice (some ⟨w.heap.size, 0, none⟩) l.length l.length) (w' := w.alloc (.cells (E.all l).toArray E.e)) rfl rfl hd (fun a ha => ?_) (kk _ _ M2)
  have hev := ha.evals hxs
  have hparts : parts.toList.map (fun (x : Nat × Operand) => (x.1, a.eval x.2)) = (List.range' 0 vs.length).zip vs := by
    rw [hp, ← hev]
    simp [List.zip_map_right]
  have hf := fill_list E.size vs [] (((Array.range (l.length * E.size)).map fun (i : Nat) => (if l.length * E.size = 0 then (#[] : Array Value) else z.cells)[i % (if l.length * E.size = 0 then (#[] : Array Value) else z.cells).size]!).toList) 0 hcs (by simp [hvl]) (by simp)
  simp only [List.nil_append, Array.toArray_toList] at hf
  rw [hall] at hf
  simp only [execOp, Instr.buildSlice, run_underlying T.und, Sem.run_bind, Result.andThen_ok, sizeOf, typeInfo, run_program, hi, Sem.run_pure, hsz, Sem.run_ite]
  rw [if_neg (by omega)]
  by_cases h0 : l.length * E.size = 0
  · have hl0 : l = [] := List.eq_nil_of_length_eq_zero (by omega)
    subst hl0
    have hv0 : vs = [] := List.eq_nil_of_length_eq_zero hvl
    subst hv0
    have hp0 : parts = #[] := by simpa using hev
    subst hp0
    simp [Instr.fill, newRow, Enc.all, Array.range_zero']
  · simp only [h0, if_false] at hf ⊢
    simp [zeroValue, typeInfo, hi, hz, hparts, hf, newRow]

/-- append of things. -/
theorem WL.appendL {A A' : Option Addr} {cap c m m0 : Nat} {l news : List α} {bytes : Nat} (T : Elem P t E.e E.size bytes) (hx : ev ρ x = some (.slice A m0 cap)) (hy : ev ρ y = some (.slice A' m c))
    (M : Mem w0 w L) (h : Del (Asr.lst E A cap l) L L') (R : RdL w E A' c news) (hm0 : m0 = l.length) (hm : m = news.length) (hb : (l.length + news.length) * bytes ≤ 140737488355328) (hn : l.length + news.length ≤ maxLen) (hd : Nat.blt d n = true)
    (kk : ∀ A2 cap2 w', Mem w0 w' (Asr.lst E A2 cap2 (l ++ news) :: L') → Y.S rest ((d, .slice A2 (l ++ news).length cap2) :: ρ) w') :
    Y.S (⟨some d, .call ⟨.builtin .append, #[x, y], #[t, t]⟩, ty, pos, aft, none⟩ :: rest) ρ w := by
  subst hm hm0
  refine WL.append T hx hy (M.del h) R (E.all_one _) hb hn hd fun A2 cap2 w' M' => ?_
  have := kk A2 cap2 w' (by
    unfold Asr.lst
    rw [E.all_append, List.length_append]
    exact M')
  rwa [List.length_append] at this
/-- append to nil. -/
theorem WL.appendL0 {A' : Option Addr} {c m : Nat} {news : List α} {bytes : Nat} (T : Elem P t E.e E.size bytes) (hx : ev ρ x = some (.slice none 0 0)) (hy : ev ρ y = some (.slice A' m c))
    (M : Mem w0 w L) (R : RdL w E A' c news) (hm : m = news.length) (hb : news.length * bytes ≤ 140737488355328) (hn : news.length ≤ maxLen) (hd : Nat.blt d n = true)
    (kk : ∀ A2 cap2 w', Mem w0 w' (Asr.lst E A2 cap2 news :: L) → Y.S rest ((d, .slice A2 news.length cap2) :: ρ) w') :
    Y.S (⟨some d, .call ⟨.builtin .append, #[x, y], #[t, t]⟩, ty, pos, aft, none⟩ :: rest) ρ w :=
  WL.appendL (l := []) T hx hy (M.nilOwn E.e E.size) .here R rfl hm (by simpa using hb) (by simpa using hn) hd (by simpa using kk)
/-- append of bytes. -/
theorem WL.appendBH {A A' : Option Addr} {m cap m' c : Nat} {l news : List UInt8} (T : Elem P t e 1 1) (hx : ev ρ x = some (.slice A m cap)) (hy : ev ρ y = some (.slice A' m' c))
    (M : Mem w0 w L) (h : Del (Asr.own e 1 A l.length cap (bs l)) L L') (R : RdB w A' c news) (hl : m = l.length) (hn : m' = news.length) (hb : l.length + news.length ≤ 140737488355328) (hd : Nat.blt d n = true)
    (kk : ∀ A2 cap2 w', Mem w0 w' (Asr.own e 1 A2 (l ++ news).length cap2 (bs (l ++ news)) :: L') → Y.S rest ((d, .slice A2 (l ++ news).length cap2) :: ρ) w') :
    Y.S (⟨some d, .call ⟨.builtin .append, #[x, y], #[t, t]⟩, ty, pos, aft, none⟩ :: rest) ρ w := by
  subst hl
  exact WL.appendB T hx hy (M.del h) R rfl hn hb hd kk
theorem WL.appendB0 {A' : Option Addr} {m' c : Nat} {news : List UInt8} (T : Elem P t e 1 1) (hx : ev ρ x = some (.slice none 0 0)) (hy : ev ρ y = some (.slice A' m' c))
    (M : Mem w0 w L) (R : RdB w A' c news) (hn : m' = news.length) (hb : news.length ≤ 140737488355328) (hd : Nat.blt d n = true)
    (kk : ∀ A2 cap2 w', Mem w0 w' (Asr.own e 1 A2 news.length cap2 (bs news) :: L) → Y.S rest ((d, .slice A2 news.length cap2) :: ρ) w') :
    Y.S (⟨some d, .call ⟨.builtin .append, #[x, y], #[t, t]⟩, ty, pos, aft, none⟩ :: rest) ρ w :=
  WL.appendBH (l := []) T hx hy (M.nilOwn e 1) .here R rfl hn (by simpa using hb) hd (by simpa using kk)
/-- append to an empty literal. -/
theorem WL.appendBN {A A' : Option Addr} {m cap m' c : Nat} {news : List UInt8} (T : Elem P t e 1 1) (hx : ev ρ x = some (.slice A m cap)) (hy : ev ρ y = some (.slice A' m' c))
    (M : Mem w0 w L) (h : Del (Asr.own e 1 A ([] : List UInt8).length cap (bs [])) L L') (R : RdB w A' c news) (hl : m = ([] : List UInt8).length) (hn : m' = news.length) (hb : news.length ≤ 140737488355328) (hd : Nat.blt d n = true)
    (kk : ∀ A2 cap2 w', Mem w0 w' (Asr.own e 1 A2 news.length cap2 (bs news) :: L') → Y.S rest ((d, .slice A2 news.length cap2) :: ρ) w') :
    Y.S (⟨some d, .call ⟨.builtin .append, #[x, y], #[t, t]⟩, ty, pos, aft, none⟩ :: rest) ρ w :=
  WL.appendBH (l := []) T hx hy M h R hl hn (by simpa using hb) hd kk
theorem WL.appendLN {A A' : Option Addr} {cap c m m0 : Nat} {news : List α} {bytes : Nat} (T : Elem P t E.e E.size bytes) (hx : ev ρ x = some (.slice A m0 cap)) (hy : ev ρ y = some (.slice A' m c))
    (M : Mem w0 w L) (h : Del (Asr.lst E A cap ([] : List α)) L L') (R : RdL w E A' c news) (hm0 : m0 = 0) (hm : m = news.length) (hb : news.length * bytes ≤ 140737488355328) (hn : news.length ≤ maxLen) (hd : Nat.blt d n = true)
    (kk : ∀ A2 cap2 w', Mem w0 w' (Asr.lst E A2 cap2 news :: L') → Y.S rest ((d, .slice A2 news.length cap2) :: ρ) w') :
    Y.S (⟨some d, .call ⟨.builtin .append, #[x, y], #[t, t]⟩, ty, pos, aft, none⟩ :: rest) ρ w :=
  WL.appendL (l := []) T hx hy M h R (by simpa using hm0) hm (by simpa using hb) (by simpa using hn) hd kk

/-- Numbers, as bytes. -/
inductive BytesOf : List Int → List UInt8 → Prop
  | nil : BytesOf [] []
  | nat {b : UInt8} {es : List Int} {l : List UInt8} : BytesOf es l → BytesOf ((b.toNat : Int) :: es) (b :: l)
  | lit {b : UInt8} {e : Int} {es : List Int} {l : List UInt8} (h : e = (b.toNat : Int)) : BytesOf es l → BytesOf (e :: es) (b :: l)
  | any {e : Int} {es : List Int} {l : List UInt8} (h : 0 ≤ e ∧ e < 256) : BytesOf es l → BytesOf (e :: es) (u8 e :: l)
theorem BytesOf.bs {es : List Int} {l : List UInt8} (h : BytesOf es l) : es.map (Value.int .u8) = bs l := by
  induction h with
  | nil => rfl
  | nat _ ih => rw [List.map_cons, ih]; rfl
  | lit h _ ih => rw [List.map_cons, ih, h]; rfl
  | any h _ ih => rw [List.map_cons, ih, bv_u8 h.1 h.2]; rfl
/-- A slice literal of bytes. -/
theorem WL.buildB {parts : Array (Nat × Operand)} {len : Nat} {es : List Int} {l : List UInt8} (T : Elem P t e 1 1) (M : Mem w0 w L) (hxs : evs ρ (parts.toList.map (·.2)) = some (es.map (Value.int .u8)))
    (hp : parts.toList = (List.range' 0 (parts.toList.map (·.2)).length).zip (parts.toList.map (·.2))) (h1 : BytesOf es l) (hlen : len = l.length) (hl : Nat.ble len 1000 = true) (hd : Nat.blt d n = true)
    (kk : ∀ g w', Mem w0 w' (Asr.own e 1 (some ⟨g, 0, none⟩) l.length len (bs l) :: L) → Y.S rest ((d, .slice (some ⟨g, 0, none⟩) l.length len) :: ρ) w') :
    Y.S (⟨some d, .buildSlice t len parts, ty, pos, aft, none⟩ :: rest) ρ w := by
  rw [h1.bs] at hxs
  refine WL.buildS T M hxs hp (by simp [bs, hlen]) (bs_oneCell _) hl hd fun g w' M' => ?_
  have := kk g w'
  rw [← hlen] at this
  exact this M'
end

/-! ### what is known of a test -/

theorem St.know {n : Nat} {ρ : List (Nat × Value)} {a : Act} (h : St n ρ a) {t : Nat} {v : Value} (hv : envGet ρ t = some v) : St n ((t, v) :: ρ) a :=
  ⟨h.defers, h.size, fun t' u hu => by
    rw [envGet_cons] at hu
    by_cases e : t = t'
    · subst e
      simp only [if_true, Option.some.injEq] at hu
      subst hu
      exact h.get _ _ hv
    · rw [if_neg e] at hu
      exact h.get _ _ hu⟩
section
variable {P : Program} {Q : Exit → Act → World → Prop} {S : World → Prop} {G : Nat → Bool} {n : Nat} {ρ : List (Nat × Value)} {w : World} {f : Nat} {done : List Nat} {l : List Oper} {t : Nat}
/-- The beginning of a region that draws its order: K stands all the while. -/
theorem W.drawM {id : Nat} {w0 : World} {L : List Asr} (K : List Asr) (hm : P.follows .mixedOrders = true) (G : Nat → Bool) (M : Mem w0 w L) (_ : Sel L K)
    (h : Mem w0 w.drew L → DG P l.toArray Q (fun w => Mem w0 w K) G l.length [] n ρ w.drew) : W P (.region id l.toArray true) Q n ρ w := W.draw hm _ G (h M.drew)
theorem DG.know {b : Bool} (hx : envGet ρ t = some (.bool b)) (kt : b = true → DG P l.toArray Q S G f done n ((t, .bool true) :: ρ) w) (kf : b = false → DG P l.toArray Q S G f done n ((t, .bool false) :: ρ) w) : DG P l.toArray Q S G f done n ρ w := by
  intro a ha
  cases b
  · exact kf rfl a (ha.know hx)
  · exact kt rfl a (ha.know hx)
theorem DG.knowP {p : Prop} [Decidable p] (hx : envGet ρ t = some (.bool (decide p))) (kt : p → DG P l.toArray Q S G f done n ((t, .bool true) :: ρ) w) (kf : ¬ p → DG P l.toArray Q S G f done n ((t, .bool false) :: ρ) w) : DG P l.toArray Q S G f done n ρ w :=
  DG.know hx (fun h => kt (of_decide_eq_true h)) (fun h => kf (of_decide_eq_false h))
theorem DG.knowN {p : Prop} [Decidable p] (hx : envGet ρ t = some (.bool (!decide p))) (kt : ¬ p → DG P l.toArray Q S G f done n ((t, .bool true) :: ρ) w) (kf : p → DG P l.toArray Q S G f done n ((t, .bool false) :: ρ) w) : DG P l.toArray Q S G f done n ρ w :=
  DG.know hx (fun h => kt (by simpa using h)) (fun h => kf (by simpa using h))
end

/-! ### slices of slices: values alone -/

section
variable {P : Program} {n : Nat} {ρ : List (Nat × Value)} {w : World} {rest : List Oper} {X : SqV P n}
variable {d : Nat} {ty : TypeId} {pos : String} {aft : Array Edge} {x : Operand} {t e : TypeId}
theorem WL.cutLH {A : Option Addr} {c m size m' an bn : Nat} {lo hi : Operand} {kl kh : IntKind} {a b : Int} (ht : P.underlying t = some (.slice e)) (hs : ∀ w, (sizeOf e).run P w = .ok size w) (hx : ev ρ x = some (.slice A m c))
    (hl : ev ρ lo = some (.int kl a)) (hh : ev ρ hi = some (.int kh b)) (h0 : 0 ≤ a) (h1 : a ≤ b) (h2 : b ≤ c) (ha : a = (an : Int)) (hb : b = (bn : Int)) (hm : bn - an = m') (hd : Nat.blt d n = true)
    (kk : X.S rest ((d, .slice (cutA A an size c) m' (c - an)) :: ρ) w) :
    X.S (⟨some d, .slice t x (some lo) (some hi) none, ty, pos, aft, none⟩ :: rest) ρ w := by
  subst ha hb
  exact WL.sliceLHX ht hs hx hl hh h0 h1 h2 rfl hm rfl hd kk
theorem WL.cutL {A : Option Addr} {c m size m' an : Nat} {lo : Operand} {kl : IntKind} {a : Int} (ht : P.underlying t = some (.slice e)) (hs : ∀ w, (sizeOf e).run P w = .ok size w) (hx : ev ρ x = some (.slice A m c))
    (hl : ev ρ lo = some (.int kl a)) (h0 : 0 ≤ a) (h2 : a ≤ m) (ha : a = (an : Int)) (hm : m - an = m') (hd : Nat.blt d n = true)
    (kk : X.S rest ((d, .slice (cutA A an size c) m' (c - an)) :: ρ) w) :
    X.S (⟨some d, .slice t x (some lo) none none, ty, pos, aft, none⟩ :: rest) ρ w := by
  subst ha hm
  have h2' : an ≤ m := by omega
  refine WL.val rfl rfl hd (fun f hf => ?_) kk
  simp [execOp, hf.eval hx, hf.eval hl, Instr.sliceAt, Instr.slice, run_underlying ht, Instr.sliceBounds, run_sliceBound, hs, h2', cutA]
theorem WL.cutH {A : Option Addr} {c m m' size : Nat} {hi : Operand} {kh : IntKind} {b : Int} (ht : P.underlying t = some (.slice e)) (hs : ∀ w, (sizeOf e).run P w = .ok size w) (hx : ev ρ x = some (.slice A m c))
    (hh : ev ρ hi = some (.int kh b)) (h1 : 0 ≤ b) (h2 : b ≤ c) (hm : b.toNat = m') (hd : Nat.blt d n = true)
    (kk : X.S rest ((d, .slice A m' c) :: ρ) w) :
    X.S (⟨some d, .slice t x none (some hi) none, ty, pos, aft, none⟩ :: rest) ρ w := by
  subst hm
  exact WL.sliceUpTo ht hs hx hh h1 h2 hd kk
end
theorem RdB.pre' {w : World} {A : Option Addr} {cap : Nat} {l : List UInt8} (h : RdB w A cap l) {j : Nat} (hj : j ≤ l.length) : RdB w A cap (l.take j) := by
  have h1 := h.sub (i := 0) (j := j) (Nat.zero_le _) hj
  rwa [cutA_zero, Nat.sub_zero, Proofs.Ytkdkdaljgoibaaa.sub, List.drop_zero, Nat.sub_zero] at h1
theorem RdB.suf {w : World} {A : Option Addr} {cap : Nat} {l : List UInt8} (h : RdB w A cap l) {i : Nat} (hi : i ≤ l.length) : RdB w (cutA A i 1 cap) (cap - i) (l.drop i) := by
  have h1 := h.sub (i := i) (j := l.length) hi (Nat.le_refl _)
  rwa [Proofs.Ytkdkdaljgoibaaa.sub, List.take_of_length_le (by rw [List.length_drop]; omega)] at h1
end Go.Proofs.Ytkdkdaljgoibaaa
