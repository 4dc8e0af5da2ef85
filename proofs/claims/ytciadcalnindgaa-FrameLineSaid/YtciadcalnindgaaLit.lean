/-
  A constant's bytes: its row is marked, and read as any.
-/
import Derived.Test.YtciadcalnindgaaStruct
namespace Go.Proofs.Ytciadcalnindgaa
open Go Go.RowKit

/-- A row that is marked behind its end. -/
def Asr.lit (g : Nat) (e : TypeId) (l : List UInt8) : Asr := Asr.obj g (.cells (bs l).toArray e (l.length, l.length + 1))

theorem Mem.rdLit {w0 w : World} {L : List Asr} {g : Nat} {e : TypeId} {l : List UInt8} (M : Mem w0 w (Asr.lit g e l :: L)) : RdB w (some ⟨g, 0, none⟩) l.length l := by
  have hg : w.heap[g]? = some (.cells (bs l).toArray e (l.length, l.length + 1)) := M.head
  refine ⟨by simp [bs], Nat.le_refl _, fun _ => ⟨_, rfl, (Array.getElem?_eq_some_iff.1 hg).1, fun j v hv => ?_⟩⟩
  rw [add_lit, Nat.zero_add, cell_of_row w g j _ e _ hg]
  simpa using hv

section
variable {P : Program} {n : Nat} {ρ : List (Nat × Value)} {w0 w : World} {rest : List Oper} {L : List Asr} {Y : Sq P n}
variable {d : Nat} {ty : TypeId} {pos : String} {aft : Array Edge} {x : Operand} {t e : TypeId}

theorem WL.convLit {g : Nat} {l : List UInt8} {m : Nat} (ht : P.underlying t = some (.slice e)) (he : P.underlying e = some (.int .u8)) (hx : ev ρ x = some (.slice (some ⟨g, 0, none⟩) m m))
    (M : Mem w0 w (Asr.own e 1 (some ⟨g, 0, none⟩) m m (bs l) :: L)) (hm : m = l.length) (hd : Nat.blt d n = true)
    (kk : ∀ w', Mem w0 w' (Asr.lit g e l :: L) → Y.S rest ((d, .slice (some ⟨g, 0, none⟩) l.length l.length) :: ρ) w') :
    Y.S (⟨some d, .convert t t x, ty, pos, aft, none⟩ :: rest) ρ w := by
  subst hm
  obtain ⟨g', sp, hA, M1, hc, _, _, _⟩ := M.ownRow (by simp)
  obtain rfl : g = g' := by simpa using hA
  have hsp : sp = [] := List.eq_nil_of_length_eq_zero (by rw [List.length_append, bs_length] at hc; omega)
  subst hsp
  rw [List.append_nil] at M1
  have hg : w.heap[g]? = some (.cells (bs l).toArray e (0, 0)) := M1.head
  have hsz : (bs l).toArray.size = l.length := by simp [bs]
  have hsh : w.shape? g = some (e, l.length) := by unfold World.shape?; rw [hg, ← hsz]
  have h1 : (w.freeze ⟨g, l.length, none⟩ 1).heap[g]? = some (.cells (bs l).toArray e (l.length, l.length + 1)) := by
    unfold World.freeze
    rw [if_neg (by decide)]
    simp [Array.getElem?_modify, hg]
  have h2 : ∀ k, k ≠ g → (w.freeze ⟨g, l.length, none⟩ 1).heap[k]? = w.heap[k]? := fun k hk => by
    unfold World.freeze
    rw [if_neg (by decide)]
    simp [Array.getElem?_modify, Ne.symm hk]
  have hsize : (w.freeze ⟨g, l.length, none⟩ 1).heap.size = w.heap.size := by
    unfold World.freeze
    rw [if_neg (by decide)]
    simp
  have M2 : Mem w0 (w.freeze ⟨g, l.length, none⟩ 1) (Asr.lit g e l :: L) :=
    M1.write ⟨rfl, rfl, rfl, by rw [hsize]; exact Nat.le_refl _, fun k _ hk => h2 k (fun e => hk e)⟩ h1 (fun _ hf => .inl hf)
  exact WL.valW rfl rfl hd (fun a ha => by
    simp [execOp, ha.eval hx, convert, run_underlying ht, run_underlying he, markStringish, hsh]) (kk _ M2)
end
end Go.Proofs.Ytciadcalnindgaa
