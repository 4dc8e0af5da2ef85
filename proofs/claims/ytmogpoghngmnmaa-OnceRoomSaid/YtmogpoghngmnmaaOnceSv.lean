/-
  Law: a table's bytes; what is read of them (once).
-/
import Derived.Test.YtmogpoghngmnmaaOnceLaw
import Derived.Test.YtmogpoghngmnmaaReader
import Derived.Test.YtmogpoghngmnmaaBinLaw4
namespace Go.Proofs.Ytmogpoghngmnmaa
open Go Go.RowKit Bin

def saveC (c : Cl) : List UInt8 := put c.id ++ (put c.num ++ (if c.busy = true then [1] else 0 :: (put c.rep.length ++ c.rep)))
def saveL (l : List Cl) : List UInt8 := l.flatMap saveC
def saveB (t : Tb) : List UInt8 := put t.most ++ (put t.l.length ++ saveL t.l)
theorem saveC_len {c : Cl} (h : c.ok) : (saveC c).length ≤ 240 := by
  unfold saveC
  have h1 := put_len10 h.id
  have h2 := put_len10 h.num.2
  have h3 := h.rep
  have h4 := put_len10 (n := c.rep.length) (by omega)
  rw [List.length_append, List.length_append]
  split
  · simp; omega
  · simp; omega
theorem saveL_nil : saveL [] = [] := rfl
theorem saveL_snoc (l : List Cl) (c : Cl) : saveL (l ++ [c]) = saveL l ++ saveC c := by simp [saveL]
theorem saveL_cons (c : Cl) (l : List Cl) : saveL (c :: l) = saveC c ++ saveL l := rfl
theorem saveL_len (l : List Cl) (h : ∀ c ∈ l, c.ok) : (saveL l).length ≤ 240 * l.length := by
  induction l with
  | nil => simp [saveL]
  | cons c l ih =>
    rw [saveL_cons, List.length_append, List.length_cons]
    have h1 := saveC_len (h c (by simp))
    have h2 := ih fun x hx => h x (by simp [hx])
    omega
theorem saveB_len {t : Tb} (h : t.ok) : (saveB t).length ≤ 16000 := by
  unfold saveB
  have hm := h.most
  have hl := h.len
  have h1 := put_len10 (n := t.most) (by omega)
  have h2 := put_len10 (n := t.l.length) (by omega)
  have h3 := saveL_len t.l h.each
  rw [List.length_append, List.length_append]
  omega
end Go.Proofs.Ytmogpoghngmnmaa
