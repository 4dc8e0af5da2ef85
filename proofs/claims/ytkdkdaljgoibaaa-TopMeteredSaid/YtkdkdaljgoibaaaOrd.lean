/-
  What stands in memory, in any order.
-/
import Derived.Test.YtkdkdaljgoibaaaOwnAll
namespace Go.Proofs.Ytkdkdaljgoibaaa
open Go Go.RowKit

theorem Sep.apart : ∀ {L : List Asr} {w : World}, Sep L w → ∀ (i j : Nat) (A B : Asr), i ≠ j → L[i]? = some A → L[j]? = some B → ∀ g, A.foot g → ¬ B.foot g
  | [], _, _, i, _, _, _, _, hi, _ => by simp at hi
  | C :: L, w, h, 0, 0, _, _, hne, _, _ => absurd rfl hne
  | C :: L, w, h, 0, j + 1, A, B, _, hi, hj => fun g hg => by
    obtain rfl : C = A := by simpa using hi
    exact h.2.1 B (List.mem_of_getElem? (by simpa using hj)) g hg
  | C :: L, w, h, i + 1, 0, A, B, _, hi, hj => fun g hg hb => by
    obtain rfl : C = B := by simpa using hj
    exact h.2.1 A (List.mem_of_getElem? (by simpa using hi)) g hb hg
  | C :: L, w, h, i + 1, j + 1, A, B, hne, hi, hj => Sep.apart h.2.2 i j A B (by omega) (by simpa using hi) (by simpa using hj)

theorem Sep.ord {L : List Asr} {w : World} (h : Sep L w) : ∀ (is : List Nat) (K : List Asr), is.Nodup → is.map (fun i => L[i]?) = K.map some → Sep K w
  | [], [], _, _ => trivial
  | [], _ :: _, _, he => by simp at he
  | _ :: _, [], _, he => by simp at he
  | i :: is, A :: K, hn, he => by
    have h1 : L[i]? = some A := by simpa using congrArg List.head? he
    have h2 : is.map (fun i => L[i]?) = K.map some := by simpa using congrArg List.tail he
    rw [List.nodup_cons] at hn
    refine ⟨Sep.mem h A (List.mem_of_getElem? h1), fun B hB g hg => ?_, Sep.ord h is K hn.2 h2⟩
    have hB' : some B ∈ is.map (fun i => L[i]?) := by rw [h2]; exact List.mem_map_of_mem hB
    obtain ⟨j, hj, hjB⟩ := List.mem_map.1 hB'
    exact Sep.apart h i j A B (fun e => hn.1 (e ▸ hj)) h1 hjB g hg

theorem Mem.ord {w0 w : World} {L K : List Asr} (h : Mem w0 w L) (is : List Nat) (hn : is.Nodup) (he : is.map (fun i => L[i]?) = K.map some) : Mem w0 w K :=
  ⟨h.base, h.sep.ord is K hn he, fun A hA => by
    have hA' : some A ∈ is.map (fun i => L[i]?) := by rw [he]; exact List.mem_map_of_mem hA
    obtain ⟨j, _, hj⟩ := List.mem_map.1 hA'
    exact h.new A (List.mem_of_getElem? hj)⟩
/-- One of what stands. -/
theorem Mem.nth {w0 w : World} {L : List Asr} (h : Mem w0 w L) (i : Nat) {A : Asr} (hA : L[i]? = some A) : Mem w0 w [A] := h.ord [i] (by simp) (by simp [hA])
end Go.Proofs.Ytkdkdaljgoibaaa
