/-
  sync.Once, one goroutine: doSlow and Do, whatever the function is that it calls (turned from the kit's worked LazySlow, LazyWalks).
-/
import Derived.Test.YtmogpoghngmnmaaOnceSync
import Derived.Test.YtmogpoghngmnmaaWalk
namespace Go.Proofs.Ytmogpoghngmnmaa
open Go Go.RowKit

set_option maxRecDepth 100000 in
set_option maxHeartbeats 1600000 in
/-- '(*sync.Once).doSlow', not yet done, the lock free: the function is called under the lock; then 'done' is stored, the lock let go. -/
theorem slow_ok (b : Nat) (F : FuncId) (hF : F = 51) (caps : Array Value) (w : World) (R : World → Prop)
    (h0 : w.cell? ⟨b, 0, none⟩ = some (.int .u32 0)) (h1 : w.cell? ⟨b, 1, none⟩ = some (.int .i32 0))
    (f0 : w.frozen? ⟨b, 0, none⟩ = false) (f1 : w.frozen? ⟨b, 1, none⟩ = false)
    (hf : Calls Try.prog F caps (w.setCell ⟨b, 1, none⟩ (.int .i32 1)) fun e w2 => e = .returned (.tuple #[]) ∧ R w2)
    (hR : ∀ w2, R w2 → w2.cell? ⟨b, 0, none⟩ = some (.int .u32 0) ∧ w2.cell? ⟨b, 1, none⟩ = some (.int .i32 1) ∧ w2.frozen? ⟨b, 0, none⟩ = false ∧ w2.frozen? ⟨b, 1, none⟩ = false) :
    Calls Try.prog 61 #[.pointer (some ⟨b, 0, none⟩), .func (.func F) #[] caps] w fun e w' => e = .returned (.tuple #[]) ∧
      ∃ w2, R w2 ∧ w' = (w2.drew.setCell ⟨b, 0, none⟩ (.int .u32 1)).setCell ⟨b, 1, none⟩ (.int .i32 0) := by
  subst hF
  have hl := run_call_load (P := Try.prog) Try.func63 (by kernel_rfl) (by kernel_rfl) (by kernel_rfl) .u32 (by kernel_rfl) (w := w.setCell ⟨b, 1, none⟩ (.int .i32 1)) (a := ⟨b, 0, none⟩) (x := 0) ((World.cell?_setCell_other _ ⟨b, 1, none⟩ ⟨b, 0, none⟩ _ (by simp)).trans h0)
  have hnot : ∀ (x : Bool) (w : World), (Op.unary .not (.bool x)).run Try.prog w = .ok (.bool (!x)) w := fun _ _ => rfl
  go_enter_defers Try.func61, Try.ntmps61
  go_wp2_with (first | (go_at_call 64; refine (lock_free ⟨b, 1, none⟩ _ (by go_simp) (by go_simp)).mono ?_; rintro e w' ⟨rfl, rfl⟩) | (go_at_call 51; refine hf.mono ?_; rintro e w2 ⟨rfl, hr⟩) | (go_at_call 60; go_in))
  refine leaves_cons (f := 66) (args := #[.pointer (some ⟨b, 0, none⟩), .bool true]) (by simp) (by simp [go_sem]) ?_
  refine (store_deferred ⟨b, 0, none⟩ (.int .u32 0) .returning _ (hR _ hr).1 (by simp [(hR _ hr).2.2.1])).mono ?_
  rintro e u' w'' ⟨rfl, rfl, rfl⟩
  refine leaves_cons (f := 65) (args := #[.pointer (some ⟨b, 1, none⟩)]) (by simp [settle]) (by simp [go_sem]) ?_
  refine (unlock_deferred ⟨b, 1, none⟩ _ _ ?_ (by simp [(hR _ hr).2.2.2])).mono ?_
  · refine (World.cell?_setCell_other _ ⟨b, 0, none⟩ ⟨b, 1, none⟩ _ (by simp)).trans ?_
    rw [World.cell?_drew]
    exact (hR _ hr).2.1
  rintro e u' w'' ⟨rfl, rfl, rfl⟩
  simp [Leaves, settle, results, Try.results61]
  exact ⟨_, hr, rfl⟩

set_option maxRecDepth 100000 in
theorem do_any (a : Addr) (fv : Value) (w : World) (Q : World → Prop) (h0 : w.cell? a = some (.int .u32 0))
    (hs : Calls Try.prog 61 #[.pointer (some a), fv] w fun e w' => e = .returned (.tuple #[]) ∧ Q w') :
    Calls Try.prog 50 #[.pointer (some a), fv] w fun e w' => e = .returned (.tuple #[]) ∧ Q w' := by
  have hl := run_call_load (P := Try.prog) Try.func63 (by kernel_rfl) (by kernel_rfl) (by kernel_rfl) .u32 (by kernel_rfl) h0
  have hnot : ∀ (x : Bool) (w : World), (Op.unary .not (.bool x)).run Try.prog w = .ok (.bool (!x)) w := fun _ _ => rfl
  go_enter Try.func50, Try.ntmps50
  go_wp2_with (first | (go_at_call 61; refine hs.mono ?_; rintro e w' ⟨rfl, hw⟩) | (go_at_call 60; go_in))
  go_end0
  exact ⟨rfl, hw⟩

/-- '(*sync.Once).Do', not yet done, the lock free. -/
theorem do_first (b : Nat) (F : FuncId) (hF : F = 51) (caps : Array Value) (w : World) (R : World → Prop)
    (h0 : w.cell? ⟨b, 0, none⟩ = some (.int .u32 0)) (h1 : w.cell? ⟨b, 1, none⟩ = some (.int .i32 0))
    (f0 : w.frozen? ⟨b, 0, none⟩ = false) (f1 : w.frozen? ⟨b, 1, none⟩ = false)
    (hf : Calls Try.prog F caps (w.setCell ⟨b, 1, none⟩ (.int .i32 1)) fun e w2 => e = .returned (.tuple #[]) ∧ R w2)
    (hR : ∀ w2, R w2 → w2.cell? ⟨b, 0, none⟩ = some (.int .u32 0) ∧ w2.cell? ⟨b, 1, none⟩ = some (.int .i32 1) ∧ w2.frozen? ⟨b, 0, none⟩ = false ∧ w2.frozen? ⟨b, 1, none⟩ = false) :
    Calls Try.prog 50 #[.pointer (some ⟨b, 0, none⟩), .func (.func F) #[] caps] w fun e w' => e = .returned (.tuple #[]) ∧
      ∃ w2, R w2 ∧ w' = (w2.drew.setCell ⟨b, 0, none⟩ (.int .u32 1)).setCell ⟨b, 1, none⟩ (.int .i32 0) :=
  do_any ⟨b, 0, none⟩ _ w _ h0 (slow_ok b F hF caps w R h0 h1 f0 f1 hf hR)

/-- '(*sync.Once).Do', done already: the function is not called. -/
theorem do_done (a : Addr) (d : Int) (hd : ¬ d = 0) (fv : Value) (w : World) (h0 : w.cell? a = some (.int .u32 d)) :
    Calls Try.prog 50 #[.pointer (some a), fv] w fun e w' => e = .returned (.tuple #[]) ∧ w' = w := by
  have hl := run_call_load (P := Try.prog) Try.func63 (by kernel_rfl) (by kernel_rfl) (by kernel_rfl) .u32 (by kernel_rfl) h0
  have hnot : ∀ (x : Bool) (w : World), (Op.unary .not (.bool x)).run Try.prog w = .ok (.bool (!x)) w := fun _ _ => rfl
  have hd' : (d != 0) = true := by simp [hd]
  go_enter Try.func50, Try.ntmps50
  go_wp2
  go_end0
  exact ⟨rfl, rfl⟩

section
variable {w0 w : World} {L L' : List Asr}
/-- Do, in terms of what stands in memory: an index whose word is 1. -/
theorem DoDone_ok (gi : Nat) (cs : List Value) (fv : Value) (M : Mem w0 w L) (h : Has (Asr.row gi 83 (.int .u32 1 :: cs)) L) :
    Fn Try.prog 50 [.pointer (some ⟨gi, 0, none⟩), fv] w fun v w' => v = .tuple #[] ∧ w' = w := by
  refine Calls.mono (do_done ⟨gi, 0, none⟩ 1 (by decide) fv w ?_) ?_
  · rw [M.cellH h 0]; rfl
  · rintro e w' ⟨rfl, rfl⟩
    exact ⟨_, rfl, rfl, rfl⟩
/-- An index whose word is 0, the lock free: the function is called under the lock. -/
theorem DoFirst_ok {ι : Type} (gi : Nat) (s m : Value) (F : FuncId) (hF : F = 51) (caps : Array Value) (m2 : ι → Value) (L2 : ι → List Asr) (M : Mem w0 w L)
    (hd : Del (Asr.row gi 83 [.int .u32 0, .int .i32 0, s, m]) L L')
    (hf : ∀ w1, Mem w0 w1 (Asr.row gi 83 [.int .u32 0, .int .i32 1, s, m] :: L') → Fn Try.prog F caps.toList w1 fun v w2 => v = .tuple #[] ∧ ∃ i, Mem w0 w2 (Asr.row gi 83 [.int .u32 0, .int .i32 1, s, m2 i] :: L2 i)) :
    Fn Try.prog 50 [.pointer (some ⟨gi, 0, none⟩), .func (.func F) #[] caps] w fun v w' => v = .tuple #[] ∧ ∃ i, Mem w0 w' (Asr.row gi 83 [.int .u32 1, .int .i32 0, s, m2 i] :: L2 i) := by
  have M1 := M.del hd
  have M2 := M1.set 1 (.int .i32 1)
  refine Calls.mono (do_first gi F hF caps w (fun w2 => ∃ i, Mem w0 w2 (Asr.row gi 83 [.int .u32 0, .int .i32 1, s, m2 i] :: L2 i)) ?_ ?_ (M1.frozen 0) (M1.frozen 1) ?_ ?_) ?_
  · rw [M1.cell 0]; rfl
  · rw [M1.cell 1]; rfl
  · refine Calls.mono (hf _ M2) ?_
    rintro e w2 ⟨v, rfl, rfl, h⟩
    exact ⟨rfl, h⟩
  · rintro w2 ⟨i, h⟩
    exact ⟨by rw [h.cell 0]; rfl, by rw [h.cell 1]; rfl, h.frozen 0, h.frozen 1⟩
  · rintro e w' ⟨rfl, w2, ⟨i, h⟩, rfl⟩
    refine ⟨_, rfl, rfl, i, ?_⟩
    have h1 := (h.drew.set 0 (.int .u32 1)).set 1 (.int .i32 0)
    exact h1
end
end Go.Proofs.Ytmogpoghngmnmaa
