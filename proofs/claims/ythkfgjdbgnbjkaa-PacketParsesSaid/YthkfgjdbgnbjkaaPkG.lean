/- The walk of packet's Print: its deferred closure. -/
import Derived.Test.YthkfgjdbgnbjkaaPkF
import Derived.Defers
import Derived.Recover
namespace Go.Proofs.Ythkfgjdbgnbjkaa
open Go.RowKit
set_option linter.unusedSimpArgs false
set_option linter.unusedVariables false

set_option maxRecDepth 8000 in
theorem pcatch_panicking (p q : Addr) (x : ByteArray) (y c : Int) (older : List PanicEntry) (w : World) (h0 : w.cell? p = some (.string x)) (h1 : w.frozen? p = false) (h2 : w.cell? q = some (.int .i64 y)) (h3 : w.frozen? q = false) (hne : p ≠ q) :
    CallsD Try.prog 77 #[.pointer (some p), .pointer (some q)] (.panicking (pv c :: older)) w fun e u' w' =>
      e = .returned (.tuple #[]) ∧ u' = .panicking ({ v := .iface 38 (.int .i64 c), recovered := true } :: older) ∧ w' = (w.setCell p (.string ⟨#[]⟩)).setCell q (.int .i64 c) := by
  refine callsD_of_wpS Try.func77 rfl fun c₀ cs hu => ?_
  unfold pv at hu
  have hta : ∀ w : World, (Instr.typeAssert (.iface 38 (.int .i64 c)) 20 38 true).run Try.prog w = .ok (.tuple #[.int .i64 c, .bool true]) w := fun _ => by kernel_rfl
  apply wpS_seq
  apply wpS_region
  simp [wpOpsS, go_sem, recoverD, hu, hta, Try.ntmps77, Exit.thenS]
  apply wpS_seq
  apply wpS_region
  simp [wpOpsS, go_sem, Exit.thenS]
  refine wpS_cond (t := true) (by simp [Act.eval, Array.replicate]) ?_
  simp only [if_true]
  have hq : (w.setCell p (.string ⟨#[]⟩)).cell? q = some (.int .i64 y) := (World.cell?_setCell_other w p q _ hne).trans h2
  have hz : (w.setCell p (.string ⟨#[]⟩)).frozen? q = false := by rw [World.frozen?_setCell]; exact h3
  apply wpS_region
  simp [wpOpsS, go_sem, h0, h1, hq, hz, bodyPostS, results, Try.results77]

set_option maxRecDepth 8000 in
theorem pcatch_idle (p q : Addr) (w : World) :
    CallsD Try.prog 77 #[.pointer (some p), .pointer (some q)] .returning w fun e u' w' => e = .returned (.tuple #[]) ∧ u' = .returning ∧ w' = w := by
  refine callsD_of_wpS Try.func77 rfl fun c₀ cs hu => ?_
  have hta : ∀ w : World, (Instr.typeAssert .nilIface 20 38 true).run Try.prog w = .ok (.tuple #[.int .i64 0, .bool false]) w := fun _ => by kernel_rfl
  apply wpS_seq
  apply wpS_region
  simp [wpOpsS, go_sem, recoverD, hu, hta, Try.ntmps77, Exit.thenS]
  apply wpS_seq
  apply wpS_region
  simp [wpOpsS, go_sem, Exit.thenS]
  refine wpS_cond (t := false) (by simp [Act.eval, Array.replicate]) ?_
  simp only [Bool.false_eq_true, if_false]
  refine wpS_of_wp (wp_skip ?_)
  cases c₀
  simp_all [bodyPostS, results, Try.results77]
end Go.Proofs.Ythkfgjdbgnbjkaa
