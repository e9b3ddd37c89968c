/- The walk of packet's Parse: its deferred closure; fields, whatever the kind. -/
import Derived.Test.YthkfgjdbgnbjkaaPkO1
import Derived.Test.YthkfgjdbgnbjkaaPkO2
import Derived.Test.YthkfgjdbgnbjkaaPkO3
import Derived.Test.YthkfgjdbgnbjkaaPkO4
import Derived.Test.YthkfgjdbgnbjkaaPkO5
import Derived.Test.YthkfgjdbgnbjkaaPkO6
import Derived.Test.YthkfgjdbgnbjkaaPkO7
import Derived.Test.YthkfgjdbgnbjkaaPkO8
import Derived.Test.YthkfgjdbgnbjkaaPkO9
import Derived.Test.YthkfgjdbgnbjkaaPkO10
import Derived.Test.YthkfgjdbgnbjkaaPkO11
import Derived.Test.YthkfgjdbgnbjkaaPkI
import Derived.Great.BuildSlice
namespace Go.Proofs.Ythkfgjdbgnbjkaa
open Go.RowKit
set_option linter.unusedSimpArgs false
set_option linter.unusedVariables false

/-- a zero packet's cells. -/
def zpk : Array Value := #[.int .i64 0, .int .i64 0, .int .i64 0, .int .u64 0, .int .i64 0, .int .i64 0, .int .u32 0, .int .u64 0, .int .i64 0, .slice none 0 0, .string ⟨#[]⟩, .int .u64 0, .int .u32 0, .slice none 0 0, .int .u64 0, .int .i64 0, .int .u32 0, .int .u64 0, .int .u64 0, .int .i64 0, .int .u64 0, .slice none 0 0]
theorem zpk_size : zpk.size = 22 := rfl
theorem zpk_built : Try.prog.built 73 [] = some zpk := by kernel_rfl
theorem zpk_one : zpk.all (·.oneCell') = true := by kernel_rfl

theorem fields_any (g P : Nat) (s : ByteArray) (l : List UInt8) (k src dst : Int) (w : World) (h : RdL w g s l) (hs : s.size ≤ 1000000) (hk : 1 ≤ k ∧ k ≤ 11)
    (hP : w.heap[P]? = some (.cells #[.int .i64 k, .int .i64 src, .int .i64 dst, .int .u64 0, .int .i64 0, .int .i64 0, .int .u32 0, .int .u64 0, .int .i64 0, .slice none 0 0, .string ⟨#[]⟩, .int .u64 0, .int .u32 0, .slice none 0 0, .int .u64 0, .int .i64 0, .int .u32 0, .int .u64 0, .int .u64 0, .int .i64 0, .int .u64 0, .slice none 0 0] 73 (0, 0))) (hPg : P ≠ g) :
    Calls Try.prog 69 #[.agg #[.pointer (some ⟨g, 0, none⟩)], .pointer (some ⟨P, 0, none⟩)] w (FOut g P w (bodyP k src dst l)) := by
  obtain rfl | rfl | rfl | rfl | rfl | rfl | rfl | rfl | rfl | rfl | rfl : k = 1 ∨ k = 2 ∨ k = 3 ∨ k = 4 ∨ k = 5 ∨ k = 6 ∨ k = 7 ∨ k = 8 ∨ k = 9 ∨ k = 10 ∨ k = 11 := by omega
  · exact rfields1 g P s l src dst w h hs hP hPg
  · exact rfields2 g P s l src dst w h hs hP hPg
  · exact rfields3 g P s l src dst w h hs hP hPg
  · exact rfields4 g P s l src dst w h hs hP hPg
  · exact rfields5 g P s l src dst w h hs hP hPg
  · exact rfields6 g P s l src dst w h hs hP hPg
  · exact rfields7 g P s l src dst w h hs hP hPg
  · exact rfields8 g P s l src dst w h hs hP hPg
  · exact rfields9 g P s l src dst w h hs hP hPg
  · exact rfields10 g P s l src dst w h hs hP hPg
  · exact rfields11 g P s l src dst w h hs hP hPg

set_option maxRecDepth 8000 in
theorem rcatch_panicking (P E : Nat) (old : Array Value) (y c : Int) (older : List PanicEntry) (w : World) (h0 : w.heap[P]? = some (.cells old 73 (0, 0))) (ho : old.size = 22) (h2 : w.cell? ⟨E, 0, none⟩ = some (.int .i64 y)) (h3 : w.frozen? ⟨E, 0, none⟩ = false) (hne : E ≠ P) :
    CallsD Try.prog 68 #[.pointer (some ⟨P, 0, none⟩), .pointer (some ⟨E, 0, none⟩)] (.panicking (pv c :: older)) w fun e u' w' =>
      e = .returned (.tuple #[]) ∧ u' = .panicking ({ v := .iface 38 (.int .i64 c), recovered := true } :: older) ∧ w' = (w.setRow P zpk).setCell ⟨E, 0, none⟩ (.int .i64 c) := by
  refine callsD_of_wpS Try.func68 rfl fun c₀ cs hu => ?_
  unfold pv at hu
  have hta : ∀ w : World, (Instr.typeAssert (.iface 38 (.int .i64 c)) 20 38 true).run Try.prog w = .ok (.tuple #[.int .i64 c, .bool true]) w := fun _ => by kernel_rfl
  apply wpS_seq
  apply wpS_region
  simp [wpOpsS, go_sem, recoverD, hu, hta, Try.ntmps68, Exit.thenS]
  apply wpS_seq
  apply wpS_region
  simp [wpOpsS, go_sem, Exit.thenS]
  refine wpS_cond (t := true) (by simp [Act.eval, Array.replicate]) ?_
  simp only [if_true]
  have hb : (w.setRow P zpk).heap[E]? = w.heap[E]? := setRow_other w P E zpk hne
  have hq : (w.setRow P zpk).cell? ⟨E, 0, none⟩ = some (.int .i64 y) := (World.cell?_of_block (w := w) hb).trans h2
  have hz : (w.setRow P zpk).frozen? ⟨E, 0, none⟩ = false := (World.frozen?_of_block (w := w) hb).trans h3
  refine wpS_of_wp ?_
  apply wp_region_lit
  refine wpList_buildTo rfl 73 #[] rfl (some 10) rfl zpk (by simp [zpk_built]) ?_
  go_wp2_with (refine wpList_store_row rfl 73 (.tmp 0) (.tmp 10) rfl P zpk (by simp [Act.eval]) (by simp [Act.eval]) 73 old h0 info73 ho zpk_one ?_)
  simp [bodyPostS, results, Try.results68]

set_option maxRecDepth 8000 in
theorem rcatch_idle (p q : Addr) (w : World) :
    CallsD Try.prog 68 #[.pointer (some p), .pointer (some q)] .returning w fun e u' w' => e = .returned (.tuple #[]) ∧ u' = .returning ∧ w' = w := by
  refine callsD_of_wpS Try.func68 rfl fun c₀ cs hu => ?_
  have hta : ∀ w : World, (Instr.typeAssert .nilIface 20 38 true).run Try.prog w = .ok (.tuple #[.int .i64 0, .bool false]) w := fun _ => by kernel_rfl
  apply wpS_seq
  apply wpS_region
  simp [wpOpsS, go_sem, recoverD, hu, hta, Try.ntmps68, Exit.thenS]
  apply wpS_seq
  apply wpS_region
  simp [wpOpsS, go_sem, Exit.thenS]
  refine wpS_cond (t := false) (by simp [Act.eval, Array.replicate]) ?_
  simp only [Bool.false_eq_true, if_false]
  refine wpS_of_wp (wp_skip ?_)
  cases c₀
  simp_all [bodyPostS, results, Try.results68]
end Go.Proofs.Ythkfgjdbgnbjkaa
