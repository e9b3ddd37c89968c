/- The walk of the frames' 'awake', and of FramePrints. -/
import Derived.Test.YthkfgjdbgnbjkaaFrmL
namespace Go.Proofs.Ythkfgjdbgnbjkaa
open Go.RowKit
set_option linter.unusedSimpArgs false
set_option linter.unusedVariables false

theorem hi_e : printE 1 2 3 ⟨#[104, 105]⟩ = 0 := by decide +kernel
theorem hi_parse : parseF (frameB 1 2 3 ⟨#[104, 105]⟩) = ⟨1, 2, 3, ⟨#[104, 105]⟩, 0⟩ := parse_print hi_e
theorem hi_size : (frameB 1 2 3 ⟨#[104, 105]⟩).size = 13 := by rw [frameB_size]; rfl
theorem hi_head : ((frameB 1 2 3 ⟨#[104, 105]⟩).extract 0 9).toList = [197, 1, 1, 2, 3, 0, 2, 104, 105] := by
  rw [ByteArray.toList_eq]; decide +kernel
theorem x_short : parseF ⟨#[120]⟩ = .bad 2 := by unfold parseF; rw [if_pos (by decide)]

set_option maxHeartbeats 800000 in
theorem awake05 (w : World) : Calls Try.prog 28 #[] w fun e w' => e = .returned (.bool true) ∧ Below w.heap.size w w' := by
  have e1 := hi_e
  have e2 := printS_yes hi_e
  have e3 := hi_parse
  have e4 := hi_size
  have e5 := hi_head
  have e6 := x_short
  generalize frameB 1 2 3 ⟨#[104, 105]⟩ = s at *
  go_enter Try.func28, Try.ntmps28
  go_wp2_with fail
  refine (print_any 1 2 3 ⟨#[104, 105]⟩ _ (by decide)).mono ?_
  rw [e1, e2]
  rintro e w1 ⟨rfl, hb1⟩
  go_wp2_with fail
  refine (parse_any s _ (by omega)).mono ?_
  rw [e3]
  rintro e w2 ⟨rfl, hb2⟩
  unfold FR.vals
  go_wp2_with fail
  refine (parse_any _ _ (by decide)).mono ?_
  rw [e6]
  rintro e w3 ⟨rfl, hb3⟩
  unfold FR.vals FR.bad
  have c0 : w3.cell? ⟨w2.heap.size, 0, none⟩ = some (.int .i64 1) := cell_keep (by simp) hb3
  have c1 : w3.cell? ⟨w2.heap.size, 1, none⟩ = some (.int .i64 2) := cell_keep (by simp) hb3
  have c2 : w3.cell? ⟨w2.heap.size, 2, none⟩ = some (.int .i64 3) := cell_keep (by simp) hb3
  have c3 : w3.cell? ⟨w2.heap.size, 3, none⟩ = some (.string ⟨#[104, 105]⟩) := cell_keep (by simp) hb3
  have hlt : w2.heap.size < w3.heap.size := World.block_lt_of_cell? w3 _ c0
  have hbl := below_step (below_alloc (below_step hb1 hb2) _) hb3
  generalize w2.heap.size = K at *
  clear hb1 hb2 hb3 w1 w2
  go_wp2_with fail
  go_ret
  exact ⟨rfl, below_alloc hbl _⟩

/-- a frame as a value. -/
def frmV (k f t : Int) (b : ByteArray) : Value := .agg #[.int .i64 k, .int .i64 f, .int .i64 t, .string b]

set_option maxHeartbeats 800000 in
theorem prints_walk (k f t : Int) (b : ByteArray) (w : World) :
    Calls Try.prog 8 #[.agg #[.int .i64 k, .int .i64 f, .int .i64 t, .string b]] w fun e w' => e = .returned (.bool true) ∧ Below w.heap.size w w' := by
  have hb0 : Below w.heap.size w (w.alloc (.cells #[.int .i64 k, .int .i64 f, .int .i64 t, .string b] 37)) := below_alloc (Below.refl _ _) _
  by_cases h : 40000 < b.size
  · have hd : decide (40000 < (b.size : Int)) = true := by simp; omega
    go_enter Try.func8, Try.ntmps8
    go_wp2_with fail
    refine (awake05 _).mono ?_
    rintro e w1 ⟨rfl, hb1⟩
    have c3 : w1.cell? ⟨w.heap.size, 3, none⟩ = some (.string b) := cell_keep (by simp) hb1
    go_wp2_with fail
    go_ret
    exact ⟨rfl, below_step hb0 hb1⟩
  · have hd : decide (40000 < (b.size : Int)) = false := by simp; omega
    go_enter Try.func8, Try.ntmps8
    go_wp2_with fail
    refine (awake05 _).mono ?_
    rintro e w1 ⟨rfl, hb1⟩
    have c0 : w1.cell? ⟨w.heap.size, 0, none⟩ = some (.int .i64 k) := cell_keep (by simp) hb1
    have c1 : w1.cell? ⟨w.heap.size, 1, none⟩ = some (.int .i64 f) := cell_keep (by simp) hb1
    have c2 : w1.cell? ⟨w.heap.size, 2, none⟩ = some (.int .i64 t) := cell_keep (by simp) hb1
    have c3 : w1.cell? ⟨w.heap.size, 3, none⟩ = some (.string b) := cell_keep (by simp) hb1
    have hbl1 := below_step hb0 hb1
    clear hb0 hb1
    go_wp2_with fail
    refine (print_any k f t b _ (by omega)).mono ?_
    rintro e w2 ⟨rfl, hb2⟩
    have d0 := cell_keep c0 hb2
    have d1 := cell_keep c1 hb2
    have d2 := cell_keep c2 hb2
    have d3 := cell_keep c3 hb2
    have hbl2 := below_step hbl1 hb2
    clear c0 c1 c2 c3 hbl1 hb2 w1
    go_wp2_with fail
    refine (rprint_any k f t b _ (by omega)).mono ?_
    rintro e w3 ⟨rfl, hb3⟩
    have hbl3 := below_step hbl2 hb3
    go_wp2_with fail
    go_ret
    exact ⟨rfl, hbl3⟩
end Go.Proofs.Ythkfgjdbgnbjkaa
