/- The walk of the law CrcOnly. -/
import Derived.Test.YthkfgjdbgnbjkaaCrcN
import Derived.Test.YthkfgjdbgnbjkaaCrcS
import Derived.BigRegion
import Derived.Lib.QuietBelow
namespace Go.Proofs.Ythkfgjdbgnbjkaa
open Go.RowKit Go.Sort
set_option linter.unusedSimpArgs false
set_option linter.unusedVariables false

theorem sealB_openB (s : ByteArray) (h : openOk s = true) : sealB (openB s) = s := by
  have h' := h
  unfold openOk at h'
  rw [Bool.and_eq_true, decide_eq_true_iff, beq_iff_eq] at h'
  obtain ⟨h4, h⟩ := h'
  apply WideShapes.bytes_inj
  have e : openB s = s.extract 0 (s.size - 4) := by unfold openB; rw [if_pos (by assumption)]
  rw [e, sealB_data, Lib.extract_data]
  simp only [List.drop_zero, Nat.sub_zero]
  rw [h, List.take_append_drop]
theorem openB_no (s : ByteArray) (h : openOk s = false) : openB s = ⟨#[]⟩ := by unfold openB; rw [h]; rfl

theorem cell_kept {w w1 : World} {a : Addr} {v : Value} (hc : w.cell? a = some v) (hb : Below w.heap.size w w1) : w1.cell? a = some v :=
  (hb.cell (World.block_lt_of_cell? w a hc)).trans hc

set_option maxHeartbeats 400000 in
theorem only_yes (s : ByteArray) (w : World) (hs : s.size ≤ 5000) (ho : openOk s = true) :
    Calls Try.prog 7 #[.string s] w fun e w' => e = .returned (.bool true) ∧ Below w.heap.size w w' := by
  have hd1 : decide (5000 < (s.size : Int)) = false := by simp; omega
  have ht := sealB_size s
  have o1 := openOk_sealB s
  have b1 := openB_sealB s
  have hz : (sealB s).size ≤ 1000004 := by rw [ht]; omega
  have hs2 : s.size ≤ 1000000 := by omega
  have hso := sealB_openB s ho
  have hzo : (openB s).size ≤ 1000000 := by have := sealB_size (openB s); rw [hso] at this; omega
  generalize hT : sealB s = t at *
  have HT := Lib.hid hT
  clear hT
  generalize hU : openB s = u at *
  have HU := Lib.hid hU
  clear hU
  have hseal : ∀ W, Calls Try.prog 26 #[.string u] W fun e w' => e = .returned (.string s) ∧ Below W.heap.size W w' := fun W => by
    have h := seal_any u W hzo
    rw [hso] at h
    exact h
  have hseal2 : ∀ W, Calls Try.prog 26 #[.string s] W fun e w' => e = .returned (.string t) ∧ Below W.heap.size W w' := fun W => by
    have h := seal_any s W hs2
    rw [HT.out] at h
    exact h
  have HS := Lib.hid hseal
  have HS2 := Lib.hid hseal2
  clear hseal hseal2
  go_enter Try.func7, Try.ntmps7
  go_wp2_with fail
  refine (awake04 _).mono ?_
  rintro e w1 ⟨rfl, hb1⟩
  go_wp2_with fail
  refine (rseal_any _ _ (by omega)).mono ?_
  rw [HT.out]
  rintro e w2 ⟨rfl, hb2⟩
  go_wp2_with fail
  refine wp_loop_rounds 3 ?_
  rw [rounds_succ]
  go_wp2_with fail
  refine (open_any _ _ (by omega)).mono ?_
  rw [HU.out, ho]
  rintro e w3 ⟨rfl, hb3⟩
  go_wp2_with fail
  have hc0 : w3.cell? ⟨w2.heap.size, 0, none⟩ = some (.string s) := cell_kept (by simp) hb3
  have hc1 : w3.cell? ⟨w2.heap.size, 1, none⟩ = some (.string t) := cell_kept (by simp) hb3
  have hbb := below_step (below_alloc (below_step hb1 hb2) _) hb3
  generalize w2.heap.size = K at *
  clear hb3 hb2 hb1 w1
  have hg0 := fun d os => cell_regrown hc0 d os
  have hg1 := fun d os => cell_regrown hc1 d os
  refine wp_region_quiet_below (by kernel_rfl) (by kernel_rfl) ?_
  repeat (quiet_step (first | (go_at_call 26; exact Calls.regrown_of (HS.out _))))
  refine wpQuiet_nil ?_
  intro _ hw'
  obtain ⟨⟨dq, osq⟩, hw''⟩ := hw'
  subst hw''
  clear hg0 hg1
  have hb4 := below_regrown w3 dq osq
  have hd0 := cell_kept hc0 hb4
  have hd1 := cell_kept hc1 hb4
  have hbc := below_step hbb hb4
  clear hc0 hc1 hb4 hbb
  generalize grow (redrawn w3 dq) osq = w4 at *
  clear w3
  go_wp2_with fail
  rw [rounds_succ]
  go_wp2_with fail
  refine (open_any _ _ hz).mono ?_
  rw [b1, o1]
  rintro e w5 ⟨rfl, hb5⟩
  go_wp2_with fail
  have hc0 : w5.cell? ⟨K, 0, none⟩ = some (.string s) := cell_kept hd0 hb5
  have hc1 : w5.cell? ⟨K, 1, none⟩ = some (.string t) := cell_kept hd1 hb5
  have hbb := below_step hbc hb5
  clear hb5 hbc hd0 hd1 w4
  have hg0 := fun d os => cell_regrown hc0 d os
  have hg1 := fun d os => cell_regrown hc1 d os
  refine wp_region_quiet_below (by kernel_rfl) (by kernel_rfl) ?_
  repeat (quiet_step (first | (go_at_call 26; exact Calls.regrown_of (HS2.out _))))
  refine wpQuiet_nil ?_
  intro _ hw'
  obtain ⟨⟨dq, osq⟩, hw''⟩ := hw'
  subst hw''
  clear hg0 hg1
  have hb4 := below_regrown w5 dq osq
  have hd0 := cell_kept hc0 hb4
  have hd1 := cell_kept hc1 hb4
  have hbc := below_step hbb hb4
  clear hc0 hc1 hb4 hbb
  generalize grow (redrawn w5 dq) osq = w6 at *
  clear w5
  go_wp2_with fail
  rw [rounds_succ]
  go_wp2_with fail
  go_ret
  exact ⟨rfl, hbc⟩
set_option maxHeartbeats 400000 in
theorem only_no (s : ByteArray) (w : World) (hs : s.size ≤ 5000) (ho : openOk s = false) :
    Calls Try.prog 7 #[.string s] w fun e w' => e = .returned (.bool true) ∧ Below w.heap.size w w' := by
  have hd1 : decide (5000 < (s.size : Int)) = false := by simp; omega
  have ht := sealB_size s
  have o1 := openOk_sealB s
  have b1 := openB_sealB s
  have hz : (sealB s).size ≤ 1000004 := by rw [ht]; omega
  have hs2 : s.size ≤ 1000000 := by omega
  have hbo := openB_no s ho
  generalize hT : sealB s = t at *
  have HT := Lib.hid hT
  clear hT
  generalize hU : openB s = u at *
  have HU := Lib.hid hU
  clear hU
  have hseal2 : ∀ W, Calls Try.prog 26 #[.string s] W fun e w' => e = .returned (.string t) ∧ Below W.heap.size W w' := fun W => by
    have h := seal_any s W hs2
    rw [HT.out] at h
    exact h
  have HS2 := Lib.hid hseal2
  clear hseal2
  subst hbo
  go_enter Try.func7, Try.ntmps7
  go_wp2_with fail
  refine (awake04 _).mono ?_
  rintro e w1 ⟨rfl, hb1⟩
  go_wp2_with fail
  refine (rseal_any _ _ (by omega)).mono ?_
  rw [HT.out]
  rintro e w2 ⟨rfl, hb2⟩
  go_wp2_with fail
  refine wp_loop_rounds 3 ?_
  rw [rounds_succ]
  go_wp2_with fail
  refine (open_any _ _ (by omega)).mono ?_
  rw [HU.out, ho]
  rintro e w3 ⟨rfl, hb3⟩
  go_wp2_with fail
  have hc0 : w3.cell? ⟨w2.heap.size, 0, none⟩ = some (.string s) := cell_kept (by simp) hb3
  have hc1 : w3.cell? ⟨w2.heap.size, 1, none⟩ = some (.string t) := cell_kept (by simp) hb3
  have hbb := below_step (below_alloc (below_step hb1 hb2) _) hb3
  generalize w2.heap.size = K at *
  clear hb3 hb2 hb1 w1
  have hg0 := fun d os => cell_regrown hc0 d os
  have hg1 := fun d os => cell_regrown hc1 d os
  refine wp_region_quiet_below (by kernel_rfl) (by kernel_rfl) ?_
  repeat (quiet_step (fail))
  refine wpQuiet_nil ?_
  intro _ hw'
  obtain ⟨⟨dq, osq⟩, hw''⟩ := hw'
  subst hw''
  clear hg0 hg1
  have hb4 := below_regrown w3 dq osq
  have hd0 := cell_kept hc0 hb4
  have hd1 := cell_kept hc1 hb4
  have hbc := below_step hbb hb4
  clear hc0 hc1 hb4 hbb
  generalize grow (redrawn w3 dq) osq = w4 at *
  clear w3
  go_wp2_with fail
  rw [rounds_succ]
  go_wp2_with fail
  refine (open_any _ _ hz).mono ?_
  rw [b1, o1]
  rintro e w5 ⟨rfl, hb5⟩
  go_wp2_with fail
  have hc0 : w5.cell? ⟨K, 0, none⟩ = some (.string s) := cell_kept hd0 hb5
  have hc1 : w5.cell? ⟨K, 1, none⟩ = some (.string t) := cell_kept hd1 hb5
  have hbb := below_step hbc hb5
  clear hb5 hbc hd0 hd1 w4
  have hg0 := fun d os => cell_regrown hc0 d os
  have hg1 := fun d os => cell_regrown hc1 d os
  refine wp_region_quiet_below (by kernel_rfl) (by kernel_rfl) ?_
  repeat (quiet_step (first | (go_at_call 26; exact Calls.regrown_of (HS2.out _))))
  refine wpQuiet_nil ?_
  intro _ hw'
  obtain ⟨⟨dq, osq⟩, hw''⟩ := hw'
  subst hw''
  clear hg0 hg1
  have hb4 := below_regrown w5 dq osq
  have hd0 := cell_kept hc0 hb4
  have hd1 := cell_kept hc1 hb4
  have hbc := below_step hbb hb4
  clear hc0 hc1 hb4 hbb
  generalize grow (redrawn w5 dq) osq = w6 at *
  clear w5
  go_wp2_with fail
  rw [rounds_succ]
  go_wp2_with fail
  go_ret
  exact ⟨rfl, hbc⟩
set_option maxHeartbeats 400000 in
theorem only_walk (s : ByteArray) (ws : s.size ≤ maxLen) (w : World) :
    Calls Try.prog 7 #[.string s] w fun e w' => e = .returned (.bool true) ∧ Below w.heap.size w w' := by
  by_cases hs : s.size ≤ 5000
  · cases ho : openOk s with
    | true => exact only_yes s w hs ho
    | false => exact only_no s w hs ho
  · have hd1 : decide (5000 < (s.size : Int)) = true := by simp; omega
    go_enter Try.func7, Try.ntmps7
    go_wp2_with fail
    refine (awake04 _).mono ?_
    rintro e w1 ⟨rfl, hb1⟩
    go_wp2_with fail
    go_ret
    exact ⟨rfl, hb1⟩
end Go.Proofs.Ythkfgjdbgnbjkaa
