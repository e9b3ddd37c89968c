/- The plain laws of sums: what is sealed opens; what opens was sealed; no byte and no burst of 32 bits turns unseen. And the walk of 'awake'. -/
import Derived.Test.YthkfgjdbgnbjkaaCrcR
namespace Go.Proofs.Ythkfgjdbgnbjkaa
open Go.RowKit
set_option linter.unusedSimpArgs false
set_option linter.unusedVariables false

theorem openOk_sealB (s : ByteArray) : openOk (sealB s) = true := by
  have h := sealB_size s
  have hd := sealB_data s
  unfold openOk
  rw [h, hd]
  have hl : s.data.toList.length = s.size := size_data s
  have e : s.size + 4 - 4 = s.data.toList.length := by omega
  rw [e, List.take_left', List.drop_left'] <;> simp
theorem openB_sealB (s : ByteArray) : openB (sealB s) = s := by
  unfold openB
  rw [openOk_sealB, if_pos rfl, sealB_size]
  apply WideShapes.bytes_inj
  rw [Lib.extract_data, sealB_data]
  simp [size_data]

theorem open_ab : openOk (sealB ⟨#[97, 98]⟩) = true := openOk_sealB _
theorem open_abc : openOk ⟨#[97, 98, 99]⟩ = false := by decide +kernel
theorem sum_digits : CrcM.sum (catB [⟨#[49, 50, 51, 52]⟩, ⟨#[53, 54, 55, 56, 57]⟩]) = 3421780262#32 := by decide +kernel
theorem sum_nothing : CrcM.sum (catB []) = 0#32 := by decide +kernel

set_option maxHeartbeats 400000 in
theorem awake04 (w : World) : Calls Try.prog 21 #[] w fun e w' => e = .returned (.bool true) ∧ Below w.heap.size w w' := by
  have o1 : openOk (sealB ⟨#[97, 98]⟩) = true := openOk_sealB _
  have b1 : openB (sealB ⟨#[97, 98]⟩) = ⟨#[97, 98]⟩ := openB_sealB _
  have o2 := open_abc
  have s1 := sum_digits
  have s2 := sum_nothing
  have hz : (sealB ⟨#[97, 98]⟩).size ≤ 1000004 := by rw [sealB_size]; decide
  go_enter Try.func21, Try.ntmps21
  go_wp2_with (go_at_call 26; refine (seal_any _ _ (by decide)).mono ?_; rintro e w1 ⟨rfl, hb1⟩)
  refine (open_any _ _ hz).mono ?_
  rintro e w2 ⟨rfl, hb2⟩
  go_wp2_with fail
  refine (open_any _ _ (by decide)).mono ?_
  rintro e w3 ⟨rfl, hb3⟩
  go_wp2_with fail
  refine (sum_any _ 2 2 [⟨#[49, 50, 51, 52]⟩, ⟨#[53, 54, 55, 56, 57]⟩] _ rfl ?_ (by decide) ?_).mono ?_
  · intro i hi
    match i, hi with
    | 0, _ => exact ⟨_, 0, rfl, by simp⟩
    | 1, _ => exact ⟨_, 0, rfl, by simp⟩
  · intro i hi
    match i, hi with
    | 0, _ => decide
    | 1, _ => decide
  rintro e w4 ⟨rfl, rfl⟩
  go_wp2_with fail
  refine (sum_any _ 0 0 [] _ rfl ?_ (by decide) ?_).mono ?_
  · intro i hi
    simp at hi
  · intro i hi
    simp at hi
  rintro e w5 ⟨rfl, rfl⟩
  go_wp2_with fail
  go_ret
  exact ⟨rfl, below_alloc (below_step (below_step hb1 hb2) hb3) _⟩
end Go.Proofs.Ythkfgjdbgnbjkaa
