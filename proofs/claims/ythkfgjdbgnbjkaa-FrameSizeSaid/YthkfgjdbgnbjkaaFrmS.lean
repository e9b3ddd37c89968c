/- The walk of the law FrameSize. -/
import Derived.Test.YthkfgjdbgnbjkaaFrmA
namespace Go.Proofs.Ythkfgjdbgnbjkaa
open Go.RowKit
set_option linter.unusedSimpArgs false
set_option linter.unusedVariables false

set_option maxHeartbeats 800000 in
theorem size_long (k f t : Int) (b : ByteArray) (w : World) (h : 40000 < b.size) :
    Calls Try.prog 12 #[.agg #[.int .i64 k, .int .i64 f, .int .i64 t, .string b]] w fun e w' => e = .returned (.bool true) ∧ Below w.heap.size w w' := by
  have hb0 : Below w.heap.size w (w.alloc (.cells #[.int .i64 k, .int .i64 f, .int .i64 t, .string b] 37)) := below_alloc (Below.refl _ _) _
  have hd : decide (40000 < (b.size : Int)) = true := by simp; omega
  go_enter Try.func12, Try.ntmps12
  go_wp2_with fail
  refine (awake05 _).mono ?_
  rintro e w1 ⟨rfl, hb1⟩
  have c3 : w1.cell? ⟨w.heap.size, 3, none⟩ = some (.string b) := cell_keep (by simp) hb1
  go_wp2_with fail
  go_ret
  exact ⟨rfl, below_step hb0 hb1⟩

set_option maxHeartbeats 1600000 in
theorem size_bad (k f t : Int) (b : ByteArray) (w : World) (h : b.size ≤ 40000) (hno : printE k f t b ≠ 0) :
    Calls Try.prog 12 #[.agg #[.int .i64 k, .int .i64 f, .int .i64 t, .string b]] w fun e w' => e = .returned (.bool true) ∧ Below w.heap.size w w' := by
  have hbad : ¬ (1 ≤ k ∧ k ≤ 11 ∧ 0 ≤ f ∧ f ≤ 63 ∧ 0 ≤ t ∧ t ≤ 63 ∧ (b.size : Int) ≤ 32768) := by
    rintro ⟨h1, h2, h3, h4, h5, h6, h7⟩
    exact hno (by rw [printE_rest h1 h2 h3 h4 h5 h6, if_neg (by omega)])
  have HBAD := Lib.hid hbad
  have hpr := fun W => print_any k f t b W (by omega)
  rw [printS_no rfl hno] at hpr
  generalize printE k f t b = en at *
  have hne : (en != 0) = true := by simpa using hno
  have HPR := Lib.hid hpr
  clear hpr hbad hno
  have hb0 : Below w.heap.size w (w.alloc (.cells #[.int .i64 k, .int .i64 f, .int .i64 t, .string b] 37)) := below_alloc (Below.refl _ _) _
  have hd : decide (40000 < (b.size : Int)) = false := by simp; omega
  go_enter Try.func12, Try.ntmps12
  go_wp2_with fail
  refine (awake05 _).mono ?_
  rintro e w1 ⟨rfl, hb1⟩
  have c0 : w1.cell? ⟨w.heap.size, 0, none⟩ = some (.int .i64 k) := cell_keep (by simp) hb1
  have c1 : w1.cell? ⟨w.heap.size, 1, none⟩ = some (.int .i64 f) := cell_keep (by simp) hb1
  have c2 : w1.cell? ⟨w.heap.size, 2, none⟩ = some (.int .i64 t) := cell_keep (by simp) hb1
  have c3 : w1.cell? ⟨w.heap.size, 3, none⟩ = some (.string b) := cell_keep (by simp) hb1
  have hbl1 := below_step hb0 hb1
  clear hb0 hb1
  go_wp2_with fail
  refine (HPR.out _).mono ?_
  rintro e w2 ⟨rfl, hb2⟩
  have d0 := cell_keep c0 hb2
  have d1 := cell_keep c1 hb2
  have d2 := cell_keep c2 hb2
  have d3 := cell_keep c3 hb2
  have hbl2 := below_step hbl1 hb2
  clear c0 c1 c2 c3 hbl1 hb2 w1
  go_wp2_with fail
  all_goals first
    | (go_ret; exact ⟨rfl, hbl2⟩)
    | exact absurd ⟨by assumption, by assumption, by assumption, by assumption, by assumption, by assumption, by simpa using (by assumption : (!decide ((b.size : Int) ≤ 32768)) = false)⟩ HBAD.out

theorem frame_at (k f t : Int) (b : ByteArray) (i : Nat) (h : i < 7) (hi : i < (frameB k f t b).size) : ((frameB k f t b)[i]'hi).toNat = ((headL k f t b.size).getD i 0).toNat := by
  rw [byAt_get _ i hi]
  unfold byAt
  rw [frameB_eq, sealB_data, inner_data]
  have hl : i < (headL k f t b.size).length := by rw [headL_length]; exact h
  simp [List.getD, List.getElem?_append_left hl]
theorem frame_body (k f t : Int) (b : ByteArray) : (frameB k f t b).extract 7 (7 + b.size) = b := by
  apply WideShapes.bytes_inj
  rw [Lib.extract_data, frameB_eq, sealB_data, inner_data, List.append_assoc, List.drop_left' (headL_length k f t b.size), Nat.add_sub_cancel_left, List.take_left' (size_data b)]

theorem frame_good (k f t : Int) (b : ByteArray) (hk : 1 ≤ k ∧ k ≤ 11) (hf : 0 ≤ f ∧ f ≤ 63) (ht : 0 ≤ t ∧ t ≤ 63) : ∃ (s : ByteArray) (x2 x3 x4 : Nat), frameB k f t b = s ∧ s.size = 11 + b.size ∧
    (∀ h : 2 < s.size, (s[2]'h).toNat = x2) ∧ (∀ h : 3 < s.size, (s[3]'h).toNat = x3) ∧ (∀ h : 4 < s.size, (s[4]'h).toNat = x4) ∧ s.extract 7 (7 + b.size) = b ∧ (x2 : Int) = k ∧ (x3 : Int) = f ∧ (x4 : Int) = t :=
  ⟨_, _, _, _, rfl, frameB_size k f t b, fun h => frame_at k f t b 2 (by omega) h, fun h => frame_at k f t b 3 (by omega) h, fun h => frame_at k f t b 4 (by omega) h, frame_body k f t b,
    byteOf_nat (by omega) (by omega), byteOf_nat (by omega) (by omega), byteOf_nat (by omega) (by omega)⟩

set_option maxHeartbeats 1600000 in
theorem size_good (k f t : Int) (b : ByteArray) (w : World) (h : b.size ≤ 40000) (hyes : printE k f t b = 0) :
    Calls Try.prog 12 #[.agg #[.int .i64 k, .int .i64 f, .int .i64 t, .string b]] w fun e w' => e = .returned (.bool true) ∧ Below w.heap.size w w' := by
  obtain ⟨⟨k1, k2⟩, ⟨f1, f2⟩, ⟨t1, t2⟩, hb⟩ := printE_zero hyes
  have hpr := fun W => print_any k f t b W (by omega)
  rw [printS_yes hyes, hyes] at hpr
  obtain ⟨s, x2, x3, x4, hs, hsz, g2, g3, g4, gb, v2, v3, v4⟩ := frame_good k f t b ⟨k1, k2⟩ ⟨f1, f2⟩ ⟨t1, t2⟩
  rw [hs] at hpr
  have hi2 : (2 : Int) < 11 + (b.size : Int) := by omega
  have hi3 : (3 : Int) < 11 + (b.size : Int) := by omega
  have hi4 : (4 : Int) < 11 + (b.size : Int) := by omega
  have hj1 : (0 : Int) ≤ 7 + (b.size : Int) := by omega
  have hj2 : (7 : Int) ≤ 7 + (b.size : Int) := by omega
  have hj3 : 7 + (b.size : Int) ≤ 11 + (b.size : Int) := by omega
  have hj4 : (7 + (b.size : Int)).toNat = 7 + b.size := by omega
  have hw1 : IntKind.i64.wrap (7 + (b.size : Int)) = 7 + (b.size : Int) := IntWalk.i64_in _ (by omega)
  have hw2 : IntKind.i64.wrap (11 + (b.size : Int)) = 11 + (b.size : Int) := IntWalk.i64_in _ (by omega)
  clear hs
  have HPR := Lib.hid hpr
  have k1' : decide (1 ≤ k) = true := by simpa using k1
  have k2' : decide (k ≤ 11) = true := by simpa using k2
  have f1' : decide (0 ≤ f) = true := by simpa using f1
  have f2' : decide (f ≤ 63) = true := by simpa using f2
  have t1' : decide (0 ≤ t) = true := by simpa using t1
  have t2' : decide (t ≤ 63) = true := by simpa using t2
  have hb' : decide ((b.size : Int) ≤ 32768) = true := by simp; omega
  clear hpr hyes
  have hb0 : Below w.heap.size w (w.alloc (.cells #[.int .i64 k, .int .i64 f, .int .i64 t, .string b] 37)) := below_alloc (Below.refl _ _) _
  have hd : decide (40000 < (b.size : Int)) = false := by simp; omega
  go_enter Try.func12, Try.ntmps12
  go_wp2_with fail
  refine (awake05 _).mono ?_
  rintro e w1 ⟨rfl, hb1⟩
  have c0 : w1.cell? ⟨w.heap.size, 0, none⟩ = some (.int .i64 k) := cell_keep (by simp) hb1
  have c1 : w1.cell? ⟨w.heap.size, 1, none⟩ = some (.int .i64 f) := cell_keep (by simp) hb1
  have c2 : w1.cell? ⟨w.heap.size, 2, none⟩ = some (.int .i64 t) := cell_keep (by simp) hb1
  have c3 : w1.cell? ⟨w.heap.size, 3, none⟩ = some (.string b) := cell_keep (by simp) hb1
  have hbl1 := below_step hb0 hb1
  clear hb0 hb1
  go_wp2_with fail
  refine (HPR.out _).mono ?_
  rintro e w2 ⟨rfl, hb2⟩
  have d0 := cell_keep c0 hb2
  have d1 := cell_keep c1 hb2
  have d2 := cell_keep c2 hb2
  have d3 := cell_keep c3 hb2
  have hbl2 := below_step hbl1 hb2
  clear c0 c1 c2 c3 hbl1 hb2 w1
  go_wp2_with fail
  go_quiet (fail)
  go_wp2
  go_ret
  exact ⟨rfl, below_drewN hbl2 _⟩

theorem size_walk (k f t : Int) (b : ByteArray) (w : World) :
    Calls Try.prog 12 #[.agg #[.int .i64 k, .int .i64 f, .int .i64 t, .string b]] w fun e w' => e = .returned (.bool true) ∧ Below w.heap.size w w' := by
  by_cases h : 40000 < b.size
  · exact size_long k f t b w h
  · by_cases hp : printE k f t b = 0
    · exact size_good k f t b w (by omega) hp
    · exact size_bad k f t b w (by omega) hp
end Go.Proofs.Ythkfgjdbgnbjkaa
