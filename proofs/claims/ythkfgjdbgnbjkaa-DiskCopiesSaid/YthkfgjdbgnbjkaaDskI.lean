/- The walk of consortlaw08.awake. -/
import Derived.Test.YthkfgjdbgnbjkaaDskH
namespace Go.Proofs.Ythkfgjdbgnbjkaa
open Go.RowKit
set_option linter.unusedSimpArgs false
set_option linter.unusedVariables false

theorem wOk_nil : wOk ⟨#[]⟩ = false := by
  have h : openOk ⟨#[]⟩ = false := by unfold openOk; rfl
  unfold wOk wOpen
  rw [h]
  rfl
theorem nil_none : nAt ⟨#[]⟩ ⟨#[]⟩ = -1 ∧ nR ⟨#[]⟩ ⟨#[]⟩ = ⟨#[]⟩ ∧ nN ⟨#[]⟩ ⟨#[]⟩ = 0 := pickN wOk_nil wOk_nil

theorem awake08_plain (a b c : ByteArray) (ha : a.size = 1) (hb : b.size = 1) (hc : c.size = 1) :
    ∃ x1 y1 x2 y2 x3 y3 : ByteArray,
      actX ⟨#[]⟩ ⟨#[]⟩ a false 0 = x1 ∧ actY ⟨#[]⟩ ⟨#[]⟩ a false 0 = y1 ∧ actX x1 y1 b true 5 = x2 ∧ actY x1 y1 b true 5 = y2 ∧ actX x2 y2 c false 0 = x3 ∧ actY x2 y2 c false 0 = y3 ∧
      nR x2 y2 = a ∧ decide (0 ≤ nAt x2 y2) = true ∧ nR x3 y3 = c ∧ x3.size = 15 ∧ x1.size ≤ 10000 ∧ y1.size ≤ 10000 ∧ x2.size ≤ 10000 ∧ y2.size ≤ 10000 ∧ x3.size ≤ 10000 ∧ y3.size ≤ 10000 := by
  refine ⟨_, _, _, _, _, _, rfl, rfl, rfl, rfl, rfl, rfl, ?_⟩
  obtain ⟨n1, n2, n3⟩ := nil_none
  have e0 : (⟨#[]⟩ : ByteArray).size ≤ 10000 := Nat.zero_le _
  obtain ⟨s1, s2⟩ := act_size ⟨#[]⟩ ⟨#[]⟩ a false 0 e0 e0
  obtain ⟨w1, w2, w3⟩ := write_newest ⟨#[]⟩ ⟨#[]⟩ a (by omega) (by rw [n3]; decide) 0
  obtain ⟨f1, f2⟩ := act_first (x := ⟨#[]⟩) (y := ⟨#[]⟩) (s := a) (tear := false) (keep := 0) (by omega) (by unfold first; rw [n1]; rfl)
  have hsz1 : (actX ⟨#[]⟩ ⟨#[]⟩ a false 0).size = 15 := by
    rw [f1]
    unfold outB
    rw [if_neg (by decide), recB_size, ha]
  have hat1 : nAt (actX ⟨#[]⟩ ⟨#[]⟩ a false 0) (actY ⟨#[]⟩ ⟨#[]⟩ a false 0) = 0 := by
    rcases nAt_cases (actX ⟨#[]⟩ ⟨#[]⟩ a false 0) (actY ⟨#[]⟩ ⟨#[]⟩ a false 0) with h | h | h
    · exact absurd h.1 w1
    · exact h.1
    · have := h.2.1
      rw [f2, wOk_nil] at this
      cases this
  generalize actX ⟨#[]⟩ ⟨#[]⟩ a false 0 = x1 at *
  generalize actY ⟨#[]⟩ ⟨#[]⟩ a false 0 = y1 at *
  obtain ⟨s3, s4⟩ := act_size x1 y1 b true 5 s1 s2
  obtain ⟨t1, t2, t3⟩ := tear_newest x1 y1 b (by omega) 5
  obtain ⟨g1, g2⟩ := act_second (x := x1) (y := y1) (s := b) (tear := true) (keep := 5) (by omega) (by unfold first; rw [hat1]; rfl)
  rw [hat1] at t1
  rw [w2] at t2
  rw [w3, n3] at t3
  generalize actY x1 y1 b true 5 = y2 at *
  generalize actX x1 y1 b true 5 = x2 at *
  obtain ⟨s5, s6⟩ := act_size x2 y2 c false 0 s3 s4
  obtain ⟨u1, u2, u3⟩ := write_newest x2 y2 c (by omega) (by rw [t3]; decide) 0
  obtain ⟨k1, k2⟩ := act_second (x := x2) (y := y2) (s := c) (tear := false) (keep := 0) (by omega) (by unfold first; rw [t1]; rfl)
  refine ⟨t2, by rw [t1]; rfl, u2, ?_, s1, s2, s3, s4, s5, s6⟩
  rw [k1, g1, hsz1]

theorem actE_small {s : ByteArray} (h : s.size = 1) : actE s = 0 := by unfold actE; rw [if_neg (by omega)]

set_option maxHeartbeats 800000 in
theorem awake08 (w : World) : Calls Try.prog 33 #[] w fun e w' => e = .returned (.bool true) ∧ Below w.heap.size w w' := by
  obtain ⟨x1, y1, x2, y2, x3, y3, q1, q2, q3, q4, q5, q6, r1, r2, r3, z, s1, s2, s3, s4, s5, s6⟩ := awake08_plain ⟨#[97]⟩ ⟨#[98]⟩ ⟨#[99]⟩ rfl rfl rfl
  obtain ⟨n1, n2, n3⟩ := nil_none
  have e0 : (⟨#[]⟩ : ByteArray).size ≤ 1000004 := Nat.zero_le _
  have C1 := Lib.hid (fun g W (h : DskAt W g ⟨#[]⟩ ⟨#[]⟩) => dread_any g _ _ W h e0 e0)
  rw [n1, n2] at C1
  have C2 := Lib.hid (fun g W (h : DskAt W g ⟨#[]⟩ ⟨#[]⟩) => dwrite_any g _ _ ⟨#[97]⟩ W h e0 e0 0)
  rw [q1, q2, actE_small rfl] at C2
  have C3 := Lib.hid (fun g W (h : DskAt W g x1 y1) => dtear_any g _ _ ⟨#[98]⟩ W h (by omega) (by omega) 5)
  rw [q3, q4] at C3
  have C4 := Lib.hid (fun g W (h : DskAt W g x2 y2) => dread_any g _ _ W h (by omega) (by omega))
  rw [r1, r2] at C4
  have C5 := Lib.hid (fun g W (h : DskAt W g x2 y2) => dwrite_any g _ _ ⟨#[99]⟩ W h (by omega) (by omega) 0)
  rw [q5, q6] at C5
  have C6 := Lib.hid (fun g W (h : DskAt W g x3 y3) => dread_any g _ _ W h (by omega) (by omega))
  rw [r3] at C6
  clear q1 q2 q3 q4 q5 q6 n1 n2 n3 r1 r2 r3
  go_enter Try.func33, Try.ntmps33
  go_wp2_with fail
  refine (dnew_any w).mono ?_
  rintro e w1 ⟨rfl, hd1, hb1⟩
  go_wp2_with fail
  refine (C1.out _ _ hd1).mono ?_
  rintro e w2 ⟨rfl, hb2⟩
  have hd2 := hd1.kept hb2
  have hbl := below_step hb1 hb2
  clear hd1 hb1 hb2 C1
  go_wp2_with fail
  refine (C2.out _ _ hd2).mono ?_
  rintro e w3 ⟨rfl, hd3, ho3⟩
  have hbl3 := ho3.below hbl hbl.size (Nat.le_refl _)
  clear hd2 hbl ho3 C2
  go_wp2_with fail
  refine (C3.out _ _ hd3).mono ?_
  rintro e w4 ⟨rfl, hd4, ho4⟩
  have hbl4 := ho4.below hbl3 hbl3.size (Nat.le_refl _)
  clear hd3 hbl3 ho4 C3
  go_wp2_with fail
  refine (C4.out _ _ hd4).mono ?_
  rintro e w5 ⟨rfl, hb5⟩
  have hd5 := hd4.kept hb5
  have hbl5 := below_step hbl4 hb5
  clear hd4 hb5 hbl4 C4
  go_wp2_with fail
  refine (C5.out _ _ hd5).mono ?_
  rintro e w6 ⟨rfl, hd6, ho6⟩
  have hbl6 := ho6.below hbl5 hbl5.size (Nat.le_refl _)
  clear hd5 hbl5 ho6 C5
  go_wp2_with fail
  refine (C6.out _ _ hd6).mono ?_
  rintro e w7 ⟨rfl, hb7⟩
  have hd7 := hd6.kept hb7
  have hbl7 := below_step hbl6 hb7
  clear hd6 hb7 hbl6 C6
  go_wp2_with fail
  refine (slot0_any _ _ _ _ hd7).mono ?_
  rintro e w8 ⟨rfl, rfl⟩
  go_wp2_with fail
  refine (slotN_any _ _ _ (.inr (by omega))).mono ?_
  rintro e w8 ⟨rfl, rfl⟩
  go_wp2_with fail
  go_ret
  exact ⟨rfl, hbl7⟩
end Go.Proofs.Ythkfgjdbgnbjkaa
