/- The walks of the laws CrcSums and CrcParts. -/
import Derived.Test.YthkfgjdbgnbjkaaCrcL
import Derived.RowKit3
namespace Go.Proofs.Ythkfgjdbgnbjkaa
open Go.RowKit
set_option linter.unusedSimpArgs false
set_option linter.unusedVariables false

theorem catB_two (a b : ByteArray) : catB [a, b] = (a ++ b).data.toList := by simp [catB]
theorem catB_three (a b c : ByteArray) : catB [a, b, c] = (a ++ b ++ c).data.toList := by simp [catB]
theorem empty_data : (⟨#[]⟩ : ByteArray).data.toList = [] := rfl

theorem sizes_two {a b : ByteArray} {m : Nat} (ha : a.size ≤ m) (hb : b.size ≤ m) : ∀ i, i < [a, b].length → ([a, b].getD i ByteArray.empty).size ≤ m := by
  intro i hi
  match i, hi with
  | 0, _ => exact ha
  | 1, _ => exact hb
theorem sizes_three {a b c : ByteArray} {m : Nat} (ha : a.size ≤ m) (hb : b.size ≤ m) (hc : c.size ≤ m) : ∀ i, i < [a, b, c].length → ([a, b, c].getD i ByteArray.empty).size ≤ m := by
  intro i hi
  match i, hi with
  | 0, _ => exact ha
  | 1, _ => exact hb
  | 2, _ => exact hc

/-- a cell of the block that was made last. -/
theorem cell_top {W : World} {cs : Array Value} {t : TypeId} {k j : Nat} {v : Value} (hk : k = W.heap.size) (hj : cs[j]? = some v) : (W.alloc (.cells cs t)).cell? ⟨k, j, none⟩ = some v := by
  subst hk
  rw [World.cell?_alloc_new]
  exact hj

theorem sum_two (k : Nat) (a b : ByteArray) (w : World) (h0 : w.cell? ⟨k, 0, none⟩ = some (.string a)) (h1 : w.cell? ⟨k, 1, none⟩ = some (.string b)) (ha : a.size ≤ maxLen) (hb : b.size ≤ maxLen) :
    Calls Try.prog 24 #[.slice (some ⟨k, 0, none⟩) 2 2] w fun e w' => e = .returned (.int .u32 ((CrcM.sum (a ++ b).data.toList).toNat : Int)) ∧ w = w' := by
  have h := sum_any (some ⟨k, 0, none⟩) 2 2 [a, b] w rfl (fun i hi => match i, hi with
    | 0, _ => ⟨_, 0, rfl, h0⟩
    | 1, _ => ⟨_, 0, rfl, h1⟩) (by simp) (sizes_two ha hb)
  rw [catB_two] at h
  exact h
theorem sum_three (k : Nat) (a b c : ByteArray) (w : World) (h0 : w.cell? ⟨k, 0, none⟩ = some (.string a)) (h1 : w.cell? ⟨k, 1, none⟩ = some (.string b)) (h2 : w.cell? ⟨k, 2, none⟩ = some (.string c))
    (ha : a.size ≤ maxLen) (hb : b.size ≤ maxLen) (hc : c.size ≤ maxLen) :
    Calls Try.prog 24 #[.slice (some ⟨k, 0, none⟩) 3 3] w fun e w' => e = .returned (.int .u32 ((CrcM.sum (a ++ b ++ c).data.toList).toNat : Int)) ∧ w = w' := by
  have h := sum_any (some ⟨k, 0, none⟩) 3 3 [a, b, c] w rfl (fun i hi => match i, hi with
    | 0, _ => ⟨_, 0, rfl, h0⟩
    | 1, _ => ⟨_, 0, rfl, h1⟩
    | 2, _ => ⟨_, 0, rfl, h2⟩) (by simp) (sizes_three ha hb hc)
  rw [catB_three] at h
  exact h

set_option maxHeartbeats 400000 in
theorem sums_walk (a b : ByteArray) (wa : a.size ≤ maxLen) (wb : b.size ≤ maxLen) (w : World) :
    Calls Try.prog 3 #[.string a, .string b] w fun e w' => e = .returned (.bool true) ∧ Below w.heap.size w w' := by
  by_cases ha : a.size ≤ 5000
  · by_cases hb : b.size ≤ 5000
    · have hd1 : decide (5000 < (a.size : Int)) = false := by simp; omega
      have hd2 : decide (5000 < (b.size : Int)) = false := by simp; omega
      have hl : (a ++ b).size ≤ maxLen := by rw [ByteArray.size_append]; unfold maxLen; omega
      go_enter Try.func3, Try.ntmps3
      go_wp2_with fail
      refine (awake04 _).mono ?_
      rintro e w1 ⟨rfl, hb1⟩
      go_wp2_with fail
      refine (open_any _ _ (by omega)).mono ?_
      rintro e w2 ⟨rfl, hb2⟩
      go_wp2_with fail
      refine (ropen_any _ _ (by omega)).mono ?_
      rintro e w3 ⟨rfl, hb3⟩
      go_wp2_with fail
      refine (sum_two _ a b _ (cell_top (by simp) rfl) (cell_top (by simp) rfl) wa wb).mono ?_
      rintro e w4 ⟨rfl, rfl⟩
      go_wp2_with fail
      refine (rsum_any _ _ hl).mono ?_
      rintro e w5 ⟨rfl, rfl⟩
      go_wp2_with fail
      refine (seal_any _ _ (by omega)).mono ?_
      rintro e w6 ⟨rfl, hb6⟩
      go_wp2_with fail
      refine (rseal_any _ _ (by omega)).mono ?_
      rintro e w7 ⟨rfl, hb7⟩
      go_wp2_with fail
      go_ret
      exact ⟨rfl, below_step (below_step (below_alloc (below_step (below_step hb1 hb2) hb3) _) hb6) hb7⟩
    · have hd1 : decide (5000 < (a.size : Int)) = false := by simp; omega
      have hd2 : decide (5000 < (b.size : Int)) = true := by simp; omega
      go_enter Try.func3, Try.ntmps3
      go_wp2_with fail
      refine (awake04 _).mono ?_
      rintro e w1 ⟨rfl, hb1⟩
      go_wp2_with fail
      go_ret
      exact ⟨rfl, hb1⟩
  · have hd1 : decide (5000 < (a.size : Int)) = true := by simp; omega
    go_enter Try.func3, Try.ntmps3
    go_wp2_with fail
    refine (awake04 _).mono ?_
    rintro e w1 ⟨rfl, hb1⟩
    go_wp2_with fail
    go_ret
    exact ⟨rfl, hb1⟩

set_option maxHeartbeats 400000 in
theorem parts_walk (a b c : ByteArray) (wa : a.size ≤ maxLen) (wb : b.size ≤ maxLen) (wc : c.size ≤ maxLen) (w : World) :
    Calls Try.prog 6 #[.string a, .string b, .string c] w fun e w' => e = .returned (.bool true) ∧ Below w.heap.size w w' := by
  by_cases ha : a.size ≤ 3000
  · by_cases hb : b.size ≤ 3000
    · by_cases hc : c.size ≤ 3000
      · have hd1 : decide (3000 < (a.size : Int)) = false := by simp; omega
        have hd2 : decide (3000 < (b.size : Int)) = false := by simp; omega
        have hd3 : decide (3000 < (c.size : Int)) = false := by simp; omega
        have hab : (a ++ b).size ≤ maxLen := by rw [ByteArray.size_append]; unfold maxLen; omega
        have hbc : (b ++ c).size ≤ maxLen := by rw [ByteArray.size_append]; unfold maxLen; omega
        have habc : (a ++ b ++ c).size ≤ maxLen := by rw [ByteArray.size_append, ByteArray.size_append]; unfold maxLen; omega
        go_enter Try.func6, Try.ntmps6
        go_wp2_with fail
        refine (awake04 _).mono ?_
        rintro e w1 ⟨rfl, hb1⟩
        go_wp2_with fail
        refine (sum_one _ (a ++ b ++ c) _ (by simp) habc).mono ?_
        rintro e w2 ⟨rfl, rfl⟩
        go_wp2_with fail
        refine (sum_three _ a b c _ (cell_top (by simp) rfl) (cell_top (by simp) rfl) (cell_top (by simp) rfl) wa wb wc).mono ?_
        rintro e w4 ⟨rfl, rfl⟩
        go_wp2_with fail
        refine (sum_three _ (a ++ b) ⟨#[]⟩ c _ (cell_top (by simp) rfl) (cell_top (by simp) rfl) (cell_top (by simp) rfl) hab (by decide) wc).mono ?_
        rintro e w4 ⟨rfl, rfl⟩
        go_wp2_with fail
        refine (sum_two _ a (b ++ c) _ (cell_top (by simp) rfl) (cell_top (by simp) rfl) wa hbc).mono ?_
        rintro e w4 ⟨rfl, rfl⟩
        go_wp2_with fail
        go_ret
        exact ⟨rfl, below_alloc (below_alloc (below_alloc (below_alloc hb1 _) _) _) _⟩
      · have hd1 : decide (3000 < (a.size : Int)) = false := by simp; omega
        have hd2 : decide (3000 < (b.size : Int)) = false := by simp; omega
        have hd3 : decide (3000 < (c.size : Int)) = true := by simp; omega
        go_enter Try.func6, Try.ntmps6
        go_wp2_with fail
        refine (awake04 _).mono ?_
        rintro e w1 ⟨rfl, hb1⟩
        go_wp2_with fail
        go_ret
        exact ⟨rfl, hb1⟩
    · have hd1 : decide (3000 < (a.size : Int)) = false := by simp; omega
      have hd2 : decide (3000 < (b.size : Int)) = true := by simp; omega
      go_enter Try.func6, Try.ntmps6
      go_wp2_with fail
      refine (awake04 _).mono ?_
      rintro e w1 ⟨rfl, hb1⟩
      go_wp2_with fail
      go_ret
      exact ⟨rfl, hb1⟩
  · have hd1 : decide (3000 < (a.size : Int)) = true := by simp; omega
    go_enter Try.func6, Try.ntmps6
    go_wp2_with fail
    refine (awake04 _).mono ?_
    rintro e w1 ⟨rfl, hb1⟩
    go_wp2_with fail
    go_ret
    exact ⟨rfl, hb1⟩
end Go.Proofs.Ythkfgjdbgnbjkaa
