/- The walk of the law CrcBack. -/
import Derived.Test.YthkfgjdbgnbjkaaCrcN
import Derived.Test.YthkfgjdbgnbjkaaCrcS
import Derived.BigRegion
import Derived.IntWalk
import Derived.OpenShut
namespace Go.Proofs.Ythkfgjdbgnbjkaa
open Go.RowKit
set_option linter.unusedSimpArgs false
set_option linter.unusedVariables false

/-- bytes with one of them turned. -/
def turnB (t : ByteArray) (n : Nat) (m : UInt8) : ByteArray := t.extract 0 n ++ ⟨#[t.data.toList.getD n 0 ^^^ m]⟩ ++ t.extract (n + 1) t.size
theorem turnB_data (t : ByteArray) (n : Nat) (m : UInt8) : (turnB t n m).data.toList = t.data.toList.take n ++ (t.data.toList.getD n 0 ^^^ m) :: t.data.toList.drop (n + 1) := by
  unfold turnB
  simp only [ByteArray.data_append, Array.toList_append]
  rw [Lib.extract_data, Lib.extract_to_end]
  simp
theorem turnB_size (t : ByteArray) (n : Nat) (m : UInt8) (h : n < t.size) : (turnB t n m).size = t.size := by
  rw [← size_data, turnB_data, List.length_append, List.length_cons, List.length_take, List.length_drop, size_data]
  omega
theorem turn_not_open (s : ByteArray) (n : Nat) (m : UInt8) (h : n < (sealB s).size) (hm : m ≠ 0) : openOk (turnB (sealB s) n m) = false := by
  rw [Bool.eq_false_iff]
  intro hc
  obtain ⟨_, h1⟩ := (CrcM.openOk_iff _).1 hc
  obtain ⟨_, h2⟩ := (CrcM.openOk_iff _).1 (openOk_sealB s)
  rw [turnB_data, CrcM.fold_turn] at h1
  have e : (sealB s).data.toList.take n ++ (sealB s).data.toList.getD n 0 :: (sealB s).data.toList.drop (n + 1) = (sealB s).data.toList := by
    have hn : n < (sealB s).data.toList.length := by rw [size_data]; exact h
    have : (sealB s).data.toList.getD n 0 = (sealB s).data.toList[n] := by simp [List.getD, List.getElem?_eq_getElem hn]
    rw [this, ← List.drop_eq_getElem_cons hn, List.take_append_drop]
  rw [e, h2] at h1
  exact hm (CrcM.b32_zero (CrcM.An_ker _ (CrcM.xor_cancel _ _ h1)))

theorem convert_one (W : World) (k : Nat) (x : Int) (hc : W.cell? ⟨k, 0, none⟩ = some (.int .u8 x)) :
    (convert 30 9 (.slice (some ⟨k, 0, none⟩) 1 1)).run Try.prog W = .ok (.string (strOfNums [x])) W := by
  refine run_convert_bytes_arg _ 30 5 Try.underlying30 Try.underlying5 k 0 1 1 [x] rfl ?_ 9 Try.underlying9
  intro i hi
  obtain rfl : i = 0 := by omega
  simpa using hc

theorem turn_str (t : ByteArray) (n : Nat) (m : UInt8) (h : n < t.size) : strOfNums [bits .xor .u8 ((t[n]'h).toNat : Int) (m.toNat : Int)] = ⟨#[t.data.toList.getD n 0 ^^^ m]⟩ := by
  have h1 := (t[n]'h).toNat_lt
  have h2 := m.toNat_lt
  rw [u8_xor_nat _ _ h1 h2]
  unfold strOfNums
  have e : t.data.toList.getD n 0 = t[n]'h := by
    have hn : n < t.data.toList.length := by rw [size_data]; exact h
    simp only [List.getD, List.getElem?_eq_getElem hn, Option.getD_some]
    rfl
  rw [e]
  simp only [List.map_cons, List.map_nil, Int.toNat_natCast]
  congr 2
  rw [← UInt8.toNat_xor]
  simp

set_option maxHeartbeats 400000 in
theorem back_turn (s : ByteArray) (n : Nat) (m : UInt8) (w : World) (hs : s.size ≤ 5000) (hn : n < s.size + 4) (hm : m ≠ 0) :
    Calls Try.prog 4 #[.string s, .int .i64 (n : Int), .int .u8 (m.toNat : Int)] w fun e w' => e = .returned (.bool true) ∧ Below w.heap.size w w' := by
  have hd1 : decide (5000 < (s.size : Int)) = false := by simp; omega
  have ht := sealB_size s
  have o1 := openOk_sealB s
  have b1 := openB_sealB s
  have hz : (sealB s).size ≤ 1000004 := by rw [ht]; omega
  have hn' : n < (sealB s).size := by rw [ht]; exact hn
  have o2 := turn_not_open s n m hn' hm
  have b2 : openB (turnB (sealB s) n m) = ⟨#[]⟩ := by unfold openB; rw [o2]; rfl
  have hv := turnB_size (sealB s) n m hn'
  have hts := turn_str (sealB s) n m hn'
  have hm0 : ((m.toNat : Int) == 0) = false := by
    rw [beq_eq_false_iff_ne]
    intro h
    exact hm (UInt8.toNat_inj.1 (by simpa using h))
  generalize hT : sealB s = t at *
  have HT := Lib.hid hT
  clear hT
  have hV : turnB t n m = t.extract 0 n ++ ⟨#[t.data.toList.getD n 0 ^^^ m]⟩ ++ t.extract (n + 1) t.size := rfl
  generalize t.data.toList.getD n 0 ^^^ m = u at hV hts
  rw [ht] at hV
  replace hV := hV.symm
  generalize turnB t n m = v at *
  have hd0 : decide ((n : Int) < 0) = false := by simp
  go_enter Try.func4, Try.ntmps4
  go_wp2_with fail
  refine (awake04 _).mono ?_
  rintro e w1 ⟨rfl, hb1⟩
  go_wp2_with fail
  refine (seal_any _ _ (by omega)).mono ?_
  rw [HT.out]
  rintro e w2 ⟨rfl, hb2⟩
  go_wp2_with fail
  refine (open_any _ _ hz).mono ?_
  rintro e w3 ⟨rfl, hb3⟩
  have hi0 : (0 : Int) ≤ (n : Int) := by omega
  have hi1 : (n : Int) < (s.size : Int) + 4 := by omega
  have hi2 : decide ((s.size : Int) + 4 ≤ (n : Int)) = false := by simp; omega
  have hc := fun x => convert_one (w3.alloc (.cells #[.int .u8 x] 5)).drew w3.heap.size x (by simp)
  have h5 : (n : Int) ≤ (s.size : Int) + 4 := by omega
  have h6 : (n : Int) + 1 ≤ (s.size : Int) + 4 := by omega
  have h7 : n ≤ s.size + 4 := by omega
  have h8 : n + 1 ≤ s.size + 4 := by omega
  have hb4 := below_step (below_step hb1 hb2) hb3
  go_wp2_with fail
  have h9 : (0 : Int) ≤ (n : Int) + 1 := by omega
  have h10 : ((n : Int) + 1).toNat = n + 1 := by omega
  have h11 : ¬ 9223372036854775807 < n + 1 := by omega
  have h12 : ¬ 9223372036854775807 < n + 1 + (s.size + 4 - (n + 1)) := by omega
  have h13 : IntKind.i64.wrap ((n : Int) + 1) = (n : Int) + 1 := IntWalk.i64_in _ (by omega)
  have h14 : ¬ 9223372036854775807 < n + 1 + (s.size + 3 - n) := by omega
  go_region
  all_goals go_wp2_with fail
  all_goals refine (open_any _ _ (by omega)).mono ?_
  all_goals rintro e w4 ⟨rfl, hb5⟩
  all_goals go_wp2_with fail
  all_goals go_ret
  all_goals exact ⟨rfl, below_step (below_drew (below_alloc hb4 _)) hb5⟩
set_option maxHeartbeats 400000 in
theorem back_long (s : ByteArray) (a b : Int) (w : World) (hs : 5000 < s.size) :
    Calls Try.prog 4 #[.string s, .int .i64 a, .int .u8 b] w fun e w' => e = .returned (.bool true) ∧ Below w.heap.size w w' := by
  have hd1 : decide (5000 < (s.size : Int)) = true := by simp; omega
  go_enter Try.func4, Try.ntmps4
  go_wp2_with fail
  refine (awake04 _).mono ?_
  rintro e w1 ⟨rfl, hb1⟩
  go_wp2_with fail
  go_ret
  exact ⟨rfl, hb1⟩

set_option maxHeartbeats 400000 in
theorem back_out (s : ByteArray) (a b : Int) (w : World) (hs : s.size ≤ 5000) (h : a < 0 ∨ 0 ≤ a ∧ (s.size : Int) + 4 ≤ a ∨ 0 ≤ a ∧ a < (s.size : Int) + 4 ∧ b = 0) :
    Calls Try.prog 4 #[.string s, .int .i64 a, .int .u8 b] w fun e w' => e = .returned (.bool true) ∧ Below w.heap.size w w' := by
  have hd1 : decide (5000 < (s.size : Int)) = false := by simp; omega
  have ht := sealB_size s
  have o1 := openOk_sealB s
  have b1 := openB_sealB s
  have hz : (sealB s).size ≤ 1000004 := by rw [ht]; omega
  rcases h with h | ⟨h, h'⟩ | ⟨h, h', rfl⟩
  · have hd2 : decide (a < 0) = true := by simp; omega
    go_enter Try.func4, Try.ntmps4
    go_wp2_with fail
    refine (awake04 _).mono ?_
    rintro e w1 ⟨rfl, hb1⟩
    go_wp2_with fail
    refine (seal_any _ _ (by omega)).mono ?_
    rintro e w2 ⟨rfl, hb2⟩
    go_wp2_with fail
    refine (open_any _ _ hz).mono ?_
    rintro e w3 ⟨rfl, hb3⟩
    go_wp2_with fail
    go_ret
    exact ⟨rfl, below_step (below_step hb1 hb2) hb3⟩
  · have hd2 : decide (a < 0) = false := by simp; omega
    have hd3 : decide ((s.size : Int) + 4 ≤ a) = true := by simp; omega
    go_enter Try.func4, Try.ntmps4
    go_wp2_with fail
    refine (awake04 _).mono ?_
    rintro e w1 ⟨rfl, hb1⟩
    go_wp2_with fail
    refine (seal_any _ _ (by omega)).mono ?_
    rintro e w2 ⟨rfl, hb2⟩
    go_wp2_with fail
    refine (open_any _ _ hz).mono ?_
    rintro e w3 ⟨rfl, hb3⟩
    go_wp2_with fail
    go_ret
    exact ⟨rfl, below_step (below_step hb1 hb2) hb3⟩
  · have hd2 : decide (a < 0) = false := by simp; omega
    have hd3 : decide ((s.size : Int) + 4 ≤ a) = false := by simp; omega
    go_enter Try.func4, Try.ntmps4
    go_wp2_with fail
    refine (awake04 _).mono ?_
    rintro e w1 ⟨rfl, hb1⟩
    go_wp2_with fail
    refine (seal_any _ _ (by omega)).mono ?_
    rintro e w2 ⟨rfl, hb2⟩
    go_wp2_with fail
    refine (open_any _ _ hz).mono ?_
    rintro e w3 ⟨rfl, hb3⟩
    go_wp2_with fail
    go_ret
    exact ⟨rfl, below_step (below_step hb1 hb2) hb3⟩

/-- a byte's number is a byte. -/
theorem byte_of (b : Int) (h : 0 ≤ b ∧ b ≤ 255) : ∃ m : UInt8, b = (m.toNat : Int) :=
  ⟨UInt8.ofNat b.toNat, by rw [UInt8.toNat_ofNat']; omega⟩
theorem back_walk (s : ByteArray) (a b : Int) (ws : s.size ≤ maxLen) (wa : (Lit.int .i64 a).wf = true) (wb : (Lit.int .u8 b).wf = true) (w : World) :
    Calls Try.prog 4 #[.string s, .int .i64 a, .int .u8 b] w fun e w' => e = .returned (.bool true) ∧ Below w.heap.size w w' := by
  by_cases hs : s.size ≤ 5000
  · by_cases h : a < 0 ∨ 0 ≤ a ∧ (s.size : Int) + 4 ≤ a ∨ 0 ≤ a ∧ a < (s.size : Int) + 4 ∧ b = 0
    · exact back_out s a b w hs h
    · obtain ⟨n, rfl⟩ := Int.eq_ofNat_of_zero_le (show 0 ≤ a by omega)
      have hb := bounds_u8 wb
      obtain ⟨m, rfl⟩ := byte_of b (by omega)
      refine back_turn s n m w hs (by omega) ?_
      rintro rfl
      exact h (Or.inr (Or.inr ⟨by omega, by omega, rfl⟩))
  · exact back_long s a b w (by omega)
end Go.Proofs.Ythkfgjdbgnbjkaa
