/- The walks of consortref04: the document's sum, Seal, Open. -/
import Derived.Test.YthkfgjdbgnbjkaaCrcW2
namespace Go.Proofs.Ythkfgjdbgnbjkaa
open Go.RowKit
set_option linter.unusedSimpArgs false
set_option linter.unusedVariables false

theorem half_odd (x : BitVec 32) (h : x.toNat % 2 = 1) : bits .xor .u32 ((x.toNat : Int) / 2) 3988292384 = ((CrcM.A x).toNat : Int) := by
  have hx := x.isLt
  have hlow : x.getLsbD 0 = true := by rw [BitVec.getLsbD, Nat.testBit_zero]; simpa using h
  have e3 : ((x.toNat : Int) / 2) = ((x.toNat / 2 : Nat) : Int) := by omega
  have h2 := u32_xor_nat (x.toNat / 2) 3988292384 (by omega) (by omega)
  rw [e3]
  unfold CrcM.A
  rw [BitVec.toNat_xor, BitVec.toNat_ushiftRight, hlow, Nat.shiftRight_eq_div_pow]
  exact h2
theorem half_even (x : BitVec 32) (h : x.toNat % 2 = 0) : ((x.toNat : Int) / 2) = ((CrcM.A x).toNat : Int) := by
  have hx := x.isLt
  have hlow : x.getLsbD 0 = false := by rw [BitVec.getLsbD, Nat.testBit_zero]; simp; omega
  have e3 : ((x.toNat : Int) / 2) = ((x.toNat / 2 : Nat) : Int) := by omega
  rw [e3]
  unfold CrcM.A
  rw [BitVec.toNat_xor, BitVec.toNat_ushiftRight, hlow, Nat.shiftRight_eq_div_pow]
  simp

set_option maxHeartbeats 400000 in
theorem half_any (c : BitVec 32) (w : World) :
    Calls Try.prog 53 #[.int .u32 (c.toNat : Int)] w fun e w' => e = .returned (.int .u32 ((CrcM.A c).toNat : Int)) ∧ w = w' := by
  have hc := c.isLt
  rcases Nat.mod_two_eq_zero_or_one c.toNat with h | h
  · have E := Lib.hid (half_even c h)
    have hd : ((c.toNat : Int) % 2 == 1) = false := by rw [beq_eq_false_iff_ne]; omega
    clear h
    go_enter Try.func53, Try.ntmps53
    go_wp2
    go_ret
    exact ⟨ret_u32 E.out, rfl⟩
  · have E := Lib.hid (half_odd c h)
    have hd : ((c.toNat : Int) % 2 == 1) = true := by rw [beq_iff_eq]; omega
    clear h
    go_enter Try.func53, Try.ntmps53
    go_wp2
    go_ret
    exact ⟨ret_u32 E.out, rfl⟩

theorem sub_ones (x : BitVec 32) : (4294967295 - (x.toNat : Int)) = (((x ^^^ 4294967295#32) : BitVec 32).toNat : Int) := by
  have hx := x.isLt
  have e : x ^^^ 4294967295#32 = ~~~x := by
    have h1 : (4294967295#32) = BitVec.allOnes 32 := by decide
    rw [h1, BitVec.xor_allOnes]
  rw [e, BitVec.toNat_not]
  omega

set_option maxHeartbeats 400000 in
theorem rsum_any (s : ByteArray) (w : World) (hs : s.size ≤ maxLen) :
    Calls Try.prog 25 #[.string s] w fun e w' => e = .returned (.int .u32 ((CrcM.sum s.data.toList).toNat : Int)) ∧ w = w' := by
  unfold maxLen at hs
  go_enter Try.func25, Try.ntmps25
  go_wp2
  go_loop [3, 4] (fun x i => ∃ k : Nat, k ≤ s.size ∧ i = .int .i64 k ∧ x = .int .u32 ((CrcM.fold 4294967295#32 (s.data.toList.take k)).toNat : Int)) (fun _ i => s.size - (intOf i).toNat)
  case atStart => exact ⟨0, by omega, rfl, rfl⟩
  case round =>
    obtain ⟨k, hk, rfl, rfl⟩ := hrel
    by_cases hlt : k < s.size
    · have hts := Lib.hid (take_data_snoc s k hlt)
      generalize hx0 : CrcM.fold 4294967295#32 (s.data.toList.take k) = x0
      have HX0 := Lib.hid hx0
      clear hx0
      have hb := (s[k]).toNat_lt
      have hc := x0.isLt
      have e0 : bits .xor .u32 (x0.toNat : Int) ((s[k]).toNat : Int) = (((x0 ^^^ (s[k]).toBitVec.setWidth 32) : BitVec 32).toNat : Int) := by
        rw [u32_xor_nat _ _ (by omega) (by omega), BitVec.toNat_xor]
        congr 2
      have E0 := Lib.hid e0
      clear e0
      go_wp2
      go_loop [3, 5] (fun x i => ∃ j : Nat, j ≤ 8 ∧ i = .int .i64 j ∧ x = .int .u32 ((CrcM.An j (x0 ^^^ (s[k]).toBitVec.setWidth 32)).toNat : Int)) (fun _ i => 8 - (intOf i).toNat)
      case atStart => exact ⟨0, by omega, rfl, by rw [E0.out]; rfl⟩
      case round =>
        obtain ⟨j, hj, rfl, rfl⟩ := hrel
        by_cases hjt : j < 8
        · generalize hx1 : CrcM.An j (x0 ^^^ (s[k]).toBitVec.setWidth 32) = x1
          have HX1 := Lib.hid hx1
          clear hx1
          go_wp2_with (go_at_call 53; refine (half_any _ _).mono ?_; rintro e w' ⟨rfl, rfl⟩)
          go_round
          case rel => exact ⟨j + 1, by omega, by go_num, by rw [CrcM.An_succ', HX1.out]⟩
          case measure => simp [intOf]; omega
        · obtain rfl : j = 8 := by omega
          go_wp2
          go_round
          case rel => exact ⟨k + 1, by omega, by go_num, by rw [hts.out, CrcM.fold_snoc, HX0.out]; rfl⟩
          case measure => simp [intOf]; omega
    · obtain rfl : k = s.size := by omega
      have HE := Lib.hid (show s.data.toList.take s.size = s.data.toList from List.take_of_length_le (by rw [size_data]; omega))
      have HX := Lib.hid (sub_ones (CrcM.fold 4294967295#32 (s.data.toList.take s.size)))
      have hc := (CrcM.fold 4294967295#32 (s.data.toList.take s.size)).isLt
      go_wp2
      go_ret
      exact ⟨ret_u32 (by rw [HX.out, HE.out]; rfl), rfl⟩

theorem convert_lit (w : World) (x0 x1 x2 x3 : Int) :
    (convert 30 9 (.slice (some ⟨w.heap.size, 0, none⟩) 4 4)).run Try.prog (w.alloc (.cells #[.int .u8 x0, .int .u8 x1, .int .u8 x2, .int .u8 x3] 5)) =
      .ok (.string (strOfNums [x0, x1, x2, x3])) (w.alloc (.cells #[.int .u8 x0, .int .u8 x1, .int .u8 x2, .int .u8 x3] 5)) := by
  refine run_convert_bytes_arg _ 30 5 Try.underlying30 Try.underlying5 w.heap.size 0 4 4 [x0, x1, x2, x3] rfl ?_ 9 Try.underlying9
  intro i hi
  match i, hi with
  | 0, _ => simp [World.cell?_alloc_new]
  | 1, _ => simp
  | 2, _ => simp
  | 3, _ => simp

set_option maxHeartbeats 400000 in
theorem rseal_any (s : ByteArray) (w : World) (hs : s.size ≤ 1000000) :
    Calls Try.prog 27 #[.string s] w fun e w' => e = .returned (.string (sealB s)) ∧ Below w.heap.size w w' := by
  have hm : s.size ≤ maxLen := by unfold maxLen; omega
  have hl : (CrcM.le4 (CrcM.sum s.data.toList)).length = 4 := rfl
  have hcv := fun x0 x1 x2 x3 => convert_lit w x0 x1 x2 x3
  have hc := (CrcM.sum s.data.toList).isLt
  have L4 := le4_int (CrcM.sum s.data.toList)
  go_enter Try.func27, Try.ntmps27
  go_wp2_with (first | (go_at_call 25; refine (rsum_any s _ hm).mono ?_; rintro e w' ⟨rfl, rfl⟩))
  go_ret
  exact ⟨rfl, (Below.refl _ _).alloc (Nat.le_refl _) _⟩

theorem sealB_size (s : ByteArray) : (sealB s).size = s.size + 4 := by
  unfold sealB; rw [ByteArray.size_append]; rfl
theorem sealB_data (s : ByteArray) : (sealB s).data.toList = s.data.toList ++ CrcM.le4 (CrcM.sum s.data.toList) := by
  unfold sealB; simp
/-- to open is to ask whether the bytes are what their own front is sealed to. -/
theorem openOk_seal (s : ByteArray) (m : Nat) (hs : s.size = m + 4) : openOk s = ((sealB (s.extract 0 m)).toList == s.toList) := by
  rw [openOk_of s m hs, ByteArray.toList_eq, ByteArray.toList_eq, ByteArray.toList_eq, sealB_data]
  have e1 : (s.extract 0 m).data.toList = s.data.toList.take m := by rw [Lib.extract_data]; simp
  have e2 : (s.extract m (m + 4)).data.toList = s.data.toList.drop m := by rw [← hs]; exact Lib.extract_to_end s m
  rw [e1, e2, Bool.eq_iff_iff, beq_iff_eq, beq_iff_eq]
  constructor
  · intro h
    rw [h, List.take_append_drop]
  · intro h
    have h2 := congrArg (List.drop m) h
    rw [List.drop_left' (by rw [List.length_take, size_data]; omega)] at h2
    exact h2

set_option maxHeartbeats 400000 in
theorem ropen_any (s : ByteArray) (w : World) (hm : s.size ≤ 1000004) :
    Calls Try.prog 23 #[.string s] w fun e w' => e = .returned (.tuple #[.string (openB s), .bool (openOk s)]) ∧ Below w.heap.size w w' := by
  by_cases hs : s.size < 4
  · have ho : openOk s = false := by unfold openOk; simp; omega
    have hb : openB s = ⟨#[]⟩ := by unfold openB; rw [ho]; rfl
    rw [ho, hb]
    clear ho hb
    have h0 : decide ((s.size : Int) < 4) = true := by simp; omega
    go_enter Try.func23, Try.ntmps23
    go_wp2
    go_ret2
    exact ⟨rfl, Below.refl _ _⟩
  · obtain ⟨m, hm4⟩ : ∃ m, s.size = m + 4 := ⟨s.size - 4, by omega⟩
    have hx : (s.extract 0 m).size ≤ 1000000 := by rw [ByteArray.size_extract]; omega
    have hd : decide ((m : Int) + 4 < 4) = false := by simp; omega
    have h5 : (m : Int) ≤ (m : Int) + 4 := by omega
    have h6 : (0 : Int) ≤ (m : Int) := by omega
    have h7 : m ≤ m + 4 := by omega
    have E := openOk_seal s m hm4
    cases hq : openOk s with
    | false =>
      have hb : openB s = ⟨#[]⟩ := by unfold openB; rw [hq]; rfl
      rw [hq] at E
      have E' := E.symm
      have HB := Lib.hid hb
      clear E hb hq hs
      go_enter Try.func23, Try.ntmps23
      go_wp2_with (go_at_call 27; refine (rseal_any _ _ hx).mono ?_; rintro e w1 ⟨rfl, hb⟩)
      go_ret2
      rw [HB.out]
      exact ⟨rfl, hb⟩
    | true =>
      have hb : openB s = s.extract 0 m := by unfold openB; rw [hq, hm4]; rfl
      rw [hq] at E
      have E' := E.symm
      have HB := Lib.hid hb
      clear E hb hq hs
      go_enter Try.func23, Try.ntmps23
      go_wp2_with (go_at_call 27; refine (rseal_any _ _ hx).mono ?_; rintro e w1 ⟨rfl, hb⟩)
      go_ret2
      rw [HB.out]
      exact ⟨rfl, hb⟩
end Go.Proofs.Ythkfgjdbgnbjkaa
