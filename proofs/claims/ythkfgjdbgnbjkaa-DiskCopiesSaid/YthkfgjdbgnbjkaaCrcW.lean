/- The walks of package crc and of its reference: each function once. -/
import Derived.Test.YthkfgjdbgnbjkaaRows
import Derived.Test.YthkfgjdbgnbjkaaCrcM
import Derived.WalkKit
import Derived.WalkSpells
import Derived.WalkLawsBesides
import Derived.Lib.Hide
import Derived.Deep.LoopGhost
import Derived.Deep.RegionWith
import Derived.Deep.QuietTactic
import Derived.BigQuiet
import Derived.Laws.BitsAllLaws
namespace Go.Proofs.Ythkfgjdbgnbjkaa
open Go.RowKit
set_option linter.unusedSimpArgs false
set_option linter.unusedVariables false

theorem ret_u32 {a b : Int} (h : a = b) : Ending.returned (.int .u32 a) = .returned (.int .u32 b) := by rw [h]

/-- the walk's spelling of one bit's step. -/
theorem A_int (x : BitVec 32) : bits .xor .u32 ((x.toNat : Int) / 2) ((3988292384 * bits .and .u32 (x.toNat : Int) 1) % 4294967296) = ((CrcM.A x).toNat : Int) := by
  have hx := x.isLt
  have e1 : bits .and .u32 (x.toNat : Int) 1 = ((x.toNat % 2 : Nat) : Int) := by
    have := u32_and_nat x.toNat 1 (by omega) (by omega)
    rw [nat_mask1] at this
    exact this
  have hlow : x.getLsbD 0 = decide (x.toNat % 2 = 1) := by
    rw [BitVec.getLsbD, Nat.testBit_zero]
  rw [e1]
  have e2 : (3988292384 * ((x.toNat % 2 : Nat) : Int)) % 4294967296 = ((3988292384 * (x.toNat % 2) : Nat) : Int) := by omega
  have e3 : ((x.toNat : Int) / 2) = ((x.toNat / 2 : Nat) : Int) := by omega
  rw [e2, e3, u32_xor_nat _ _ (by omega) (by omega)]
  unfold CrcM.A
  rw [BitVec.toNat_xor, BitVec.toNat_ushiftRight, hlow]
  congr 1
  rcases Nat.mod_two_eq_zero_or_one x.toNat with h | h <;> simp [h, Nat.shiftRight_eq_div_pow]

set_option maxHeartbeats 400000 in
theorem step_any (c : BitVec 32) (b : UInt8) (w : World) :
    Calls Try.prog 52 #[.int .u32 (c.toNat : Int), .int .u8 (b.toNat : Int)] w fun e w' => e = .returned (.int .u32 ((CrcM.up c b).toNat : Int)) ∧ w = w' := by
  have hb := b.toNat_lt
  have hc := c.isLt
  have e0 : bits .xor .u32 (c.toNat : Int) (b.toNat : Int) = (((c ^^^ b.toBitVec.setWidth 32) : BitVec 32).toNat : Int) := by
    rw [u32_xor_nat _ _ (by omega) (by omega), BitVec.toNat_xor]
    congr 2
  have e1 : (b.toNat : Int) % 4294967296 = b.toNat := by omega
  have E0 := Lib.hid e0
  clear e0
  go_enter Try.func52, Try.ntmps52
  go_wp2
  go_loop [0, 10] (fun x i => ∃ k : Nat, k ≤ 8 ∧ i = .int .i64 k ∧ x = .int .u32 ((CrcM.An k (c ^^^ b.toBitVec.setWidth 32)).toNat : Int)) (fun _ i => 8 - (intOf i).toNat)
  case atStart => exact ⟨0, by omega, rfl, by rw [E0.out]; rfl⟩
  case round =>
    obtain ⟨k, hk, rfl, rfl⟩ := hrel
    clear E0
    generalize hx : CrcM.An k (c ^^^ b.toBitVec.setWidth 32) = x
    have HX := Lib.hid hx
    clear hx
    have ea := Lib.hid (A_int x)
    by_cases hlt : k < 8
    · go_wp2
      go_round
      case rel => exact ⟨k + 1, by omega, by go_num, by rw [ea.out, CrcM.An_succ', HX.out]⟩
      case measure => simp [intOf]; omega
    · obtain rfl : k = 8 := by omega
      go_wp2
      go_ret
      exact ⟨ret_u32 (by rw [← HX.out]; rfl), rfl⟩
theorem xor_ones (x : BitVec 32) : bits .xor .u32 (x.toNat : Int) 4294967295 = (((x ^^^ 4294967295#32) : BitVec 32).toNat : Int) := by
  have := x.isLt
  have h := u32_xor_nat x.toNat 4294967295 (by omega) (by omega)
  rw [BitVec.toNat_xor]
  exact h
/-- a slice of strings that reads as a list. -/
def ReadsStr (w : World) (A : Option Addr) (l : List ByteArray) : Prop :=
  ∀ i, i < l.length → ∃ b o, A = some ⟨b, o, none⟩ ∧ w.cell? ⟨b, o + i, none⟩ = some (.string (l.getD i ByteArray.empty))
def catB (l : List ByteArray) : List UInt8 := l.flatMap fun s => s.data.toList
theorem catB_take_succ (l : List ByteArray) (k : Nat) (h : k < l.length) : catB (l.take (k + 1)) = catB (l.take k) ++ (l.getD k ByteArray.empty).data.toList := by
  have e : l[k]?.getD ByteArray.empty = l[k] := by rw [List.getElem?_eq_getElem h]; rfl
  simp only [catB, List.take_succ_eq_append_getElem h, List.flatMap_append, List.flatMap_cons, List.flatMap_nil, List.append_nil, List.getD, e]
theorem size_data (s : ByteArray) : s.data.toList.length = s.size := by rw [Array.length_toList]; rfl
theorem take_data_snoc (s : ByteArray) (k : Nat) (h : k < s.size) : s.data.toList.take (k + 1) = s.data.toList.take k ++ [s[k]] := by
  rw [List.take_succ_eq_append_getElem (by rw [size_data]; exact h)]; rfl

set_option maxHeartbeats 400000 in
theorem sum_any (A : Option Addr) (n cap : Nat) (l : List ByteArray) (w : World) (hn : n = l.length) (hR : ReadsStr w A l) (hl : l.length ≤ 1000000) (hs : ∀ i, i < l.length → (l.getD i ByteArray.empty).size ≤ maxLen) :
    Calls Try.prog 24 #[.slice A n cap] w fun e w' => e = .returned (.int .u32 ((CrcM.sum (catB l)).toNat : Int)) ∧ w = w' := by
  have HR := Lib.hid hR
  have HS := Lib.hid hs
  obtain ⟨m, hm⟩ : ∃ m, m = l.length := ⟨_, rfl⟩
  have HM := Lib.hid hm
  have hm' : m ≤ 1000000 := by omega
  obtain rfl : n = m := by omega
  clear hR hs hn hm hl
  go_enter Try.func24, Try.ntmps24
  go_wp2
  go_loop [3, 9] (fun x i => ∃ k : Nat, k ≤ n ∧ i = .int .i64 k ∧ x = .int .u32 ((CrcM.fold 4294967295#32 (catB (l.take k))).toNat : Int)) (fun _ i => n - (intOf i).toNat)
  case atStart => exact ⟨0, by omega, rfl, rfl⟩
  case round =>
    obtain ⟨k, hk, rfl, rfl⟩ := hrel
    by_cases hlt : k < n
    · obtain ⟨b, o, rfl, hcell⟩ := HR.out k (by rw [← HM.out]; exact hlt)
      have hsz := HS.out k (by rw [← HM.out]; exact hlt)
      have hsn := Lib.hid (catB_take_succ l k (by rw [← HM.out]; exact hlt))
      generalize hss : l.getD k ByteArray.empty = s at hcell hsz
      have HSS := Lib.hid hss
      clear hss
      unfold maxLen at hsz
      generalize hx0 : CrcM.fold 4294967295#32 (catB (l.take k)) = x0
      have HX0 := Lib.hid hx0
      clear hx0
      go_wp2
      go_loop [3, 15] (fun x i => ∃ j : Nat, j ≤ s.size ∧ i = .int .i64 j ∧ x = .int .u32 ((CrcM.fold x0 (s.data.toList.take j)).toNat : Int)) (fun _ i => s.size - (intOf i).toNat)
      case atStart => exact ⟨0, by omega, rfl, rfl⟩
      case round =>
        obtain ⟨j, hj, rfl, rfl⟩ := hrel
        by_cases hjt : j < s.size
        · have hts := Lib.hid (take_data_snoc s j hjt)
          generalize hx1 : CrcM.fold x0 (s.data.toList.take j) = x1
          have HX1 := Lib.hid hx1
          clear hx1
          go_wp2_with (go_at_call 52; refine (step_any _ _ _).mono ?_; rintro e w' ⟨rfl, rfl⟩)
          go_round
          case rel => exact ⟨j + 1, by omega, by go_num, by rw [hts.out, CrcM.fold_snoc, HX1.out]⟩
          case measure => simp [intOf]; omega
        · obtain rfl : j = s.size := by omega
          have HE := Lib.hid (show s.data.toList.take s.size = s.data.toList from List.take_of_length_le (by rw [size_data]; omega))
          go_wp2
          go_round
          case rel => exact ⟨k + 1, by omega, by go_num, by rw [hsn.out, CrcM.fold_append, HX0.out, HSS.out, HE.out]⟩
          case measure => simp [intOf]; omega
    · obtain rfl : k = n := by omega
      have HE := Lib.hid (show l.take k = l from List.take_of_length_le (by rw [HM.out]; omega))
      have HX := Lib.hid (xor_ones (CrcM.fold 4294967295#32 (catB (l.take k))))
      go_wp2
      go_ret
      exact ⟨ret_u32 (by rw [HX.out, HE.out]; rfl), rfl⟩
end Go.Proofs.Ythkfgjdbgnbjkaa
