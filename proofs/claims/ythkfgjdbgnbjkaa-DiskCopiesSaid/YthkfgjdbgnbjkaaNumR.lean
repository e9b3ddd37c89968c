/- The walks of the reference's Put and Get. -/
import Derived.Test.YthkfgjdbgnbjkaaNumP
namespace Go.Proofs.Ythkfgjdbgnbjkaa
open Go.RowKit
set_option linter.unusedSimpArgs false
set_option linter.unusedVariables false

theorem one_byte (v k : Nat) : strOfNums [((v / 256 ^ k : Nat) : Int) % 256] = ⟨#[UInt8.ofNat (v / 256 ^ k)]⟩ := by
  unfold strOfNums
  simp only [List.map_cons, List.map_nil]
  congr 2
  have e : (((v / 256 ^ k : Nat) : Int) % 256).toNat = v / 256 ^ k % 256 := by omega
  rw [e]
  have e2 : UInt8.ofNat (v / 256 ^ k % 256) = UInt8.ofNat (v / 256 ^ k) := by
    apply UInt8.toNat_inj.1
    simp
  rw [e2]

/-- a 64-bit number. -/
def U64 (v : Nat) : Prop := v < 18446744073709551616
theorem U64.wrap {v : Nat} (h : U64 v) : IntKind.u64.wrap (v : Int) = (v : Int) := by
  unfold U64 at h
  rw [IntKind.wrap_u64]
  omega
theorem U64.div {v : Nat} (h : U64 v) (k : Nat) : U64 (v / k) := Nat.lt_of_le_of_lt (Nat.div_le_self _ _) h

set_option maxHeartbeats 400000 in
theorem rput_any (s : ByteArray) (v n : Nat) (w : World) (hv : U64 v) (hs : s.size ≤ 1000000) (hn : n ≤ 8) :
    Calls Try.prog 57 #[.string s, .int .u64 (v : Int), .int .i64 (n : Int)] w fun e w' => e = .returned (.string (s ++ ⟨(NumM.be n v).toArray⟩)) ∧ Below w.heap.size w w' := by
  go_enter Try.func57, Try.ntmps57
  go_wp2_with fail
  go_loopw [1, 7, 8] (fun x t i wr => ∃ k : Nat, k ≤ n ∧ i = .int .i64 k ∧ x = .int .u64 ((v / 256 ^ k : Nat) : Int) ∧ t = .string ⟨(NumM.be k v).toArray⟩ ∧ Below w.heap.size w wr) (fun _ _ i _ => n - (intOf i).toNat)
  case atStart => exact ⟨0, by omega, rfl, by simp, rfl, Below.refl _ _⟩
  case round =>
    obtain ⟨k, hk, rfl, rfl, rfl, hbk⟩ := hrel
    have hd : decide ((k : Int) < (n : Int)) = decide (k < n) := by simp
    by_cases hlt : k < n
    · have H1 := one_byte v k
      generalize hx : v / 256 ^ k = x at *
      have hc := convert_one (wr.alloc (.cells #[.int .u8 ((x : Int) % 256)] 5)) wr.heap.size ((x : Int) % 256) (by simp)
      have hsz : (NumM.be k v).length = k := NumM.be_length k v
      have hl : ¬ 9223372036854775807 < 1 + k := by omega
      have hl2 : ¬ 9223372036854775807 < k + 1 := by omega
      have HX := Lib.hid hx
      clear hx
      go_wp2_with (go_at_call 81; refine (rsize_any _ _ (by omega) (by omega)).mono ?_; rintro e w' ⟨rfl, rfl⟩)
      go_roundw
      case rel =>
        refine ⟨k + 1, by omega, by go_num, ?_, ?_, hbk.alloc hbk.size _⟩
        · have h1 := ((hv.div (256 ^ k)).div 256).wrap
          rw [HX.out, Int.natCast_ediv] at h1
          have h2 : IntKind.u64.wrap ((x : Int) / 256) = (x : Int) / 256 := h1
          rw [h2, Nat.pow_succ, ← Nat.div_div_eq_div_mul, HX.out]
          rfl
        · rw [NumM.be_succ, HX.out]
          congr 1
      case measure => simp [intOf]; omega
    · obtain rfl : k = n := by omega
      have hsz : (NumM.be k v).length = k := NumM.be_length k v
      have hl : ¬ 9223372036854775807 < s.size + k := by omega
      go_wp2_with (go_at_call 81; refine (rsize_any _ _ (by omega) (by omega)).mono ?_; rintro e w' ⟨rfl, rfl⟩)
      go_ret
      exact ⟨rfl, hbk⟩
theorem get_step (l : List UInt8) (p k : Nat) (h : p + k < l.length) : NumM.val ((l.drop p).take (k + 1)) = NumM.val ((l.drop p).take k) * 256 + (l.getD (p + k) 0).toNat := by
  have hk : k < (l.drop p).length := by rw [List.length_drop]; omega
  rw [List.take_succ_eq_append_getElem hk, NumM.val_snoc]
  simp [List.getD, List.getElem?_eq_getElem h]

set_option maxHeartbeats 400000 in
theorem get_ok (s : ByteArray) (p n : Nat) (w : World) (hs : s.size ≤ 1000000) (h1 : 1 ≤ n) (h8 : n ≤ 8) (hp : p + n ≤ s.size) :
    Calls Try.prog 62 #[.string s, .int .i64 (p : Int), .int .i64 (n : Int)] w fun e w' => e = .returned (.tuple #[.int .u64 (NumM.val ((s.data.toList.drop p).take n) : Int), .bool true]) ∧ w = w' := by
  have d1 : decide ((n : Int) < 1) = false := by simp; omega
  have d2 : decide (8 < (n : Int)) = false := by simp; omega
  have d3 : decide ((p : Int) < 0) = false := by simp
  have d4 : decide ((s.size : Int) < (p : Int)) = false := by simp; omega
  have d5 : decide ((s.size : Int) - (p : Int) < (n : Int)) = false := by simp; omega
  go_enter Try.func62, Try.ntmps62
  go_wp2
  clear d1 d2 d3 d4 d5
  go_loop [8, 9] (fun x i => ∃ k : Nat, k ≤ n ∧ i = .int .i64 ((p : Int) + (k : Int)) ∧ x = .int .u64 (NumM.val ((s.data.toList.drop p).take k) : Int)) (fun _ i => p + n - (intOf i).toNat)
  case atStart => exact ⟨0, by omega, by simp, by simp [NumM.val]⟩
  case round =>
    obtain ⟨k, hk, rfl, rfl⟩ := hrel
    by_cases hlt : k < n
    · have hq : p + k < s.size := by omega
      have hsn := get_step s.data.toList p k (by rw [size_data]; exact hq)
      have hget : s.data.toList.getD (p + k) 0 = s[p + k] := by
        have hn : p + k < s.data.toList.length := by rw [size_data]; exact hq
        simp only [List.getD, List.getElem?_eq_getElem hn, Option.getD_some]
        rfl
      rw [hget] at hsn
      have hv : NumM.val ((s.data.toList.drop p).take k) < 72057594037927936 := NumM.val_take_lt _ 7 (by rw [List.length_take]; omega)
      generalize hy : NumM.val ((s.data.toList.drop p).take k) = y at *
      have HSN := Lib.hid hsn
      have hxl := (s[p + k]).toNat_lt
      have f1 : (0 : Int) ≤ (p : Int) + (k : Int) := by omega
      have f2 : (p : Int) + (k : Int) < (s.size : Int) := by omega
      have f3 : ((p : Int) + (k : Int)).toNat = p + k := by omega
      have f4 : (p : Int) + (k : Int) < (p : Int) + (n : Int) := by omega
      clear hy hsn hget
      go_wp2
      go_goals
      go_round
      case rel => exact ⟨k + 1, by omega, by go_num, by rw [HSN.out]; go_num⟩
      case measure => simp [intOf]; omega
    · obtain rfl : k = n := by omega
      have f4 : ¬ (p : Int) + (k : Int) < (p : Int) + (k : Int) := by omega
      go_wp2
      go_ret2
      exact ⟨rfl, rfl⟩
end Go.Proofs.Ythkfgjdbgnbjkaa
