/- The walk of the law FrameBack. -/
import Derived.Test.YthkfgjdbgnbjkaaFrmA
namespace Go.Proofs.Ythkfgjdbgnbjkaa
open Go.RowKit
set_option linter.unusedSimpArgs false
set_option linter.unusedVariables false

set_option maxHeartbeats 800000 in
theorem fback_long (k f t : Int) (b : ByteArray) (a m : Int) (w : World) (h : 40000 < b.size) :
    Calls Try.prog 10 #[.agg #[.int .i64 k, .int .i64 f, .int .i64 t, .string b], .int .i64 a, .int .u8 m] w fun e w' => e = .returned (.bool true) ∧ Below w.heap.size w w' := by
  have hb0 : Below w.heap.size w (w.alloc (.cells #[.int .i64 k, .int .i64 f, .int .i64 t, .string b] 37)) := below_alloc (Below.refl _ _) _
  have hd : decide (40000 < (b.size : Int)) = true := by simp; omega
  go_enter Try.func10, Try.ntmps10
  go_wp2_with fail
  refine (awake05 _).mono ?_
  rintro e w1 ⟨rfl, hb1⟩
  have c3 : w1.cell? ⟨w.heap.size, 3, none⟩ = some (.string b) := cell_keep (by simp) hb1
  go_wp2_with fail
  go_ret
  exact ⟨rfl, below_step hb0 hb1⟩

set_option maxHeartbeats 800000 in
theorem fback_bad (k f t : Int) (b : ByteArray) (a m : Int) (w : World) (h : b.size ≤ 40000) (hno : printE k f t b ≠ 0) :
    Calls Try.prog 10 #[.agg #[.int .i64 k, .int .i64 f, .int .i64 t, .string b], .int .i64 a, .int .u8 m] w fun e w' => e = .returned (.bool true) ∧ Below w.heap.size w w' := by
  have hpr := fun W => print_any k f t b W (by omega)
  rw [printS_no rfl hno] at hpr
  generalize printE k f t b = en at *
  have hne : (en != 0) = true := by simpa using hno
  have HPR := Lib.hid hpr
  clear hpr hno
  have hb0 : Below w.heap.size w (w.alloc (.cells #[.int .i64 k, .int .i64 f, .int .i64 t, .string b] 37)) := below_alloc (Below.refl _ _) _
  have hd : decide (40000 < (b.size : Int)) = false := by simp; omega
  go_enter Try.func10, Try.ntmps10
  go_wp2_with fail
  refine (awake05 _).mono ?_
  rintro e w1 ⟨rfl, hb1⟩
  have c0 : w1.cell? ⟨w.heap.size, 0, none⟩ = some (.int .i64 k) := cell_keep (by simp) hb1
  have c1 : w1.cell? ⟨w.heap.size, 1, none⟩ = some (.int .i64 f) := cell_keep (by simp) hb1
  have c2 : w1.cell? ⟨w.heap.size, 2, none⟩ = some (.int .i64 t) := cell_keep (by simp) hb1
  have c3 : w1.cell? ⟨w.heap.size, 3, none⟩ = some (.string b) := cell_keep (by simp) hb1
  have hbl1 := below_step hb0 hb1
  clear hb0 hb1
  go_wp2_with fail
  refine (HPR.out _).mono ?_
  rintro e w2 ⟨rfl, hb2⟩
  have hbl2 := below_step hbl1 hb2
  go_wp2_with fail
  go_ret
  exact ⟨rfl, hbl2⟩

set_option maxHeartbeats 1600000 in
theorem fback_out (k f t : Int) (b : ByteArray) (a m : Int) (w : World) (h : b.size ≤ 40000) (hyes : printE k f t b = 0) (hout : a < 0 ∨ 0 ≤ a ∧ 11 + (b.size : Int) ≤ a ∨ 0 ≤ a ∧ a < 11 + (b.size : Int) ∧ m = 0) :
    Calls Try.prog 10 #[.agg #[.int .i64 k, .int .i64 f, .int .i64 t, .string b], .int .i64 a, .int .u8 m] w fun e w' => e = .returned (.bool true) ∧ Below w.heap.size w w' := by
  have hpr := fun W => print_any k f t b W (by omega)
  rw [printS_yes hyes, hyes] at hpr
  have hsz := frameB_size k f t b
  have hpa := fun W => parse_any (frameB k f t b) W (by omega)
  rw [parse_print hyes] at hpa
  unfold FR.vals at hpa
  generalize frameB k f t b = s at *
  have HPR := Lib.hid hpr
  have HPA := Lib.hid hpa
  have HOUT := Lib.hid hout
  clear hpr hyes hpa hout
  have hb0 : Below w.heap.size w (w.alloc (.cells #[.int .i64 k, .int .i64 f, .int .i64 t, .string b] 37)) := below_alloc (Below.refl _ _) _
  have hd : decide (40000 < (b.size : Int)) = false := by simp; omega
  go_enter Try.func10, Try.ntmps10
  go_wp2_with fail
  refine (awake05 _).mono ?_
  rintro e w1 ⟨rfl, hb1⟩
  have c0 : w1.cell? ⟨w.heap.size, 0, none⟩ = some (.int .i64 k) := cell_keep (by simp) hb1
  have c1 : w1.cell? ⟨w.heap.size, 1, none⟩ = some (.int .i64 f) := cell_keep (by simp) hb1
  have c2 : w1.cell? ⟨w.heap.size, 2, none⟩ = some (.int .i64 t) := cell_keep (by simp) hb1
  have c3 : w1.cell? ⟨w.heap.size, 3, none⟩ = some (.string b) := cell_keep (by simp) hb1
  have hbl1 := below_step hb0 hb1
  clear hb0 hb1
  go_wp2_with fail
  refine (HPR.out _).mono ?_
  rintro e w2 ⟨rfl, hb2⟩
  have d0 := cell_keep c0 hb2
  have d1 := cell_keep c1 hb2
  have d2 := cell_keep c2 hb2
  have d3 := cell_keep c3 hb2
  have hbl2 := below_step hbl1 hb2
  clear c0 c1 c2 c3 hbl1 hb2 w1
  go_wp2_with fail
  refine (HPA.out _).mono ?_
  rintro e w3 ⟨rfl, hb3⟩
  have e0 := cell_keep d0 hb3
  have e1 := cell_keep d1 hb3
  have e2 := cell_keep d2 hb3
  have e3 := cell_keep d3 hb3
  have hbl3 := below_step hbl2 hb3
  have hlt := World.block_lt_of_cell? w3 _ e0
  clear d0 d1 d2 d3 hbl2 hb3 w2
  rcases HOUT.out with h1 | ⟨h1, h2⟩ | ⟨h1, h2, rfl⟩
  · have hd2 : decide (a < 0) = true := by simpa using h1
    go_wp2_with fail
    go_ret
    exact ⟨rfl, below_alloc hbl3 _⟩
  · have hd2 : decide (a < 0) = false := by simp; omega
    have hd3 : decide (11 + (b.size : Int) ≤ a) = true := by simpa using h2
    go_wp2_with fail
    go_ret
    exact ⟨rfl, below_alloc hbl3 _⟩
  · have hd2 : decide (a < 0) = false := by simp; omega
    have hd3 : decide (11 + (b.size : Int) ≤ a) = false := by simp; omega
    go_wp2_with fail
    go_ret
    exact ⟨rfl, below_alloc hbl3 _⟩
set_option maxHeartbeats 1600000 in
theorem fback_turn (k f t : Int) (b : ByteArray) (n : Nat) (m : UInt8) (w : World) (h : b.size ≤ 40000) (hyes : printE k f t b = 0) (hn : n < 11 + b.size) (hm : m ≠ 0) :
    Calls Try.prog 10 #[.agg #[.int .i64 k, .int .i64 f, .int .i64 t, .string b], .int .i64 (n : Int), .int .u8 (m.toNat : Int)] w fun e w' => e = .returned (.bool true) ∧ Below w.heap.size w w' := by
  have hpr := fun W => print_any k f t b W (by omega)
  rw [printS_yes hyes, hyes] at hpr
  have hsz := frameB_size k f t b
  have hpa := fun W => parse_any (frameB k f t b) W (by omega)
  rw [parse_print hyes] at hpa
  unfold FR.vals at hpa
  have hn' : n < (frameB k f t b).size := by omega
  have hts := turn_str (frameB k f t b) n m hn'
  have hv := turnB_size (frameB k f t b) n m hn'
  have hpv := fun W => parse_any (turnB (frameB k f t b) n m) W (by omega)
  rw [parseF_turn n m hn' hm] at hpv
  unfold FR.vals FR.bad at hpv
  have hm0 : ((m.toNat : Int) == 0) = false := by
    rw [beq_eq_false_iff_ne]
    intro h
    exact hm (UInt8.toNat_inj.1 (by simpa using h))
  have hV : turnB (frameB k f t b) n m = (frameB k f t b).extract 0 n ++ ⟨#[(frameB k f t b).data.toList.getD n 0 ^^^ m]⟩ ++ (frameB k f t b).extract (n + 1) (frameB k f t b).size := rfl
  generalize frameB k f t b = s at *
  generalize s.data.toList.getD n 0 ^^^ m = u at hV hts
  rw [hsz] at hV
  replace hV := hV.symm
  generalize turnB s n m = v at *
  have HPV := Lib.hid hpv
  clear hpv
  have HPR := Lib.hid hpr
  have HPA := Lib.hid hpa
  clear hpr hyes hpa
  have hb0 : Below w.heap.size w (w.alloc (.cells #[.int .i64 k, .int .i64 f, .int .i64 t, .string b] 37)) := below_alloc (Below.refl _ _) _
  have hd : decide (40000 < (b.size : Int)) = false := by simp; omega
  go_enter Try.func10, Try.ntmps10
  go_wp2_with fail
  refine (awake05 _).mono ?_
  rintro e w1 ⟨rfl, hb1⟩
  have c0 : w1.cell? ⟨w.heap.size, 0, none⟩ = some (.int .i64 k) := cell_keep (by simp) hb1
  have c1 : w1.cell? ⟨w.heap.size, 1, none⟩ = some (.int .i64 f) := cell_keep (by simp) hb1
  have c2 : w1.cell? ⟨w.heap.size, 2, none⟩ = some (.int .i64 t) := cell_keep (by simp) hb1
  have c3 : w1.cell? ⟨w.heap.size, 3, none⟩ = some (.string b) := cell_keep (by simp) hb1
  have hbl1 := below_step hb0 hb1
  clear hb0 hb1
  go_wp2_with fail
  refine (HPR.out _).mono ?_
  rintro e w2 ⟨rfl, hb2⟩
  have d0 := cell_keep c0 hb2
  have d1 := cell_keep c1 hb2
  have d2 := cell_keep c2 hb2
  have d3 := cell_keep c3 hb2
  have hbl2 := below_step hbl1 hb2
  clear c0 c1 c2 c3 hbl1 hb2 w1
  go_wp2_with fail
  refine (HPA.out _).mono ?_
  rintro e w3 ⟨rfl, hb3⟩
  have e0 := cell_keep d0 hb3
  have e1 := cell_keep d1 hb3
  have e2 := cell_keep d2 hb3
  have e3 := cell_keep d3 hb3
  have hbl3 := below_step hbl2 hb3
  have hlt := World.block_lt_of_cell? w3 _ e0
  clear d0 d1 d2 d3 hbl2 hb3 w2
  have hd2 : decide ((n : Int) < 0) = false := by simp
  have hd3 : decide (11 + (b.size : Int) ≤ (n : Int)) = false := by simp; omega
  have hi0 : (0 : Int) ≤ (n : Int) := by omega
  have hi1 : (n : Int) < 11 + (b.size : Int) := by omega
  have h5 : (n : Int) ≤ 11 + (b.size : Int) := by omega
  have h6 : (n : Int) + 1 ≤ 11 + (b.size : Int) := by omega
  have h7 : n ≤ 11 + b.size := by omega
  have h8 : n + 1 ≤ 11 + b.size := by omega
  go_wp2_with fail
  have hc := fun x => convert_one ((w3.alloc (.cells #[.int .i64 k, .int .i64 f, .int .i64 t, .string b] 37)).alloc (.cells #[.int .u8 x] 5)).drew (w3.heap.size + 1) x (by
    show ((w3.alloc (.cells #[.int .i64 k, .int .i64 f, .int .i64 t, .string b] 37)).alloc (.cells #[.int .u8 x] 5)).cell? _ = _
    exact cell_top (by simp) rfl)
  have h9 : (0 : Int) ≤ (n : Int) + 1 := by omega
  have h10 : ((n : Int) + 1).toNat = n + 1 := by omega
  have h11 : ¬ 9223372036854775807 < n + 1 := by omega
  have h12 : ¬ 9223372036854775807 < n + 1 + (11 + b.size - (n + 1)) := by omega
  have h13 : IntKind.i64.wrap ((n : Int) + 1) = (n : Int) + 1 := IntWalk.i64_in _ (by omega)
  go_region
  go_wp2_with fail
  refine (HPV.out _).mono ?_
  rintro e w4 ⟨rfl, hb4⟩
  have hbl4 := below_step (below_drew (below_alloc (below_alloc hbl3 _) _)) hb4
  go_wp2_with fail
  go_ret
  exact ⟨rfl, below_alloc hbl4 _⟩

theorem fback_walk (k f t : Int) (b : ByteArray) (a m : Int) (wm : (Lit.int .u8 m).wf = true) (w : World) :
    Calls Try.prog 10 #[.agg #[.int .i64 k, .int .i64 f, .int .i64 t, .string b], .int .i64 a, .int .u8 m] w fun e w' => e = .returned (.bool true) ∧ Below w.heap.size w w' := by
  by_cases h : 40000 < b.size
  · exact fback_long k f t b a m w h
  · by_cases hp : printE k f t b = 0
    · by_cases ho : a < 0 ∨ 0 ≤ a ∧ 11 + (b.size : Int) ≤ a ∨ 0 ≤ a ∧ a < 11 + (b.size : Int) ∧ m = 0
      · exact fback_out k f t b a m w (by omega) hp ho
      · obtain ⟨n, rfl⟩ := Int.eq_ofNat_of_zero_le (show 0 ≤ a by omega)
        have hb := bounds_u8 wm
        obtain ⟨u, rfl⟩ := byte_of m (by omega)
        refine fback_turn k f t b n u w (by omega) hp (by omega) ?_
        rintro rfl
        exact ho (Or.inr (Or.inr ⟨by omega, by omega, rfl⟩))
    · exact fback_bad k f t b a m w (by omega) hp
end Go.Proofs.Ythkfgjdbgnbjkaa
