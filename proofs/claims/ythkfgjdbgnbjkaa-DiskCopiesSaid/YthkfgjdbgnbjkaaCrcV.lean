/- The walk of the law CrcBursts. -/
import Derived.Test.YthkfgjdbgnbjkaaCrcU
import Derived.Test.YthkfgjdbgnbjkaaCrcB
namespace Go.Proofs.Ythkfgjdbgnbjkaa
open Go.RowKit
set_option linter.unusedSimpArgs false
set_option linter.unusedVariables false

theorem bit_test (v : BitVec 32) (k : Nat) : bits .and .u32 ((v.toNat : Int) / 2 ^ k) 1 = 1 ↔ v.getLsbD k = true := by
  have hx := v.isLt
  have hp : 0 < 2 ^ k := Nat.two_pow_pos k
  have hle : v.toNat / 2 ^ k ≤ v.toNat := Nat.div_le_self _ _
  have e : ((v.toNat : Int) / 2 ^ k) = ((v.toNat / 2 ^ k : Nat) : Int) := by rw [Int.natCast_ediv]; norm_cast
  have h := u32_and_nat (v.toNat / 2 ^ k) 1 (by omega) (by omega)
  rw [nat_mask1] at h
  rw [e]
  have h' : bits .and .u32 ((v.toNat / 2 ^ k : Nat) : Int) 1 = ((v.toNat / 2 ^ k % 2 : Nat) : Int) := h
  rw [h', BitVec.getLsbD, Nat.testBit_eq_decide_div_mod_eq]
  simp
  omega

theorem xor_bit (x : UInt8) (r : Nat) (hr : r < 8) : bits .xor .u8 (x.toNat : Int) ((2 : Int) ^ r % 256) = ((x ^^^ UInt8.ofNat (2 ^ r)).toNat : Int) := by
  have hx := x.toNat_lt
  have h2 : 2 ^ r < 256 := by
    have : 2 ^ r < 2 ^ 8 := Nat.pow_lt_pow_right (by omega) hr
    simpa using this
  have e : ((2 : Int) ^ r) % 256 = ((2 ^ r : Nat) : Int) := by
    match r, hr with
    | 0, _ | 1, _ | 2, _ | 3, _ | 4, _ | 5, _ | 6, _ | 7, _ => decide
  rw [e, u8_xor_nat _ _ hx h2, UInt8.toNat_xor, UInt8.toNat_ofNat', Nat.mod_eq_of_lt h2]
theorem strOf_bytes (l : List UInt8) : strOfNums (l.map fun b => (b.toNat : Int)) = ⟨l.toArray⟩ := by
  unfold strOfNums
  congr 2
  rw [List.map_map]
  have : ∀ b ∈ l, ((fun n : Int => UInt8.ofNat n.toNat) ∘ fun b : UInt8 => (b.toNat : Int)) b = b := fun b _ => by simp
  rw [List.map_congr_left this]
  simp
theorem convert_at (W : World) (k : Nat) (l : List UInt8) (C : Nat) (h : BytesAt W k l) :
    (convert 30 9 (.slice (some ⟨k, 0, none⟩) l.length C)).run Try.prog W = .ok (.string ⟨l.toArray⟩) W := by
  have := run_convert_bytes_arg (P := Try.prog) W 30 5 Try.underlying30 Try.underlying5 k 0 l.length C (l.map fun b => (b.toNat : Int)) (by simp) (fun i hi => by
    rw [Nat.zero_add, (h.2 i hi).1]
    simp [List.getD, List.getElem?_eq_getElem hi]) 9 Try.underlying9
  rw [strOf_bytes] at this
  exact this
theorem burst_opens (s : ByteArray) (n : Nat) (v : BitVec 32) (l : List UInt8) (hl : l.length = s.size + 4)
    (hf : CrcM.fold 4294967295#32 l = CrcM.fold 4294967295#32 (sealB s).data.toList ^^^ CrcM.An (8 * (s.size + 4) - n) (burst v n (8 * (s.size + 4)) 32)) :
    openOk ⟨l.toArray⟩ = !hits v n (8 * (s.size + 4)) 32 := by
  obtain ⟨_, h2⟩ := (CrcM.openOk_iff _).1 (openOk_sealB s)
  rw [h2] at hf
  have h4 : 4 ≤ (⟨l.toArray⟩ : ByteArray).size := by rw [← size_data]; show 4 ≤ l.length; omega
  cases hh : hits v n (8 * (s.size + 4)) 32 with
  | false =>
    rw [(burst_zero v n _).2 hh, CrcM.An_zero, BitVec.xor_zero] at hf
    exact (CrcM.openOk_iff _).2 ⟨h4, hf⟩
  | true =>
    show openOk _ = false
    rw [Bool.eq_false_iff]
    intro hc
    obtain ⟨_, h5⟩ := (CrcM.openOk_iff _).1 hc
    have h6 : CrcM.fold 4294967295#32 l = CrcM.K := h5
    rw [hf] at h6
    have h7 := (burst_zero v n _).1 (CrcM.An_ker _ (CrcM.xor_cancel _ _ h6))
    rw [hh] at h7
    cases h7

set_option maxHeartbeats 400000 in
theorem bursts_in (s : ByteArray) (n : Nat) (v : BitVec 32) (w : World) (hs : s.size ≤ 5000) (hv : v ≠ 0#32) (hn : n ≤ 8 * (s.size + 4)) :
    Calls Try.prog 5 #[.string s, .int .i64 (n : Int), .int .u32 (v.toNat : Int)] w fun e w' => e = .returned (.bool true) ∧ Below w.heap.size w w' := by
  have hd1 : decide (5000 < (s.size : Int)) = false := by simp; omega
  have hv0 : ((v.toNat : Int) == 0) = false := by
    rw [beq_eq_false_iff_ne]
    intro h
    exact hv (BitVec.eq_of_toNat_eq (by simpa using h))
  have hd2 : decide ((n : Int) < 0) = false := by simp
  have hd3 : decide (8 * ((s.size : Int) + 4) < (n : Int)) = false := by simp; omega
  have ht := sealB_size s
  have hcv := fun W => Lib.run_convert_string_bytes (P := Try.prog) W 9 30 5 (sealB s) Try.underlying9 Try.underlying30 Try.underlying5
  generalize hT : sealB s = t at *
  have HT := Lib.hid hT
  clear hT
  go_enter Try.func5, Try.ntmps5
  go_wp2_with fail
  refine (awake04 _).mono ?_
  rintro e w1 ⟨rfl, hb1⟩
  go_wp2_with fail
  refine (seal_any _ _ (by omega)).mono ?_
  rw [HT.out]
  rintro e w2 ⟨rfl, hb2⟩
  go_wp2_with fail
  have hB := bytesAt_new w2 t
  have hbl := below_step (below_step hb1 hb2) (below_bytes w2 t)
  have hK : w.heap.size ≤ w2.heap.size := Nat.le_trans hb1.size hb2.size
  generalize Lib.bytesWorld w2 5 t = W0 at *
  generalize grownCap w2 (s.size + 4) 0 5 = C at *
  generalize w2.heap.size = K at *
  clear hb1 hb2 hcv
  clear w2 w1
  have hlen : t.data.toList.length = s.size + 4 := by rw [size_data, ht]
  generalize hl0 : t.data.toList = l0 at *
  have HL0 := Lib.hid hl0
  clear hl0
  have HB := Lib.hid hB
  have HL := Lib.hid hlen
  clear hB hlen hv0 hd1 hd2 hd3
  go_loopw [8, 9] (fun y i wr => ∃ (k : Nat) (l : List UInt8), k ≤ 32 ∧ i = .int .i64 k ∧ y = .bool (hits v n (8 * (s.size + 4)) k) ∧ Hid (l.length = s.size + 4 ∧ BytesAt wr K l ∧ CrcM.fold 4294967295#32 l = CrcM.fold 4294967295#32 l0 ^^^ CrcM.An (8 * (s.size + 4) - n) (burst v n (8 * (s.size + 4)) k)) ∧ Below w.heap.size w wr) (fun _ i _ => 32 - (intOf i).toNat)
  case atStart => exact ⟨0, l0, by omega, rfl, rfl, ⟨HL.out, HB.out, by simp [burst, CrcM.An_zero]⟩, hbl⟩
  case round =>
    obtain ⟨k, l, hk, rfl, rfl, HR, hbw⟩ := hrel
    by_cases hlt : k < 32
    · have hbt := bit_test v k
      by_cases hb : v.getLsbD k = true
      · have hbb := hbt.2 hb
        clear hbt
        by_cases hq : n + k < 8 * (s.size + 4)
        · have hh : hit v n (8 * (s.size + 4)) k = true := by unfold hit; rw [hb]; simpa using hq
          obtain ⟨q, hqq⟩ : ∃ q, q = (n + k) / 8 := ⟨_, rfl⟩
          obtain ⟨r, hrr⟩ : ∃ r, r = (n + k) % 8 := ⟨_, rfl⟩
          have e1 : ((n : Int) + (k : Int)) / 8 = (q : Int) := by omega
          have e2 : ((n : Int) + (k : Int)) % 8 = (r : Int) := by omega
          have hr8 : r < 8 := by omega
          have hqL : q < s.size + 4 := by omega
          have hqL' : (q : Int) < (s.size : Int) + 4 := by omega
          obtain ⟨hl, hBt, hf⟩ := HR.out
          obtain ⟨hc, hz⟩ := hBt.2 q (by rw [hl]; exact hqL)
          generalize hx : l.getD q 0 = x at hc
          have HH := Lib.hid hh
          have HX := Lib.hid hx
          have HQ := Lib.hid hqq
          have HRR := Lib.hid hrr
          have HF := Lib.hid hf
          have HBT := Lib.hid hBt
          have HLL := Lib.hid hl
          clear hh hx hqq hrr hf hBt hl hb HR
          go_wp2_with fail
          have e3 : IntKind.i64.wrap (((n : Int) + (k : Int)).tdiv 8) = (q : Int) := by
            rw [Int.tdiv_eq_ediv_of_nonneg (by omega), e1]
            exact IntWalk.i64_in _ (by omega)
          have e4 : ((n : Int) + (k : Int)).tmod 8 = (r : Int) := by rw [Int.tmod_eq_emod_of_nonneg (by omega), e2]
          have e5 := xor_bit x r hr8
          generalize hu : x ^^^ UInt8.ofNat (2 ^ r) = u at e5
          have HU := Lib.hid hu
          clear hu
          go_region
          have HE5 := Lib.hid e5
          clear e5
          go_wp2_with fail
          go_roundw
          case rel =>
            have h1 : hits v n (8 * (s.size + 4)) (k + 1) = true := by rw [hits, HH.out]; rfl
            have h2 : burst v n (8 * (s.size + 4)) (k + 1) = burst v n (8 * (s.size + 4)) k ^^^ (1#32 <<< k) := by rw [burst, HH.out]; rfl
            have h3 := fold_bit l 4294967295#32 n k hlt (by rw [HLL.out]; exact hq)
            rw [← HQ.out, ← HRR.out, HX.out, HU.out, HLL.out, HF.out, BitVec.xor_assoc, ← CrcM.An_xor, ← h2] at h3
            have h4 := HBT.out.set q u (by rw [HLL.out]; exact hqL)
            exact ⟨k + 1, l.set q u, by omega, by go_num, by rw [h1], ⟨by rw [List.length_set]; exact HLL.out, h4.drew, h3⟩, below_drew (hbw.setCell hK _)⟩
          case measure => simp [intOf]; omega
        · have hh : hit v n (8 * (s.size + 4)) k = false := by unfold hit; rw [hb]; simpa using hq
          have h1 : hits v n (8 * (s.size + 4)) (k + 1) = hits v n (8 * (s.size + 4)) k := by rw [hits, hh]; rfl
          have h2 : burst v n (8 * (s.size + 4)) (k + 1) = burst v n (8 * (s.size + 4)) k := by rw [burst, hh]; rfl
          have H1 := Lib.hid h1
          have H2 := Lib.hid h2
          clear h1 h2 hh hb
          go_wp2_with fail
          go_roundw
          case rel => exact ⟨k + 1, l, by omega, by go_num, by rw [H1.out], ⟨HR.out.1, HR.out.2.1, by rw [H2.out]; exact HR.out.2.2⟩, hbw⟩
          case measure => simp [intOf]; omega
      · have hbb : ¬ bits .and .u32 ((v.toNat : Int) / 2 ^ k) 1 = 1 := fun h => hb (hbt.1 h)
        clear hbt
        have hh : hit v n (8 * (s.size + 4)) k = false := by unfold hit; simp [hb]
        have h1 : hits v n (8 * (s.size + 4)) (k + 1) = hits v n (8 * (s.size + 4)) k := by rw [hits, hh]; rfl
        have h2 : burst v n (8 * (s.size + 4)) (k + 1) = burst v n (8 * (s.size + 4)) k := by rw [burst, hh]; rfl
        have H1 := Lib.hid h1
        have H2 := Lib.hid h2
        clear h1 h2 hh hb
        go_wp2_with fail
        go_roundw
        case rel => exact ⟨k + 1, l, by omega, by go_num, by rw [H1.out], ⟨HR.out.1, HR.out.2.1, by rw [H2.out]; exact HR.out.2.2⟩, hbw⟩
        case measure => simp [intOf]; omega
    · obtain rfl : k = 32 := by omega
      obtain ⟨hl, hBt, hf⟩ := HR.out
      have hcv := convert_at wr K l C hBt
      have hsz : (⟨l.toArray⟩ : ByteArray).size = s.size + 4 := by rw [← size_data]; exact hl
      have hok := burst_opens s n v l hl (by rw [hf, ← HL0.out, ← HT.out])
      rw [hl] at hcv
      generalize hits v n (8 * (s.size + 4)) 32 = y at hok
      have HOK := Lib.hid hok
      clear hok HR hBt hf hl
      go_wp2_with fail
      refine (open_any _ _ (by omega)).mono ?_
      rintro e w5 ⟨rfl, hb5⟩
      rw [HOK.out]
      cases y
      all_goals go_wp2_with fail
      all_goals go_ret
      all_goals exact ⟨rfl, below_step hbw hb5⟩
set_option maxHeartbeats 400000 in
theorem bursts_out (s : ByteArray) (a b : Int) (w : World) (h : 5000 < s.size ∨ s.size ≤ 5000 ∧ b = 0 ∨ s.size ≤ 5000 ∧ b ≠ 0 ∧ a < 0 ∨ s.size ≤ 5000 ∧ b ≠ 0 ∧ 0 ≤ a ∧ 8 * ((s.size : Int) + 4) < a) :
    Calls Try.prog 5 #[.string s, .int .i64 a, .int .u32 b] w fun e w' => e = .returned (.bool true) ∧ Below w.heap.size w w' := by
  have ht := sealB_size s
  rcases h with h | ⟨h, rfl⟩ | ⟨h, hb, ha⟩ | ⟨h, hb, ha, ha'⟩
  · have hd1 : decide (5000 < (s.size : Int)) = true := by simp; omega
    go_enter Try.func5, Try.ntmps5
    go_wp2_with fail
    refine (awake04 _).mono ?_
    rintro e w1 ⟨rfl, hb1⟩
    go_wp2_with fail
    go_ret
    exact ⟨rfl, hb1⟩
  · have hd1 : decide (5000 < (s.size : Int)) = false := by simp; omega
    go_enter Try.func5, Try.ntmps5
    go_wp2_with fail
    refine (awake04 _).mono ?_
    rintro e w1 ⟨rfl, hb1⟩
    go_wp2_with fail
    go_ret
    exact ⟨rfl, hb1⟩
  · have hd1 : decide (5000 < (s.size : Int)) = false := by simp; omega
    have hv0 : (b == 0) = false := by rw [beq_eq_false_iff_ne]; exact hb
    have hd2 : decide (a < 0) = true := by simp; omega
    have hcv := fun W => Lib.run_convert_string_bytes (P := Try.prog) W 9 30 5 (sealB s) Try.underlying9 Try.underlying30 Try.underlying5
    clear hb
    go_enter Try.func5, Try.ntmps5
    go_wp2_with fail
    refine (awake04 _).mono ?_
    rintro e w1 ⟨rfl, hb1⟩
    go_wp2_with fail
    refine (seal_any _ _ (by omega)).mono ?_
    rintro e w2 ⟨rfl, hb2⟩
    go_wp2_with fail
    go_ret
    exact ⟨rfl, below_step (below_step hb1 hb2) (below_bytes w2 (sealB s))⟩
  · have hd1 : decide (5000 < (s.size : Int)) = false := by simp; omega
    have hv0 : (b == 0) = false := by rw [beq_eq_false_iff_ne]; exact hb
    have hd2 : decide (a < 0) = false := by simp; omega
    have hd3 : decide (8 * ((s.size : Int) + 4) < a) = true := by simp; omega
    have hcv := fun W => Lib.run_convert_string_bytes (P := Try.prog) W 9 30 5 (sealB s) Try.underlying9 Try.underlying30 Try.underlying5
    clear hb
    go_enter Try.func5, Try.ntmps5
    go_wp2_with fail
    refine (awake04 _).mono ?_
    rintro e w1 ⟨rfl, hb1⟩
    go_wp2_with fail
    refine (seal_any _ _ (by omega)).mono ?_
    rintro e w2 ⟨rfl, hb2⟩
    go_wp2_with fail
    go_ret
    exact ⟨rfl, below_step (below_step hb1 hb2) (below_bytes w2 (sealB s))⟩

theorem bursts_walk (s : ByteArray) (a b : Int) (ws : s.size ≤ maxLen) (wa : (Lit.int .i64 a).wf = true) (wb : (Lit.int .u32 b).wf = true) (w : World) :
    Calls Try.prog 5 #[.string s, .int .i64 a, .int .u32 b] w fun e w' => e = .returned (.bool true) ∧ Below w.heap.size w w' := by
  by_cases h : 5000 < s.size ∨ s.size ≤ 5000 ∧ b = 0 ∨ s.size ≤ 5000 ∧ b ≠ 0 ∧ a < 0 ∨ s.size ≤ 5000 ∧ b ≠ 0 ∧ 0 ≤ a ∧ 8 * ((s.size : Int) + 4) < a
  · exact bursts_out s a b w h
  · have hb := bounds_u32 wb
    obtain ⟨n, rfl⟩ := Int.eq_ofNat_of_zero_le (show 0 ≤ a by omega)
    obtain ⟨m, rfl⟩ := Int.eq_ofNat_of_zero_le (show 0 ≤ b by omega)
    have e : ((BitVec.ofNat 32 m).toNat : Int) = (m : Int) := by rw [BitVec.toNat_ofNat, Nat.mod_eq_of_lt (by omega)]
    rw [← e]
    refine bursts_in s n (BitVec.ofNat 32 m) w (by omega) ?_ (by omega)
    intro h0
    rw [h0] at e
    have : (m : Int) = 0 := e.symm
    omega
end Go.Proofs.Ythkfgjdbgnbjkaa
