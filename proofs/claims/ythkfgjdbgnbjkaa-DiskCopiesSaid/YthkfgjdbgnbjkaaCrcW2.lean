/- The walks of package crc and of its reference, second part: the sum's bytes, Seal, Open. -/
import Derived.Test.YthkfgjdbgnbjkaaCrcW
import Derived.Handy
import Derived.Laws.BytesArg
import Derived.ShutString
import Derived.Lib.IndexBytes
import Derived.Deep.RegionHeld3
namespace Go.Proofs.Ythkfgjdbgnbjkaa
open Go.RowKit
set_option linter.unusedSimpArgs false
set_option linter.unusedVariables false

theorem convert_four (w : World) (x0 x1 x2 x3 : Int) :
    (convert 30 9 (.slice (some ⟨w.heap.size, 0, none⟩) 4 4)).run Try.prog (w.alloc (.cells #[.int .u8 x0, .int .u8 x1, .int .u8 x2, .int .u8 x3] 126)) =
      .ok (.string (strOfNums [x0, x1, x2, x3])) (w.alloc (.cells #[.int .u8 x0, .int .u8 x1, .int .u8 x2, .int .u8 x3] 126)) := by
  refine run_convert_bytes_arg _ 30 5 Try.underlying30 Try.underlying5 w.heap.size 0 4 4 [x0, x1, x2, x3] rfl ?_ 9 Try.underlying9
  intro i hi
  match i, hi with
  | 0, _ => simp [World.cell?_alloc_new]
  | 1, _ => simp
  | 2, _ => simp
  | 3, _ => simp

theorem ret_str {a b : ByteArray} (h : a = b) : Ending.returned (.string a) = .returned (.string b) := by rw [h]
theorem u8_of (n : Nat) (v : BitVec 8) (h : v.toNat = n) : UInt8.ofNat n = ⟨v⟩ := by
  subst h
  apply UInt8.toNat_inj.1
  simp [UInt8.toNat]
theorem le4_int (c : BitVec 32) : strOfNums [(c.toNat : Int) % 256, (c.toNat : Int) / 256 % 256, (c.toNat : Int) / 65536 % 256, (c.toNat : Int) / 16777216] = ⟨(CrcM.le4 c).toArray⟩ := by
  have hc := c.isLt
  unfold strOfNums CrcM.le4
  have e0 : ((c.toNat : Int) % 256).toNat = c.toNat % 256 := by omega
  have e1 : ((c.toNat : Int) / 256 % 256).toNat = c.toNat / 256 % 256 := by omega
  have e2 : ((c.toNat : Int) / 65536 % 256).toNat = c.toNat / 65536 % 256 := by omega
  have e3 : ((c.toNat : Int) / 16777216).toNat = c.toNat / 16777216 % 256 := by omega
  simp only [List.map_cons, List.map_nil, e0, e1, e2, e3]
  rw [u8_of (c.toNat % 256) (c.setWidth 8) (by simp [BitVec.toNat_setWidth]), u8_of (c.toNat / 256 % 256) ((c >>> 8).setWidth 8) (by simp [BitVec.toNat_setWidth, Nat.shiftRight_eq_div_pow]),
    u8_of (c.toNat / 65536 % 256) ((c >>> 16).setWidth 8) (by simp [BitVec.toNat_setWidth, Nat.shiftRight_eq_div_pow]), u8_of (c.toNat / 16777216 % 256) ((c >>> 24).setWidth 8) (by simp [BitVec.toNat_setWidth, Nat.shiftRight_eq_div_pow])]

set_option maxHeartbeats 400000 in
theorem bytes_any (c : BitVec 32) (w : World) :
    Calls Try.prog 51 #[.int .u32 (c.toNat : Int)] w fun e w' => e = .returned (.string ⟨(CrcM.le4 c).toArray⟩) ∧ Below w.heap.size w w' := by
  have hc := c.isLt
  have hcv := fun x0 x1 x2 x3 => convert_four w x0 x1 x2 x3
  go_enter Try.func51, Try.ntmps51
  go_wp2
  go_rounds 5
  go_ret
  exact ⟨ret_str (le4_int c), (Below.refl _ _).alloc (Nat.le_refl _) _⟩
theorem sum_one (b : Nat) (s : ByteArray) (w : World) (hc : w.cell? ⟨b, 0, none⟩ = some (.string s)) (hs : s.size ≤ maxLen) :
    Calls Try.prog 24 #[.slice (some ⟨b, 0, none⟩) 1 1] w fun e w' => e = .returned (.int .u32 ((CrcM.sum s.data.toList).toNat : Int)) ∧ w = w' := by
  have h := sum_any (some ⟨b, 0, none⟩) 1 1 [s] w rfl (fun i hi => ⟨b, 0, rfl, by
    obtain rfl : i = 0 := by simp at hi; omega
    simpa using hc⟩) (by simp) (fun i hi => by
    obtain rfl : i = 0 := by simp at hi; omega
    simpa using hs)
  simpa [catB] using h

theorem below_drew {B : Nat} {w W : World} (h : Below B w W) : Below B w W.drew := ⟨h.os, h.tape, h.output, h.size, h.block⟩
theorem below_alloc {w W : World} (h : Below w.heap.size w W) (o : Obj) : Below w.heap.size w (W.alloc o) := h.alloc h.size o
theorem below_step {w W w1 : World} (h : Below w.heap.size w W) (hb : Below W.heap.size W w1) : Below w.heap.size w w1 := h.trans (hb.mono h.size)

/-- bytes with their sum behind them. -/
def sealB (s : ByteArray) : ByteArray := s ++ ⟨(CrcM.le4 (CrcM.sum s.data.toList)).toArray⟩

set_option maxHeartbeats 400000 in
theorem seal_any (s : ByteArray) (w : World) (hs : s.size ≤ 1000000) :
    Calls Try.prog 26 #[.string s] w fun e w' => e = .returned (.string (sealB s)) ∧ Below w.heap.size w w' := by
  have hm : s.size ≤ maxLen := by unfold maxLen; omega
  have hl : (CrcM.le4 (CrcM.sum s.data.toList)).length = 4 := rfl
  go_enter Try.func26, Try.ntmps26
  go_wp2_with (first | (go_at_call 24; refine (sum_one _ s _ ?_ hm).mono ?_; simp; rintro e w' ⟨rfl, rfl⟩) | (go_at_call 51; refine (bytes_any _ _).mono ?_; rintro e w1 ⟨rfl, hb⟩))
  go_ret
  exact ⟨rfl, below_step ((Below.refl _ _).alloc (Nat.le_refl _) _) hb⟩
/-- is it sealed? -/
def openOk (s : ByteArray) : Bool := decide (4 ≤ s.size) && (CrcM.le4 (CrcM.sum (s.data.toList.take (s.size - 4))) == s.data.toList.drop (s.size - 4))
def openB (s : ByteArray) : ByteArray := if openOk s then s.extract 0 (s.size - 4) else ⟨#[]⟩

set_option maxHeartbeats 400000 in
theorem open_short (s : ByteArray) (w : World) (hs : s.size < 4) :
    Calls Try.prog 22 #[.string s] w fun e w' => e = .returned (.tuple #[.string (openB s), .bool (openOk s)]) ∧ Below w.heap.size w w' := by
  have ho : openOk s = false := by unfold openOk; simp; omega
  have hb : openB s = ⟨#[]⟩ := by unfold openB; rw [ho]; rfl
  rw [ho, hb]
  clear ho hb
  have h0 : ((s.size : Int) - 4 < 0) := by omega
  go_enter Try.func22, Try.ntmps22
  go_wp2
  go_quiet (fail)
  go_wp2
  go_ret2
  exact ⟨rfl, below_drewN (Below.refl _ _) _⟩

theorem openOk_of (s : ByteArray) (m : Nat) (hs : s.size = m + 4) : openOk s = (CrcM.le4 (CrcM.sum (List.take m s.data.toList)) == (s.extract m (m + 4)).toList) := by
  have h : (s.extract m (m + 4)).toList = s.data.toList.drop m := by
    rw [ByteArray.toList_eq, ← hs]; exact Lib.extract_to_end s m
  rw [h]
  unfold openOk
  rw [hs]
  simp
set_option maxHeartbeats 400000 in
theorem open_long (s : ByteArray) (m : Nat) (w : World) (hs : s.size = m + 4) (hm : m ≤ 1000000) :
    Calls Try.prog 22 #[.string s] w fun e w' => e = .returned (.tuple #[.string (openB s), .bool (openOk s)]) ∧ Below w.heap.size w w' := by
  have hx : (s.extract 0 m).size ≤ maxLen := by rw [ByteArray.size_extract]; unfold maxLen; omega
  have hd : decide ((m : Int) < 0) = false := by simp
  have h5 : (m : Int) ≤ (m : Int) + 4 := by omega
  have h6 : (0 : Int) ≤ (m : Int) := by omega
  have h7 : m ≤ m + 4 := by omega
  go_enter Try.func22, Try.ntmps22
  go_wp2
  go_region_held3 (fun w' => Below w.heap.size w w') (repeat (first | assumption | exact Below.refl _ _ | refine below_drew ?_ | refine below_alloc ?_ _ | exact below_step (by assumption) (by assumption))) (first | (go_at_call 24; refine (sum_one _ _ _ (by simp) hx).mono ?_; rintro e w' ⟨rfl, rfl⟩) | (go_at_call 51; refine (bytes_any _ _).mono ?_; rintro e w1 ⟨rfl, hb⟩))
  have E := openOk_of s m hs
  generalize hq : (CrcM.le4 (CrcM.sum (List.take m s.data.toList)) == (s.extract m (m + 4)).toList) = q at E
  clear hq
  cases q with
  | false =>
    have ho : openOk s = false := E
    have hb' : openB s = ⟨#[]⟩ := by unfold openB; rw [ho]; rfl
    have HO := Lib.hid ho
    have HB := Lib.hid hb'
    clear ho hb' E
    go_wp2
    go_ret2
    rw [HO.out, HB.out]
    exact ⟨rfl, by assumption⟩
  | true =>
    have ho : openOk s = true := E
    have hb' : openB s = s.extract 0 m := by unfold openB; rw [ho, hs]; rfl
    have HO := Lib.hid ho
    have HB := Lib.hid hb'
    clear ho hb' E
    go_wp2
    go_ret2
    rw [HO.out, HB.out]
    exact ⟨rfl, by assumption⟩

theorem open_any (s : ByteArray) (w : World) (hm : s.size ≤ 1000004) :
    Calls Try.prog 22 #[.string s] w fun e w' => e = .returned (.tuple #[.string (openB s), .bool (openOk s)]) ∧ Below w.heap.size w w' := by
  by_cases h : s.size < 4
  · exact open_short s w h
  · exact open_long s (s.size - 4) w (by omega) (by omega)
end Go.Proofs.Ythkfgjdbgnbjkaa
