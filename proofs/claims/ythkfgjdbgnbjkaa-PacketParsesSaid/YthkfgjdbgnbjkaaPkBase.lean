/- Plain mathematics of numbers as bytes, the highest one first. No program in sight. Plain mathematics of the 32-bit sum: a step by a bit is linear and has no kernel but 0. No program in sight. The walks of package crc and of its reference: each function once. The walks of package crc and of its reference, second part: the sum's bytes, Seal, Open. The walks of consortref04: the document's sum, Seal, Open. The plain laws of sums: what is sealed opens; what opens was sealed; no byte and no burst of 32 bits turns unseen. And the walk of 'awake'. Plain mathematics of sums, second part: what opens is told by one residue; a turned byte, and turned bits within 32 neighbours, change it. The walks of the laws CrcSums and CrcParts. The walk of the law CrcBursts. The walk of the law CrcBack. The walk of the law CrcBursts. The walks of package num: sizes, value, readers. The walks of num.Put and of the reference's Put and Get. The walks of the reference's Put and Get. Frames in plain Lean: what is printed, what is parsed. The walks of package frame: kind, process, Print. The walk of frame.Parse. The walks of the reference's Print and Parse of frames. Plain laws of frames: what is printed is parsed as it was; what is parsed is printed to the same bytes; a turned byte is seen. The walk of the frames' 'awake', and of FramePrints. The walk of the law FrameSize. Packets in plain Lean: what is written, what is read. The walks of packet's writer: num, bad, process, conf, key, vector. The walks of packet's reader: numbers, texts, process. The walks of packet's reader: process, conf, key. The walks of packet's writer: key, vector, exchange. The walk of packet's writer: message. -/
import Derived.Laws.BitsAllLaws
import Derived.Test.YthkfgjdbgnbjkaaRows
import Derived.WalkKit
import Derived.WalkSpells
import Derived.WalkLawsBesides
import Derived.Lib.Hide
import Derived.Deep.LoopGhost
import Derived.Deep.RegionWith
import Derived.Deep.QuietTactic
import Derived.BigQuiet
import Derived.Handy
import Derived.Laws.BytesArg
import Derived.ShutString
import Derived.Lib.IndexBytes
import Derived.Deep.RegionHeld3
import Derived.RowKit3
import Derived.BigRegion
import Derived.Lib.ConvBytes
import Derived.OpenShut
import Derived.IntWalk
import Derived.Lib.QuietBelow
import Derived.OwnWalk
import Derived.Laws.MakeOwn
import Derived.LoopTactic
import Derived.Lib.AppendStr
import Derived.Deep.RegionLaw
namespace Go.Proofs.Ythkfgjdbgnbjkaa.NumM
set_option linter.unusedSimpArgs false
set_option linter.unusedVariables false

/-- the last n bytes of a number, the highest one first. -/
def be (n v : Nat) : List UInt8 := (List.range n).map fun i => UInt8.ofNat (v / 256 ^ (n - 1 - i))
/-- the number of bytes. -/
def val (l : List UInt8) : Nat := l.foldl (fun v b => v * 256 + b.toNat) 0

theorem be_length (n v : Nat) : (be n v).length = n := by simp [be]
theorem be_zero (v : Nat) : be 0 v = [] := rfl
theorem be_succ (n v : Nat) : be (n + 1) v = UInt8.ofNat (v / 256 ^ n) :: be n v := by
  unfold be
  rw [List.range_succ_eq_map, List.map_cons, List.map_map]
  congr 1
  apply List.map_congr_left
  intro i hi
  simp at hi
  show UInt8.ofNat (v / 256 ^ (n + 1 - 1 - (i + 1))) = _
  congr 3
  omega
theorem be_take (n v i : Nat) (h : i < n) : (be n v).take (i + 1) = (be n v).take i ++ [UInt8.ofNat (v / 256 ^ (n - 1 - i))] := by
  have hl : i < (be n v).length := by rw [be_length]; exact h
  rw [List.take_succ_eq_append_getElem hl]
  simp [be]
theorem be_take_all (n v : Nat) : (be n v).take n = be n v := List.take_of_length_le (by rw [be_length]; omega)

theorem val_snoc (l : List UInt8) (b : UInt8) : val (l ++ [b]) = val l * 256 + b.toNat := by simp [val]
theorem val_from (l : List UInt8) (a : Nat) : l.foldl (fun v b => v * 256 + b.toNat) a = a * 256 ^ l.length + val l := by
  induction l generalizing a with
  | nil => simp [val]
  | cons b l ih =>
    unfold val
    rw [List.foldl_cons, List.foldl_cons, ih, ih (0 * 256 + b.toNat)]
    simp only [List.length_cons, Nat.pow_succ, Nat.add_mul, Nat.zero_mul, Nat.zero_add]
    rw [Nat.mul_assoc, Nat.mul_comm 256, Nat.add_assoc]
theorem val_cons (b : UInt8) (l : List UInt8) : val (b :: l) = b.toNat * 256 ^ l.length + val l := by
  show l.foldl _ (0 * 256 + b.toNat) = _
  rw [val_from]
  simp
theorem val_lt (l : List UInt8) : val l < 256 ^ l.length := by
  induction l with
  | nil => simp [val]
  | cons b l ih =>
    rw [val_cons, List.length_cons, Nat.pow_succ]
    have hb : b.toNat ≤ 255 := by have := b.toNat_lt; omega
    have : b.toNat * 256 ^ l.length ≤ 255 * 256 ^ l.length := Nat.mul_le_mul_right _ hb
    omega
theorem val_be (n v : Nat) : val (be n v) = v % 256 ^ n := by
  induction n generalizing v with
  | zero => simp [be, val, Nat.mod_one]
  | succ n ih =>
    rw [be_succ, val_cons, be_length, ih, UInt8.toNat_ofNat']
    have h := Nat.mod_pow_succ (x := v) (b := 256) (k := n)
    show (v / 256 ^ n) % 256 * 256 ^ n + v % 256 ^ n = v % 256 ^ (n + 1)
    rw [h, Nat.mul_comm, Nat.add_comm]
theorem be_val (l : List UInt8) : be l.length (val l) = l := by
  induction l with
  | nil => rfl
  | cons b l ih =>
    rw [List.length_cons, be_succ]
    have hb := b.toNat_lt
    have hv := val_lt l
    have h1 : val (b :: l) / 256 ^ l.length = b.toNat := by
      rw [val_cons, Nat.add_comm, Nat.add_mul_div_right _ _ (Nat.pow_pos (by omega)), Nat.div_eq_of_lt hv, Nat.zero_add]
    have h2 : be l.length (val (b :: l)) = be l.length (val l) := by
      unfold be
      apply List.map_congr_left
      intro i hi
      simp at hi
      rw [val_cons]
      apply UInt8.toNat_inj.1
      rw [UInt8.toNat_ofNat', UInt8.toNat_ofNat']
      have e : l.length = (l.length - 1 - i) + 1 + i := by omega
      have e2 : b.toNat * 256 ^ l.length = (b.toNat * 256 ^ i) * 256 * 256 ^ (l.length - 1 - i) := by
        conv => lhs; rw [e]
        rw [Nat.pow_add, Nat.pow_succ]
        ac_rfl
      rw [e2, Nat.add_comm, Nat.add_mul_div_right _ _ (Nat.pow_pos (by omega))]
      show (_ + b.toNat * 256 ^ i * 256) % 256 = _ % 256
      omega
    rw [h1, h2, ih]
    congr 1
    apply UInt8.toNat_inj.1
    rw [UInt8.toNat_ofNat']
    omega
theorem val_take_lt (l : List UInt8) (n : Nat) (h : l.length ≤ n) : val l < 256 ^ n :=
  Nat.lt_of_lt_of_le (val_lt l) (Nat.pow_le_pow_right (by omega) h)
/-- a byte on. -/
theorem or_byte (v b : Nat) (hb : b < 256) : v * 256 ||| b = v * 256 + b := nat_join 8 (v * 256) b (by simp) hb
end Go.Proofs.Ythkfgjdbgnbjkaa.NumM
namespace Go.Proofs.Ythkfgjdbgnbjkaa.CrcM
set_option linter.unusedSimpArgs false
set_option linter.unusedVariables false

/-- a sum goes on by a bit. -/
def A (x : BitVec 32) : BitVec 32 := (x >>> 1) ^^^ (if x.getLsbD 0 then 3988292384#32 else 0#32)
/-- n times. -/
def An : Nat → BitVec 32 → BitVec 32
  | 0, x => x
  | n + 1, x => An n (A x)

theorem A_xor (x y : BitVec 32) : A (x ^^^ y) = A x ^^^ A y := by
  unfold A
  rw [BitVec.ushiftRight_xor_distrib, BitVec.getLsbD_xor]
  cases x.getLsbD 0 <;> cases y.getLsbD 0 <;> simp only [Bool.xor_false, Bool.xor_true, Bool.not_false, Bool.not_true, Bool.false_eq_true, if_true, if_false]
  · simp
  · simp; ac_rfl
  · simp; ac_rfl
  · generalize 3988292384#32 = p
    apply BitVec.eq_of_getLsbD_eq
    intro i hi
    simp only [BitVec.getLsbD_xor]
    cases (x >>> 1).getLsbD i <;> cases (y >>> 1).getLsbD i <;> cases p.getLsbD i <;> simp

theorem A_zero : A 0#32 = 0#32 := by decide

theorem A_ker (x : BitVec 32) (h : A x = 0#32) : x = 0#32 := by
  unfold A at h
  cases hb : x.getLsbD 0 with
  | true =>
    rw [hb] at h
    simp only [if_true] at h
    have h31 := congrArg (fun v : BitVec 32 => v.getLsbD 31) h
    simp at h31
  | false =>
    rw [hb] at h
    simp only [Bool.false_eq_true, if_false, BitVec.xor_zero] at h
    apply BitVec.eq_of_getLsbD_eq
    intro i hi
    rcases i with _ | i
    · simpa using hb
    · have := congrArg (fun v : BitVec 32 => v.getLsbD i) h
      simp [BitVec.getLsbD_ushiftRight] at this
      simpa [Nat.add_comm] using this

theorem A_inj {x y : BitVec 32} (h : A x = A y) : x = y := by
  have h2 : A (x ^^^ y) = 0#32 := by rw [A_xor, h, BitVec.xor_self]
  have h3 := A_ker _ h2
  calc x = x ^^^ (y ^^^ y) := by simp
    _ = (x ^^^ y) ^^^ y := by rw [BitVec.xor_assoc]
    _ = y := by rw [h3]; simp

theorem An_succ' (n : Nat) (x : BitVec 32) : An (n + 1) x = A (An n x) := by
  induction n generalizing x with
  | zero => rfl
  | succ n ih => show An (n + 1) (A x) = _; rw [ih]; rfl
theorem An_add (m n : Nat) (x : BitVec 32) : An (m + n) x = An n (An m x) := by
  induction m generalizing x with
  | zero => simp [An]
  | succ m ih => rw [Nat.succ_add]; show An (m + n) (A x) = _; rw [ih]; rfl
theorem An_xor (n : Nat) (x y : BitVec 32) : An n (x ^^^ y) = An n x ^^^ An n y := by
  induction n generalizing x y with
  | zero => rfl
  | succ n ih => show An n (A _) = _; rw [A_xor, ih]; rfl
theorem An_zero (n : Nat) : An n 0#32 = 0#32 := by
  induction n with
  | zero => rfl
  | succ n ih => show An n (A _) = _; rw [A_zero, ih]
theorem An_inj (n : Nat) {x y : BitVec 32} (h : An n x = An n y) : x = y := by
  induction n generalizing x y with
  | zero => exact h
  | succ n ih => exact A_inj (ih h)
theorem An_ker (n : Nat) {x : BitVec 32} (h : An n x = 0#32) : x = 0#32 := An_inj n (h.trans (An_zero n).symm)

/-- a sum goes on by a byte. -/
def up (c : BitVec 32) (b : UInt8) : BitVec 32 := An 8 (c ^^^ b.toBitVec.setWidth 32)
/-- .. by bytes. -/
def fold (c : BitVec 32) (l : List UInt8) : BitVec 32 := l.foldl up c
/-- the sum of bytes. -/
def sum (l : List UInt8) : BitVec 32 := fold 4294967295#32 l ^^^ 4294967295#32
/-- a sum's four bytes, the lowest one first. -/
def le4 (c : BitVec 32) : List UInt8 := [⟨c.setWidth 8⟩, ⟨(c >>> 8).setWidth 8⟩, ⟨(c >>> 16).setWidth 8⟩, ⟨(c >>> 24).setWidth 8⟩]

theorem up_inj {c d : BitVec 32} {b : UInt8} (h : up c b = up d b) : c = d := by
  have h1 := An_inj 8 h
  have h2 := congrArg (· ^^^ b.toBitVec.setWidth 32) h1
  simpa [BitVec.xor_assoc] using h2
theorem fold_inj {c d : BitVec 32} (l : List UInt8) (h : fold c l = fold d l) : c = d := by
  induction l generalizing c d with
  | nil => exact h
  | cons b l ih => exact up_inj (ih h)
theorem fold_append (c : BitVec 32) (l m : List UInt8) : fold c (l ++ m) = fold (fold c l) m := List.foldl_append
theorem fold_snoc (c : BitVec 32) (l : List UInt8) (b : UInt8) : fold c (l ++ [b]) = up (fold c l) b := by rw [fold_append]; rfl
theorem fold_xor (c e : BitVec 32) (l : List UInt8) : fold (c ^^^ e) l = fold c l ^^^ An (8 * l.length) e := by
  induction l generalizing c e with
  | nil => rfl
  | cons b l ih =>
    show fold (up (c ^^^ e) b) l = fold (up c b) l ^^^ _
    have h : up (c ^^^ e) b = up c b ^^^ An 8 e := by
      unfold up
      rw [← An_xor]
      congr 1
      rw [BitVec.xor_assoc, BitVec.xor_comm e, ← BitVec.xor_assoc]
    rw [h, ih, ← An_add]
    congr 2
    simp; omega

end Go.Proofs.Ythkfgjdbgnbjkaa.CrcM
namespace Go.Proofs.Ythkfgjdbgnbjkaa
open Go.RowKit
set_option linter.unusedSimpArgs false
set_option linter.unusedVariables false

theorem ret_u32 {a b : Int} (h : a = b) : Ending.returned (.int .u32 a) = .returned (.int .u32 b) := by rw [h]

/-- the walk's spelling of one bit's step. -/
theorem A_int (x : BitVec 32) : bits .xor .u32 ((x.toNat : Int) / 2) ((3988292384 * bits .and .u32 (x.toNat : Int) 1) % 4294967296) = ((CrcM.A x).toNat : Int) := by
  have hx := x.isLt
  have e1 : bits .and .u32 (x.toNat : Int) 1 = ((x.toNat % 2 : Nat) : Int) := by
    have := u32_and_nat x.toNat 1 (by omega) (by omega)
    rw [nat_mask1] at this
    exact this
  have hlow : x.getLsbD 0 = decide (x.toNat % 2 = 1) := by
    rw [BitVec.getLsbD, Nat.testBit_zero]
  rw [e1]
  have e2 : (3988292384 * ((x.toNat % 2 : Nat) : Int)) % 4294967296 = ((3988292384 * (x.toNat % 2) : Nat) : Int) := by omega
  have e3 : ((x.toNat : Int) / 2) = ((x.toNat / 2 : Nat) : Int) := by omega
  rw [e2, e3, u32_xor_nat _ _ (by omega) (by omega)]
  unfold CrcM.A
  rw [BitVec.toNat_xor, BitVec.toNat_ushiftRight, hlow]
  congr 1
  rcases Nat.mod_two_eq_zero_or_one x.toNat with h | h <;> simp [h, Nat.shiftRight_eq_div_pow]

set_option maxHeartbeats 400000 in
theorem step_any (c : BitVec 32) (b : UInt8) (w : World) :
    Calls Try.prog 52 #[.int .u32 (c.toNat : Int), .int .u8 (b.toNat : Int)] w fun e w' => e = .returned (.int .u32 ((CrcM.up c b).toNat : Int)) ∧ w = w' := by
  have hb := b.toNat_lt
  have hc := c.isLt
  have e0 : bits .xor .u32 (c.toNat : Int) (b.toNat : Int) = (((c ^^^ b.toBitVec.setWidth 32) : BitVec 32).toNat : Int) := by
    rw [u32_xor_nat _ _ (by omega) (by omega), BitVec.toNat_xor]
    congr 2
  have e1 : (b.toNat : Int) % 4294967296 = b.toNat := by omega
  have E0 := Lib.hid e0
  clear e0
  go_enter Try.func52, Try.ntmps52
  go_wp2
  go_loop [0, 10] (fun x i => ∃ k : Nat, k ≤ 8 ∧ i = .int .i64 k ∧ x = .int .u32 ((CrcM.An k (c ^^^ b.toBitVec.setWidth 32)).toNat : Int)) (fun _ i => 8 - (intOf i).toNat)
  case atStart => exact ⟨0, by omega, rfl, by rw [E0.out]; rfl⟩
  case round =>
    obtain ⟨k, hk, rfl, rfl⟩ := hrel
    clear E0
    generalize hx : CrcM.An k (c ^^^ b.toBitVec.setWidth 32) = x
    have HX := Lib.hid hx
    clear hx
    have ea := Lib.hid (A_int x)
    by_cases hlt : k < 8
    · go_wp2
      go_round
      case rel => exact ⟨k + 1, by omega, by go_num, by rw [ea.out, CrcM.An_succ', HX.out]⟩
      case measure => simp [intOf]; omega
    · obtain rfl : k = 8 := by omega
      go_wp2
      go_ret
      exact ⟨ret_u32 (by rw [← HX.out]; rfl), rfl⟩
theorem xor_ones (x : BitVec 32) : bits .xor .u32 (x.toNat : Int) 4294967295 = (((x ^^^ 4294967295#32) : BitVec 32).toNat : Int) := by
  have := x.isLt
  have h := u32_xor_nat x.toNat 4294967295 (by omega) (by omega)
  rw [BitVec.toNat_xor]
  exact h
/-- a slice of strings that reads as a list. -/
def ReadsStr (w : World) (A : Option Addr) (l : List ByteArray) : Prop :=
  ∀ i, i < l.length → ∃ b o, A = some ⟨b, o, none⟩ ∧ w.cell? ⟨b, o + i, none⟩ = some (.string (l.getD i ByteArray.empty))
def catB (l : List ByteArray) : List UInt8 := l.flatMap fun s => s.data.toList
theorem catB_take_succ (l : List ByteArray) (k : Nat) (h : k < l.length) : catB (l.take (k + 1)) = catB (l.take k) ++ (l.getD k ByteArray.empty).data.toList := by
  have e : l[k]?.getD ByteArray.empty = l[k] := by rw [List.getElem?_eq_getElem h]; rfl
  simp only [catB, List.take_succ_eq_append_getElem h, List.flatMap_append, List.flatMap_cons, List.flatMap_nil, List.append_nil, List.getD, e]
theorem size_data (s : ByteArray) : s.data.toList.length = s.size := by rw [Array.length_toList]; rfl
theorem take_data_snoc (s : ByteArray) (k : Nat) (h : k < s.size) : s.data.toList.take (k + 1) = s.data.toList.take k ++ [s[k]] := by
  rw [List.take_succ_eq_append_getElem (by rw [size_data]; exact h)]; rfl

set_option maxHeartbeats 400000 in
theorem sum_any (A : Option Addr) (n cap : Nat) (l : List ByteArray) (w : World) (hn : n = l.length) (hR : ReadsStr w A l) (hl : l.length ≤ 1000000) (hs : ∀ i, i < l.length → (l.getD i ByteArray.empty).size ≤ maxLen) :
    Calls Try.prog 24 #[.slice A n cap] w fun e w' => e = .returned (.int .u32 ((CrcM.sum (catB l)).toNat : Int)) ∧ w = w' := by
  have HR := Lib.hid hR
  have HS := Lib.hid hs
  obtain ⟨m, hm⟩ : ∃ m, m = l.length := ⟨_, rfl⟩
  have HM := Lib.hid hm
  have hm' : m ≤ 1000000 := by omega
  obtain rfl : n = m := by omega
  clear hR hs hn hm hl
  go_enter Try.func24, Try.ntmps24
  go_wp2
  go_loop [3, 9] (fun x i => ∃ k : Nat, k ≤ n ∧ i = .int .i64 k ∧ x = .int .u32 ((CrcM.fold 4294967295#32 (catB (l.take k))).toNat : Int)) (fun _ i => n - (intOf i).toNat)
  case atStart => exact ⟨0, by omega, rfl, rfl⟩
  case round =>
    obtain ⟨k, hk, rfl, rfl⟩ := hrel
    by_cases hlt : k < n
    · obtain ⟨b, o, rfl, hcell⟩ := HR.out k (by rw [← HM.out]; exact hlt)
      have hsz := HS.out k (by rw [← HM.out]; exact hlt)
      have hsn := Lib.hid (catB_take_succ l k (by rw [← HM.out]; exact hlt))
      generalize hss : l.getD k ByteArray.empty = s at hcell hsz
      have HSS := Lib.hid hss
      clear hss
      unfold maxLen at hsz
      generalize hx0 : CrcM.fold 4294967295#32 (catB (l.take k)) = x0
      have HX0 := Lib.hid hx0
      clear hx0
      go_wp2
      go_loop [3, 15] (fun x i => ∃ j : Nat, j ≤ s.size ∧ i = .int .i64 j ∧ x = .int .u32 ((CrcM.fold x0 (s.data.toList.take j)).toNat : Int)) (fun _ i => s.size - (intOf i).toNat)
      case atStart => exact ⟨0, by omega, rfl, rfl⟩
      case round =>
        obtain ⟨j, hj, rfl, rfl⟩ := hrel
        by_cases hjt : j < s.size
        · have hts := Lib.hid (take_data_snoc s j hjt)
          generalize hx1 : CrcM.fold x0 (s.data.toList.take j) = x1
          have HX1 := Lib.hid hx1
          clear hx1
          go_wp2_with (go_at_call 52; refine (step_any _ _ _).mono ?_; rintro e w' ⟨rfl, rfl⟩)
          go_round
          case rel => exact ⟨j + 1, by omega, by go_num, by rw [hts.out, CrcM.fold_snoc, HX1.out]⟩
          case measure => simp [intOf]; omega
        · obtain rfl : j = s.size := by omega
          have HE := Lib.hid (show s.data.toList.take s.size = s.data.toList from List.take_of_length_le (by rw [size_data]; omega))
          go_wp2
          go_round
          case rel => exact ⟨k + 1, by omega, by go_num, by rw [hsn.out, CrcM.fold_append, HX0.out, HSS.out, HE.out]⟩
          case measure => simp [intOf]; omega
    · obtain rfl : k = n := by omega
      have HE := Lib.hid (show l.take k = l from List.take_of_length_le (by rw [HM.out]; omega))
      have HX := Lib.hid (xor_ones (CrcM.fold 4294967295#32 (catB (l.take k))))
      go_wp2
      go_ret
      exact ⟨ret_u32 (by rw [HX.out, HE.out]; rfl), rfl⟩
end Go.Proofs.Ythkfgjdbgnbjkaa
namespace Go.Proofs.Ythkfgjdbgnbjkaa
open Go.RowKit
set_option linter.unusedSimpArgs false
set_option linter.unusedVariables false

theorem convert_four (w : World) (x0 x1 x2 x3 : Int) :
    (convert 30 9 (.slice (some ⟨w.heap.size, 0, none⟩) 4 4)).run Try.prog (w.alloc (.cells #[.int .u8 x0, .int .u8 x1, .int .u8 x2, .int .u8 x3] 126)) =
      .ok (.string (strOfNums [x0, x1, x2, x3])) (w.alloc (.cells #[.int .u8 x0, .int .u8 x1, .int .u8 x2, .int .u8 x3] 126)) := by
  refine run_convert_bytes_arg _ 30 5 Try.underlying30 Try.underlying5 w.heap.size 0 4 4 [x0, x1, x2, x3] rfl ?_ 9 Try.underlying9
  intro i hi
  match i, hi with
  | 0, _ => simp [World.cell?_alloc_new]
  | 1, _ => simp
  | 2, _ => simp
  | 3, _ => simp

theorem ret_str {a b : ByteArray} (h : a = b) : Ending.returned (.string a) = .returned (.string b) := by rw [h]
theorem u8_of (n : Nat) (v : BitVec 8) (h : v.toNat = n) : UInt8.ofNat n = ⟨v⟩ := by
  subst h
  apply UInt8.toNat_inj.1
  simp [UInt8.toNat]
theorem le4_int (c : BitVec 32) : strOfNums [(c.toNat : Int) % 256, (c.toNat : Int) / 256 % 256, (c.toNat : Int) / 65536 % 256, (c.toNat : Int) / 16777216] = ⟨(CrcM.le4 c).toArray⟩ := by
  have hc := c.isLt
  unfold strOfNums CrcM.le4
  have e0 : ((c.toNat : Int) % 256).toNat = c.toNat % 256 := by omega
  have e1 : ((c.toNat : Int) / 256 % 256).toNat = c.toNat / 256 % 256 := by omega
  have e2 : ((c.toNat : Int) / 65536 % 256).toNat = c.toNat / 65536 % 256 := by omega
  have e3 : ((c.toNat : Int) / 16777216).toNat = c.toNat / 16777216 % 256 := by omega
  simp only [List.map_cons, List.map_nil, e0, e1, e2, e3]
  rw [u8_of (c.toNat % 256) (c.setWidth 8) (by simp [BitVec.toNat_setWidth]), u8_of (c.toNat / 256 % 256) ((c >>> 8).setWidth 8) (by simp [BitVec.toNat_setWidth, Nat.shiftRight_eq_div_pow]),
    u8_of (c.toNat / 65536 % 256) ((c >>> 16).setWidth 8) (by simp [BitVec.toNat_setWidth, Nat.shiftRight_eq_div_pow]), u8_of (c.toNat / 16777216 % 256) ((c >>> 24).setWidth 8) (by simp [BitVec.toNat_setWidth, Nat.shiftRight_eq_div_pow])]

set_option maxHeartbeats 400000 in
theorem bytes_any (c : BitVec 32) (w : World) :
    Calls Try.prog 51 #[.int .u32 (c.toNat : Int)] w fun e w' => e = .returned (.string ⟨(CrcM.le4 c).toArray⟩) ∧ Below w.heap.size w w' := by
  have hc := c.isLt
  have hcv := fun x0 x1 x2 x3 => convert_four w x0 x1 x2 x3
  go_enter Try.func51, Try.ntmps51
  go_wp2
  go_rounds 5
  go_ret
  exact ⟨ret_str (le4_int c), (Below.refl _ _).alloc (Nat.le_refl _) _⟩
theorem sum_one (b : Nat) (s : ByteArray) (w : World) (hc : w.cell? ⟨b, 0, none⟩ = some (.string s)) (hs : s.size ≤ maxLen) :
    Calls Try.prog 24 #[.slice (some ⟨b, 0, none⟩) 1 1] w fun e w' => e = .returned (.int .u32 ((CrcM.sum s.data.toList).toNat : Int)) ∧ w = w' := by
  have h := sum_any (some ⟨b, 0, none⟩) 1 1 [s] w rfl (fun i hi => ⟨b, 0, rfl, by
    obtain rfl : i = 0 := by simp at hi; omega
    simpa using hc⟩) (by simp) (fun i hi => by
    obtain rfl : i = 0 := by simp at hi; omega
    simpa using hs)
  simpa [catB] using h

theorem below_drew {B : Nat} {w W : World} (h : Below B w W) : Below B w W.drew := ⟨h.os, h.tape, h.output, h.size, h.block⟩
theorem below_alloc {w W : World} (h : Below w.heap.size w W) (o : Obj) : Below w.heap.size w (W.alloc o) := h.alloc h.size o
theorem below_step {w W w1 : World} (h : Below w.heap.size w W) (hb : Below W.heap.size W w1) : Below w.heap.size w w1 := h.trans (hb.mono h.size)

/-- bytes with their sum behind them. -/
def sealB (s : ByteArray) : ByteArray := s ++ ⟨(CrcM.le4 (CrcM.sum s.data.toList)).toArray⟩

set_option maxHeartbeats 400000 in
theorem seal_any (s : ByteArray) (w : World) (hs : s.size ≤ 1000000) :
    Calls Try.prog 26 #[.string s] w fun e w' => e = .returned (.string (sealB s)) ∧ Below w.heap.size w w' := by
  have hm : s.size ≤ maxLen := by unfold maxLen; omega
  have hl : (CrcM.le4 (CrcM.sum s.data.toList)).length = 4 := rfl
  go_enter Try.func26, Try.ntmps26
  go_wp2_with (first | (go_at_call 24; refine (sum_one _ s _ ?_ hm).mono ?_; simp; rintro e w' ⟨rfl, rfl⟩) | (go_at_call 51; refine (bytes_any _ _).mono ?_; rintro e w1 ⟨rfl, hb⟩))
  go_ret
  exact ⟨rfl, below_step ((Below.refl _ _).alloc (Nat.le_refl _) _) hb⟩
/-- is it sealed? -/
def openOk (s : ByteArray) : Bool := decide (4 ≤ s.size) && (CrcM.le4 (CrcM.sum (s.data.toList.take (s.size - 4))) == s.data.toList.drop (s.size - 4))
def openB (s : ByteArray) : ByteArray := if openOk s then s.extract 0 (s.size - 4) else ⟨#[]⟩

set_option maxHeartbeats 400000 in
theorem open_short (s : ByteArray) (w : World) (hs : s.size < 4) :
    Calls Try.prog 22 #[.string s] w fun e w' => e = .returned (.tuple #[.string (openB s), .bool (openOk s)]) ∧ Below w.heap.size w w' := by
  have ho : openOk s = false := by unfold openOk; simp; omega
  have hb : openB s = ⟨#[]⟩ := by unfold openB; rw [ho]; rfl
  rw [ho, hb]
  clear ho hb
  have h0 : ((s.size : Int) - 4 < 0) := by omega
  go_enter Try.func22, Try.ntmps22
  go_wp2
  go_quiet (fail)
  go_wp2
  go_ret2
  exact ⟨rfl, below_drewN (Below.refl _ _) _⟩

theorem openOk_of (s : ByteArray) (m : Nat) (hs : s.size = m + 4) : openOk s = (CrcM.le4 (CrcM.sum (List.take m s.data.toList)) == (s.extract m (m + 4)).toList) := by
  have h : (s.extract m (m + 4)).toList = s.data.toList.drop m := by
    rw [ByteArray.toList_eq, ← hs]; exact Lib.extract_to_end s m
  rw [h]
  unfold openOk
  rw [hs]
  simp
set_option maxHeartbeats 400000 in
theorem open_long (s : ByteArray) (m : Nat) (w : World) (hs : s.size = m + 4) (hm : m ≤ 1000000) :
    Calls Try.prog 22 #[.string s] w fun e w' => e = .returned (.tuple #[.string (openB s), .bool (openOk s)]) ∧ Below w.heap.size w w' := by
  have hx : (s.extract 0 m).size ≤ maxLen := by rw [ByteArray.size_extract]; unfold maxLen; omega
  have hd : decide ((m : Int) < 0) = false := by simp
  have h5 : (m : Int) ≤ (m : Int) + 4 := by omega
  have h6 : (0 : Int) ≤ (m : Int) := by omega
  have h7 : m ≤ m + 4 := by omega
  go_enter Try.func22, Try.ntmps22
  go_wp2
  go_region_held3 (fun w' => Below w.heap.size w w') (repeat (first | assumption | exact Below.refl _ _ | refine below_drew ?_ | refine below_alloc ?_ _ | exact below_step (by assumption) (by assumption))) (first | (go_at_call 24; refine (sum_one _ _ _ (by simp) hx).mono ?_; rintro e w' ⟨rfl, rfl⟩) | (go_at_call 51; refine (bytes_any _ _).mono ?_; rintro e w1 ⟨rfl, hb⟩))
  have E := openOk_of s m hs
  generalize hq : (CrcM.le4 (CrcM.sum (List.take m s.data.toList)) == (s.extract m (m + 4)).toList) = q at E
  clear hq
  cases q with
  | false =>
    have ho : openOk s = false := E
    have hb' : openB s = ⟨#[]⟩ := by unfold openB; rw [ho]; rfl
    have HO := Lib.hid ho
    have HB := Lib.hid hb'
    clear ho hb' E
    go_wp2
    go_ret2
    rw [HO.out, HB.out]
    exact ⟨rfl, by assumption⟩
  | true =>
    have ho : openOk s = true := E
    have hb' : openB s = s.extract 0 m := by unfold openB; rw [ho, hs]; rfl
    have HO := Lib.hid ho
    have HB := Lib.hid hb'
    clear ho hb' E
    go_wp2
    go_ret2
    rw [HO.out, HB.out]
    exact ⟨rfl, by assumption⟩

theorem open_any (s : ByteArray) (w : World) (hm : s.size ≤ 1000004) :
    Calls Try.prog 22 #[.string s] w fun e w' => e = .returned (.tuple #[.string (openB s), .bool (openOk s)]) ∧ Below w.heap.size w w' := by
  by_cases h : s.size < 4
  · exact open_short s w h
  · exact open_long s (s.size - 4) w (by omega) (by omega)
end Go.Proofs.Ythkfgjdbgnbjkaa
namespace Go.Proofs.Ythkfgjdbgnbjkaa
open Go.RowKit
set_option linter.unusedSimpArgs false
set_option linter.unusedVariables false

theorem half_odd (x : BitVec 32) (h : x.toNat % 2 = 1) : bits .xor .u32 ((x.toNat : Int) / 2) 3988292384 = ((CrcM.A x).toNat : Int) := by
  have hx := x.isLt
  have hlow : x.getLsbD 0 = true := by rw [BitVec.getLsbD, Nat.testBit_zero]; simpa using h
  have e3 : ((x.toNat : Int) / 2) = ((x.toNat / 2 : Nat) : Int) := by omega
  have h2 := u32_xor_nat (x.toNat / 2) 3988292384 (by omega) (by omega)
  rw [e3]
  unfold CrcM.A
  rw [BitVec.toNat_xor, BitVec.toNat_ushiftRight, hlow, Nat.shiftRight_eq_div_pow]
  exact h2
theorem half_even (x : BitVec 32) (h : x.toNat % 2 = 0) : ((x.toNat : Int) / 2) = ((CrcM.A x).toNat : Int) := by
  have hx := x.isLt
  have hlow : x.getLsbD 0 = false := by rw [BitVec.getLsbD, Nat.testBit_zero]; simp; omega
  have e3 : ((x.toNat : Int) / 2) = ((x.toNat / 2 : Nat) : Int) := by omega
  rw [e3]
  unfold CrcM.A
  rw [BitVec.toNat_xor, BitVec.toNat_ushiftRight, hlow, Nat.shiftRight_eq_div_pow]
  simp

set_option maxHeartbeats 400000 in
theorem half_any (c : BitVec 32) (w : World) :
    Calls Try.prog 53 #[.int .u32 (c.toNat : Int)] w fun e w' => e = .returned (.int .u32 ((CrcM.A c).toNat : Int)) ∧ w = w' := by
  have hc := c.isLt
  rcases Nat.mod_two_eq_zero_or_one c.toNat with h | h
  · have E := Lib.hid (half_even c h)
    have hd : ((c.toNat : Int) % 2 == 1) = false := by rw [beq_eq_false_iff_ne]; omega
    clear h
    go_enter Try.func53, Try.ntmps53
    go_wp2
    go_ret
    exact ⟨ret_u32 E.out, rfl⟩
  · have E := Lib.hid (half_odd c h)
    have hd : ((c.toNat : Int) % 2 == 1) = true := by rw [beq_iff_eq]; omega
    clear h
    go_enter Try.func53, Try.ntmps53
    go_wp2
    go_ret
    exact ⟨ret_u32 E.out, rfl⟩

theorem sub_ones (x : BitVec 32) : (4294967295 - (x.toNat : Int)) = (((x ^^^ 4294967295#32) : BitVec 32).toNat : Int) := by
  have hx := x.isLt
  have e : x ^^^ 4294967295#32 = ~~~x := by
    have h1 : (4294967295#32) = BitVec.allOnes 32 := by decide
    rw [h1, BitVec.xor_allOnes]
  rw [e, BitVec.toNat_not]
  omega

set_option maxHeartbeats 400000 in
theorem rsum_any (s : ByteArray) (w : World) (hs : s.size ≤ maxLen) :
    Calls Try.prog 25 #[.string s] w fun e w' => e = .returned (.int .u32 ((CrcM.sum s.data.toList).toNat : Int)) ∧ w = w' := by
  unfold maxLen at hs
  go_enter Try.func25, Try.ntmps25
  go_wp2
  go_loop [3, 4] (fun x i => ∃ k : Nat, k ≤ s.size ∧ i = .int .i64 k ∧ x = .int .u32 ((CrcM.fold 4294967295#32 (s.data.toList.take k)).toNat : Int)) (fun _ i => s.size - (intOf i).toNat)
  case atStart => exact ⟨0, by omega, rfl, rfl⟩
  case round =>
    obtain ⟨k, hk, rfl, rfl⟩ := hrel
    by_cases hlt : k < s.size
    · have hts := Lib.hid (take_data_snoc s k hlt)
      generalize hx0 : CrcM.fold 4294967295#32 (s.data.toList.take k) = x0
      have HX0 := Lib.hid hx0
      clear hx0
      have hb := (s[k]).toNat_lt
      have hc := x0.isLt
      have e0 : bits .xor .u32 (x0.toNat : Int) ((s[k]).toNat : Int) = (((x0 ^^^ (s[k]).toBitVec.setWidth 32) : BitVec 32).toNat : Int) := by
        rw [u32_xor_nat _ _ (by omega) (by omega), BitVec.toNat_xor]
        congr 2
      have E0 := Lib.hid e0
      clear e0
      go_wp2
      go_loop [3, 5] (fun x i => ∃ j : Nat, j ≤ 8 ∧ i = .int .i64 j ∧ x = .int .u32 ((CrcM.An j (x0 ^^^ (s[k]).toBitVec.setWidth 32)).toNat : Int)) (fun _ i => 8 - (intOf i).toNat)
      case atStart => exact ⟨0, by omega, rfl, by rw [E0.out]; rfl⟩
      case round =>
        obtain ⟨j, hj, rfl, rfl⟩ := hrel
        by_cases hjt : j < 8
        · generalize hx1 : CrcM.An j (x0 ^^^ (s[k]).toBitVec.setWidth 32) = x1
          have HX1 := Lib.hid hx1
          clear hx1
          go_wp2_with (go_at_call 53; refine (half_any _ _).mono ?_; rintro e w' ⟨rfl, rfl⟩)
          go_round
          case rel => exact ⟨j + 1, by omega, by go_num, by rw [CrcM.An_succ', HX1.out]⟩
          case measure => simp [intOf]; omega
        · obtain rfl : j = 8 := by omega
          go_wp2
          go_round
          case rel => exact ⟨k + 1, by omega, by go_num, by rw [hts.out, CrcM.fold_snoc, HX0.out]; rfl⟩
          case measure => simp [intOf]; omega
    · obtain rfl : k = s.size := by omega
      have HE := Lib.hid (show s.data.toList.take s.size = s.data.toList from List.take_of_length_le (by rw [size_data]; omega))
      have HX := Lib.hid (sub_ones (CrcM.fold 4294967295#32 (s.data.toList.take s.size)))
      have hc := (CrcM.fold 4294967295#32 (s.data.toList.take s.size)).isLt
      go_wp2
      go_ret
      exact ⟨ret_u32 (by rw [HX.out, HE.out]; rfl), rfl⟩

theorem convert_lit (w : World) (x0 x1 x2 x3 : Int) :
    (convert 30 9 (.slice (some ⟨w.heap.size, 0, none⟩) 4 4)).run Try.prog (w.alloc (.cells #[.int .u8 x0, .int .u8 x1, .int .u8 x2, .int .u8 x3] 5)) =
      .ok (.string (strOfNums [x0, x1, x2, x3])) (w.alloc (.cells #[.int .u8 x0, .int .u8 x1, .int .u8 x2, .int .u8 x3] 5)) := by
  refine run_convert_bytes_arg _ 30 5 Try.underlying30 Try.underlying5 w.heap.size 0 4 4 [x0, x1, x2, x3] rfl ?_ 9 Try.underlying9
  intro i hi
  match i, hi with
  | 0, _ => simp [World.cell?_alloc_new]
  | 1, _ => simp
  | 2, _ => simp
  | 3, _ => simp

set_option maxHeartbeats 400000 in
theorem rseal_any (s : ByteArray) (w : World) (hs : s.size ≤ 1000000) :
    Calls Try.prog 27 #[.string s] w fun e w' => e = .returned (.string (sealB s)) ∧ Below w.heap.size w w' := by
  have hm : s.size ≤ maxLen := by unfold maxLen; omega
  have hl : (CrcM.le4 (CrcM.sum s.data.toList)).length = 4 := rfl
  have hcv := fun x0 x1 x2 x3 => convert_lit w x0 x1 x2 x3
  have hc := (CrcM.sum s.data.toList).isLt
  have L4 := le4_int (CrcM.sum s.data.toList)
  go_enter Try.func27, Try.ntmps27
  go_wp2_with (first | (go_at_call 25; refine (rsum_any s _ hm).mono ?_; rintro e w' ⟨rfl, rfl⟩))
  go_ret
  exact ⟨rfl, (Below.refl _ _).alloc (Nat.le_refl _) _⟩

theorem sealB_size (s : ByteArray) : (sealB s).size = s.size + 4 := by
  unfold sealB; rw [ByteArray.size_append]; rfl
theorem sealB_data (s : ByteArray) : (sealB s).data.toList = s.data.toList ++ CrcM.le4 (CrcM.sum s.data.toList) := by
  unfold sealB; simp
/-- to open is to ask whether the bytes are what their own front is sealed to. -/
theorem openOk_seal (s : ByteArray) (m : Nat) (hs : s.size = m + 4) : openOk s = ((sealB (s.extract 0 m)).toList == s.toList) := by
  rw [openOk_of s m hs, ByteArray.toList_eq, ByteArray.toList_eq, ByteArray.toList_eq, sealB_data]
  have e1 : (s.extract 0 m).data.toList = s.data.toList.take m := by rw [Lib.extract_data]; simp
  have e2 : (s.extract m (m + 4)).data.toList = s.data.toList.drop m := by rw [← hs]; exact Lib.extract_to_end s m
  rw [e1, e2, Bool.eq_iff_iff, beq_iff_eq, beq_iff_eq]
  constructor
  · intro h
    rw [h, List.take_append_drop]
  · intro h
    have h2 := congrArg (List.drop m) h
    rw [List.drop_left' (by rw [List.length_take, size_data]; omega)] at h2
    exact h2

set_option maxHeartbeats 400000 in
theorem ropen_any (s : ByteArray) (w : World) (hm : s.size ≤ 1000004) :
    Calls Try.prog 23 #[.string s] w fun e w' => e = .returned (.tuple #[.string (openB s), .bool (openOk s)]) ∧ Below w.heap.size w w' := by
  by_cases hs : s.size < 4
  · have ho : openOk s = false := by unfold openOk; simp; omega
    have hb : openB s = ⟨#[]⟩ := by unfold openB; rw [ho]; rfl
    rw [ho, hb]
    clear ho hb
    have h0 : decide ((s.size : Int) < 4) = true := by simp; omega
    go_enter Try.func23, Try.ntmps23
    go_wp2
    go_ret2
    exact ⟨rfl, Below.refl _ _⟩
  · obtain ⟨m, hm4⟩ : ∃ m, s.size = m + 4 := ⟨s.size - 4, by omega⟩
    have hx : (s.extract 0 m).size ≤ 1000000 := by rw [ByteArray.size_extract]; omega
    have hd : decide ((m : Int) + 4 < 4) = false := by simp; omega
    have h5 : (m : Int) ≤ (m : Int) + 4 := by omega
    have h6 : (0 : Int) ≤ (m : Int) := by omega
    have h7 : m ≤ m + 4 := by omega
    have E := openOk_seal s m hm4
    cases hq : openOk s with
    | false =>
      have hb : openB s = ⟨#[]⟩ := by unfold openB; rw [hq]; rfl
      rw [hq] at E
      have E' := E.symm
      have HB := Lib.hid hb
      clear E hb hq hs
      go_enter Try.func23, Try.ntmps23
      go_wp2_with (go_at_call 27; refine (rseal_any _ _ hx).mono ?_; rintro e w1 ⟨rfl, hb⟩)
      go_ret2
      rw [HB.out]
      exact ⟨rfl, hb⟩
    | true =>
      have hb : openB s = s.extract 0 m := by unfold openB; rw [hq, hm4]; rfl
      rw [hq] at E
      have E' := E.symm
      have HB := Lib.hid hb
      clear E hb hq hs
      go_enter Try.func23, Try.ntmps23
      go_wp2_with (go_at_call 27; refine (rseal_any _ _ hx).mono ?_; rintro e w1 ⟨rfl, hb⟩)
      go_ret2
      rw [HB.out]
      exact ⟨rfl, hb⟩
end Go.Proofs.Ythkfgjdbgnbjkaa
namespace Go.Proofs.Ythkfgjdbgnbjkaa
open Go.RowKit
set_option linter.unusedSimpArgs false
set_option linter.unusedVariables false

theorem openOk_sealB (s : ByteArray) : openOk (sealB s) = true := by
  have h := sealB_size s
  have hd := sealB_data s
  unfold openOk
  rw [h, hd]
  have hl : s.data.toList.length = s.size := size_data s
  have e : s.size + 4 - 4 = s.data.toList.length := by omega
  rw [e, List.take_left', List.drop_left'] <;> simp
theorem openB_sealB (s : ByteArray) : openB (sealB s) = s := by
  unfold openB
  rw [openOk_sealB, if_pos rfl, sealB_size]
  apply WideShapes.bytes_inj
  rw [Lib.extract_data, sealB_data]
  simp [size_data]

theorem open_ab : openOk (sealB ⟨#[97, 98]⟩) = true := openOk_sealB _
theorem open_abc : openOk ⟨#[97, 98, 99]⟩ = false := by decide +kernel
theorem sum_digits : CrcM.sum (catB [⟨#[49, 50, 51, 52]⟩, ⟨#[53, 54, 55, 56, 57]⟩]) = 3421780262#32 := by decide +kernel
theorem sum_nothing : CrcM.sum (catB []) = 0#32 := by decide +kernel

set_option maxHeartbeats 400000 in
theorem awake04 (w : World) : Calls Try.prog 21 #[] w fun e w' => e = .returned (.bool true) ∧ Below w.heap.size w w' := by
  have o1 : openOk (sealB ⟨#[97, 98]⟩) = true := openOk_sealB _
  have b1 : openB (sealB ⟨#[97, 98]⟩) = ⟨#[97, 98]⟩ := openB_sealB _
  have o2 := open_abc
  have s1 := sum_digits
  have s2 := sum_nothing
  have hz : (sealB ⟨#[97, 98]⟩).size ≤ 1000004 := by rw [sealB_size]; decide
  go_enter Try.func21, Try.ntmps21
  go_wp2_with (go_at_call 26; refine (seal_any _ _ (by decide)).mono ?_; rintro e w1 ⟨rfl, hb1⟩)
  refine (open_any _ _ hz).mono ?_
  rintro e w2 ⟨rfl, hb2⟩
  go_wp2_with fail
  refine (open_any _ _ (by decide)).mono ?_
  rintro e w3 ⟨rfl, hb3⟩
  go_wp2_with fail
  refine (sum_any _ 2 2 [⟨#[49, 50, 51, 52]⟩, ⟨#[53, 54, 55, 56, 57]⟩] _ rfl ?_ (by decide) ?_).mono ?_
  · intro i hi
    match i, hi with
    | 0, _ => exact ⟨_, 0, rfl, by simp⟩
    | 1, _ => exact ⟨_, 0, rfl, by simp⟩
  · intro i hi
    match i, hi with
    | 0, _ => decide
    | 1, _ => decide
  rintro e w4 ⟨rfl, rfl⟩
  go_wp2_with fail
  refine (sum_any _ 0 0 [] _ rfl ?_ (by decide) ?_).mono ?_
  · intro i hi
    simp at hi
  · intro i hi
    simp at hi
  rintro e w5 ⟨rfl, rfl⟩
  go_wp2_with fail
  go_ret
  exact ⟨rfl, below_alloc (below_step (below_step hb1 hb2) hb3) _⟩
end Go.Proofs.Ythkfgjdbgnbjkaa
namespace Go.Proofs.Ythkfgjdbgnbjkaa.CrcM
open Go.Proofs.Ythkfgjdbgnbjkaa
set_option linter.unusedSimpArgs false
set_option linter.unusedVariables false

theorem A_shl (x : BitVec 32) (h : x.toNat < 2147483648) : A (x <<< 1) = x := by
  unfold A
  have h0 : (x <<< 1).getLsbD 0 = false := by simp
  rw [h0]
  simp only [Bool.false_eq_true, if_false, BitVec.xor_zero]
  apply BitVec.eq_of_toNat_eq
  rw [BitVec.toNat_ushiftRight, BitVec.toNat_shiftLeft, Nat.shiftRight_eq_div_pow, Nat.shiftLeft_eq, Nat.mod_eq_of_lt (by omega)]
  omega
theorem An_shl (k : Nat) (x : BitVec 32) (h : x.toNat * 2 ^ k < 4294967296) : An k (x <<< k) = x := by
  induction k with
  | zero => simp [An]
  | succ k ih =>
    have hk : x.toNat * 2 ^ k < 2147483648 := by rw [Nat.pow_succ, ← Nat.mul_assoc] at h; omega
    have hm : (x <<< k).toNat = x.toNat * 2 ^ k := by
      rw [BitVec.toNat_shiftLeft, Nat.shiftLeft_eq, Nat.mod_eq_of_lt (by omega)]
    show An k (A (x <<< (k + 1))) = x
    rw [BitVec.shiftLeft_add, A_shl _ (by rw [hm]; exact hk)]
    exact ih (by omega)

/-- a byte among 32 bits. -/
def b32 (b : UInt8) : BitVec 32 := b.toBitVec.setWidth 32
theorem b32_lt (b : UInt8) : (b32 b).toNat < 256 := by
  unfold b32
  rw [BitVec.toNat_setWidth]
  have := b.toBitVec.isLt
  omega
/-- four bytes, the lowest one first. -/
def word (b0 b1 b2 b3 : UInt8) : BitVec 32 := b32 b0 ^^^ (b32 b1 <<< 8) ^^^ (b32 b2 <<< 16) ^^^ (b32 b3 <<< 24)
theorem fold4 (c : BitVec 32) (b0 b1 b2 b3 : UInt8) : fold c [b0, b1, b2, b3] = An 32 (c ^^^ word b0 b1 b2 b3) := by
  have e1 : b32 b1 = An 8 (b32 b1 <<< 8) := (An_shl 8 _ (by have := b32_lt b1; omega)).symm
  have e2 : b32 b2 = An 16 (b32 b2 <<< 16) := (An_shl 16 _ (by have := b32_lt b2; omega)).symm
  have e3 : b32 b3 = An 24 (b32 b3 <<< 24) := (An_shl 24 _ (by have := b32_lt b3; omega)).symm
  show An 8 (An 8 (An 8 (An 8 (c ^^^ b32 b0) ^^^ b32 b1) ^^^ b32 b2) ^^^ b32 b3) = _
  rw [e1, ← An_xor, ← An_add, e2, ← An_xor, ← An_add, e3, ← An_xor, ← An_add]
  congr 1
  unfold word
  simp only [BitVec.xor_assoc]
theorem word_le4 (c : BitVec 32) (b0 b1 b2 b3 : UInt8) (h : le4 c = [b0, b1, b2, b3]) : word b0 b1 b2 b3 = c := by
  unfold le4 at h
  simp only [List.cons.injEq, and_true] at h
  obtain ⟨rfl, rfl, rfl, rfl⟩ := h
  unfold word b32
  apply BitVec.eq_of_getLsbD_eq
  intro i hi
  simp only [BitVec.getLsbD_xor, BitVec.getLsbD_setWidth, BitVec.getLsbD_shiftLeft, BitVec.getLsbD_ushiftRight]
  by_cases h1 : i < 8
  · simp [h1, hi, show i < 16 by omega, show i < 24 by omega]
  · by_cases h2 : i < 16
    · rw [show 8 + (i - 8) = i by omega]
      simp [h1, h2, hi, show i < 24 by omega, show i - 8 < 8 by omega, show i - 8 < 32 by omega]
    · by_cases h3 : i < 24
      · rw [show 16 + (i - 16) = i by omega]
        simp [h1, h2, h3, hi, show ¬ i - 8 < 8 by omega, show i - 16 < 8 by omega, show i - 16 < 32 by omega]
      · rw [show 24 + (i - 24) = i by omega]
        simp [h1, h2, h3, hi, show ¬ i - 8 < 8 by omega, show ¬ i - 16 < 8 by omega, show i - 24 < 8 by omega, show i - 24 < 32 by omega]
theorem word_0 (v0 v1 v2 v3 : BitVec 8) : (v0.setWidth 32 ^^^ (v1.setWidth 32 <<< 8) ^^^ (v2.setWidth 32 <<< 16) ^^^ (v3.setWidth 32 <<< 24)).setWidth 8 = v0 := by
  apply BitVec.eq_of_getLsbD_eq
  intro i hi
  simp only [BitVec.getLsbD_xor, BitVec.getLsbD_setWidth, BitVec.getLsbD_shiftLeft]
  simp [hi, show i < 16 by omega, show i < 24 by omega, show i < 32 by omega]
theorem word_1 (v0 v1 v2 v3 : BitVec 8) : ((v0.setWidth 32 ^^^ (v1.setWidth 32 <<< 8) ^^^ (v2.setWidth 32 <<< 16) ^^^ (v3.setWidth 32 <<< 24)) >>> 8).setWidth 8 = v1 := by
  apply BitVec.eq_of_getLsbD_eq
  intro i hi
  simp only [BitVec.getLsbD_xor, BitVec.getLsbD_setWidth, BitVec.getLsbD_shiftLeft, BitVec.getLsbD_ushiftRight]
  have e0 : v0.getLsbD (8 + i) = false := BitVec.getLsbD_of_ge _ _ (by omega)
  rw [e0, show 8 + i - 8 = i by omega]
  simp [hi, show 8 + i < 16 by omega, show 8 + i < 24 by omega, show 8 + i < 32 by omega, show i < 32 by omega]
theorem word_2 (v0 v1 v2 v3 : BitVec 8) : ((v0.setWidth 32 ^^^ (v1.setWidth 32 <<< 8) ^^^ (v2.setWidth 32 <<< 16) ^^^ (v3.setWidth 32 <<< 24)) >>> 16).setWidth 8 = v2 := by
  apply BitVec.eq_of_getLsbD_eq
  intro i hi
  simp only [BitVec.getLsbD_xor, BitVec.getLsbD_setWidth, BitVec.getLsbD_shiftLeft, BitVec.getLsbD_ushiftRight]
  have e0 : v0.getLsbD (16 + i) = false := BitVec.getLsbD_of_ge _ _ (by omega)
  have e1 : v1.getLsbD (16 + i - 8) = false := BitVec.getLsbD_of_ge _ _ (by omega)
  rw [e0, e1, show 16 + i - 16 = i by omega]
  simp [hi, show ¬ 16 + i < 16 by omega, show ¬ 16 + i < 8 by omega, show 16 + i < 24 by omega, show 16 + i < 32 by omega, show i < 32 by omega]
theorem word_3 (v0 v1 v2 v3 : BitVec 8) : ((v0.setWidth 32 ^^^ (v1.setWidth 32 <<< 8) ^^^ (v2.setWidth 32 <<< 16) ^^^ (v3.setWidth 32 <<< 24)) >>> 24).setWidth 8 = v3 := by
  apply BitVec.eq_of_getLsbD_eq
  intro i hi
  simp only [BitVec.getLsbD_xor, BitVec.getLsbD_setWidth, BitVec.getLsbD_shiftLeft, BitVec.getLsbD_ushiftRight]
  have e0 : v0.getLsbD (24 + i) = false := BitVec.getLsbD_of_ge _ _ (by omega)
  have e1 : v1.getLsbD (24 + i - 8) = false := BitVec.getLsbD_of_ge _ _ (by omega)
  have e2 : v2.getLsbD (24 + i - 16) = false := BitVec.getLsbD_of_ge _ _ (by omega)
  rw [e0, e1, e2, show 24 + i - 24 = i by omega]
  simp [hi, show ¬ 24 + i < 16 by omega, show ¬ 24 + i < 8 by omega, show ¬ 24 + i < 24 by omega, show 24 + i < 32 by omega, show i < 32 by omega]
theorem le4_word (b0 b1 b2 b3 : UInt8) : le4 (word b0 b1 b2 b3) = [b0, b1, b2, b3] := by
  unfold le4 word b32
  rw [word_0, word_1, word_2, word_3]

/-- the residue of what opens. -/
def K : BitVec 32 := An 32 4294967295#32
theorem of_four (l : List UInt8) (h : l.length = 4) : ∃ b0 b1 b2 b3, l = [b0, b1, b2, b3] := by
  match l, h with
  | [b0, b1, b2, b3], _ => exact ⟨_, _, _, _, rfl⟩
theorem opens_iff (l m : List UInt8) (hm : m.length = 4) : le4 (sum l) = m ↔ fold 4294967295#32 (l ++ m) = K := by
  obtain ⟨b0, b1, b2, b3, rfl⟩ := of_four m hm
  rw [fold_append, fold4]
  unfold sum
  generalize fold 4294967295#32 l = c
  constructor
  · intro h
    rw [word_le4 _ b0 b1 b2 b3 h]
    unfold K
    congr 1
    rw [← BitVec.xor_assoc, BitVec.xor_self, BitVec.zero_xor]
  · intro h
    have h1 := An_inj 32 h
    have h2 : word b0 b1 b2 b3 = c ^^^ 4294967295#32 := by
      rw [← h1, ← BitVec.xor_assoc, BitVec.xor_self, BitVec.zero_xor]
    rw [← h2, le4_word]

theorem openOk_iff (s : ByteArray) : openOk s = true ↔ 4 ≤ s.size ∧ fold 4294967295#32 s.data.toList = K := by
  unfold openOk
  rw [Bool.and_eq_true, decide_eq_true_iff, beq_iff_eq]
  constructor
  · rintro ⟨h4, h⟩
    refine ⟨h4, ?_⟩
    rw [opens_iff _ _ (by rw [List.length_drop, size_data]; omega), List.take_append_drop] at h
    exact h
  · rintro ⟨h4, h⟩
    refine ⟨h4, ?_⟩
    rw [opens_iff _ _ (by rw [List.length_drop, size_data]; omega), List.take_append_drop]
    exact h

theorem xor_cancel (x e : BitVec 32) (h : x ^^^ e = x) : e = 0#32 := by
  have := congrArg (x ^^^ ·) h
  simpa [← BitVec.xor_assoc] using this
theorem b32_xor (b m : UInt8) : b32 (b ^^^ m) = b32 b ^^^ b32 m := by
  unfold b32
  apply BitVec.eq_of_getLsbD_eq
  intro i hi
  simp only [BitVec.getLsbD_xor, BitVec.getLsbD_setWidth, UInt8.toBitVec_xor]
  simp [hi]
/-- a byte that is turned. -/
theorem fold_turn (c : BitVec 32) (p q : List UInt8) (b m : UInt8) : fold c (p ++ (b ^^^ m) :: q) = fold c (p ++ b :: q) ^^^ An (8 * (q.length + 1)) (b32 m) := by
  rw [fold_append, fold_append]
  generalize fold c p = c
  show fold (up c (b ^^^ m)) q = fold (up c b) q ^^^ _
  have h : up c (b ^^^ m) = up c b ^^^ An 8 (b32 m) := by
    unfold up
    rw [← An_xor]
    congr 1
    have := b32_xor b m
    unfold b32 at this
    rw [this, ← BitVec.xor_assoc]
    rfl
  rw [h, fold_xor, ← An_add]
  congr 2
  omega
theorem b32_zero {m : UInt8} (h : b32 m = 0#32) : m = 0 := by
  apply UInt8.toNat_inj.1
  have := congrArg BitVec.toNat h
  unfold b32 at this
  rw [BitVec.toNat_setWidth] at this
  have hl := m.toBitVec.isLt
  rw [Nat.mod_eq_of_lt (by omega)] at this
  simpa using this
end Go.Proofs.Ythkfgjdbgnbjkaa.CrcM
namespace Go.Proofs.Ythkfgjdbgnbjkaa
open Go.RowKit
set_option linter.unusedSimpArgs false
set_option linter.unusedVariables false

theorem catB_two (a b : ByteArray) : catB [a, b] = (a ++ b).data.toList := by simp [catB]
theorem catB_three (a b c : ByteArray) : catB [a, b, c] = (a ++ b ++ c).data.toList := by simp [catB]
theorem empty_data : (⟨#[]⟩ : ByteArray).data.toList = [] := rfl

theorem sizes_two {a b : ByteArray} {m : Nat} (ha : a.size ≤ m) (hb : b.size ≤ m) : ∀ i, i < [a, b].length → ([a, b].getD i ByteArray.empty).size ≤ m := by
  intro i hi
  match i, hi with
  | 0, _ => exact ha
  | 1, _ => exact hb
theorem sizes_three {a b c : ByteArray} {m : Nat} (ha : a.size ≤ m) (hb : b.size ≤ m) (hc : c.size ≤ m) : ∀ i, i < [a, b, c].length → ([a, b, c].getD i ByteArray.empty).size ≤ m := by
  intro i hi
  match i, hi with
  | 0, _ => exact ha
  | 1, _ => exact hb
  | 2, _ => exact hc

/-- a cell of the block that was made last. -/
theorem cell_top {W : World} {cs : Array Value} {t : TypeId} {k j : Nat} {v : Value} (hk : k = W.heap.size) (hj : cs[j]? = some v) : (W.alloc (.cells cs t)).cell? ⟨k, j, none⟩ = some v := by
  subst hk
  rw [World.cell?_alloc_new]
  exact hj

theorem sum_two (k : Nat) (a b : ByteArray) (w : World) (h0 : w.cell? ⟨k, 0, none⟩ = some (.string a)) (h1 : w.cell? ⟨k, 1, none⟩ = some (.string b)) (ha : a.size ≤ maxLen) (hb : b.size ≤ maxLen) :
    Calls Try.prog 24 #[.slice (some ⟨k, 0, none⟩) 2 2] w fun e w' => e = .returned (.int .u32 ((CrcM.sum (a ++ b).data.toList).toNat : Int)) ∧ w = w' := by
  have h := sum_any (some ⟨k, 0, none⟩) 2 2 [a, b] w rfl (fun i hi => match i, hi with
    | 0, _ => ⟨_, 0, rfl, h0⟩
    | 1, _ => ⟨_, 0, rfl, h1⟩) (by simp) (sizes_two ha hb)
  rw [catB_two] at h
  exact h
theorem sum_three (k : Nat) (a b c : ByteArray) (w : World) (h0 : w.cell? ⟨k, 0, none⟩ = some (.string a)) (h1 : w.cell? ⟨k, 1, none⟩ = some (.string b)) (h2 : w.cell? ⟨k, 2, none⟩ = some (.string c))
    (ha : a.size ≤ maxLen) (hb : b.size ≤ maxLen) (hc : c.size ≤ maxLen) :
    Calls Try.prog 24 #[.slice (some ⟨k, 0, none⟩) 3 3] w fun e w' => e = .returned (.int .u32 ((CrcM.sum (a ++ b ++ c).data.toList).toNat : Int)) ∧ w = w' := by
  have h := sum_any (some ⟨k, 0, none⟩) 3 3 [a, b, c] w rfl (fun i hi => match i, hi with
    | 0, _ => ⟨_, 0, rfl, h0⟩
    | 1, _ => ⟨_, 0, rfl, h1⟩
    | 2, _ => ⟨_, 0, rfl, h2⟩) (by simp) (sizes_three ha hb hc)
  rw [catB_three] at h
  exact h

set_option maxHeartbeats 400000 in
theorem sums_walk (a b : ByteArray) (wa : a.size ≤ maxLen) (wb : b.size ≤ maxLen) (w : World) :
    Calls Try.prog 3 #[.string a, .string b] w fun e w' => e = .returned (.bool true) ∧ Below w.heap.size w w' := by
  by_cases ha : a.size ≤ 5000
  · by_cases hb : b.size ≤ 5000
    · have hd1 : decide (5000 < (a.size : Int)) = false := by simp; omega
      have hd2 : decide (5000 < (b.size : Int)) = false := by simp; omega
      have hl : (a ++ b).size ≤ maxLen := by rw [ByteArray.size_append]; unfold maxLen; omega
      go_enter Try.func3, Try.ntmps3
      go_wp2_with fail
      refine (awake04 _).mono ?_
      rintro e w1 ⟨rfl, hb1⟩
      go_wp2_with fail
      refine (open_any _ _ (by omega)).mono ?_
      rintro e w2 ⟨rfl, hb2⟩
      go_wp2_with fail
      refine (ropen_any _ _ (by omega)).mono ?_
      rintro e w3 ⟨rfl, hb3⟩
      go_wp2_with fail
      refine (sum_two _ a b _ (cell_top (by simp) rfl) (cell_top (by simp) rfl) wa wb).mono ?_
      rintro e w4 ⟨rfl, rfl⟩
      go_wp2_with fail
      refine (rsum_any _ _ hl).mono ?_
      rintro e w5 ⟨rfl, rfl⟩
      go_wp2_with fail
      refine (seal_any _ _ (by omega)).mono ?_
      rintro e w6 ⟨rfl, hb6⟩
      go_wp2_with fail
      refine (rseal_any _ _ (by omega)).mono ?_
      rintro e w7 ⟨rfl, hb7⟩
      go_wp2_with fail
      go_ret
      exact ⟨rfl, below_step (below_step (below_alloc (below_step (below_step hb1 hb2) hb3) _) hb6) hb7⟩
    · have hd1 : decide (5000 < (a.size : Int)) = false := by simp; omega
      have hd2 : decide (5000 < (b.size : Int)) = true := by simp; omega
      go_enter Try.func3, Try.ntmps3
      go_wp2_with fail
      refine (awake04 _).mono ?_
      rintro e w1 ⟨rfl, hb1⟩
      go_wp2_with fail
      go_ret
      exact ⟨rfl, hb1⟩
  · have hd1 : decide (5000 < (a.size : Int)) = true := by simp; omega
    go_enter Try.func3, Try.ntmps3
    go_wp2_with fail
    refine (awake04 _).mono ?_
    rintro e w1 ⟨rfl, hb1⟩
    go_wp2_with fail
    go_ret
    exact ⟨rfl, hb1⟩

set_option maxHeartbeats 400000 in
theorem parts_walk (a b c : ByteArray) (wa : a.size ≤ maxLen) (wb : b.size ≤ maxLen) (wc : c.size ≤ maxLen) (w : World) :
    Calls Try.prog 6 #[.string a, .string b, .string c] w fun e w' => e = .returned (.bool true) ∧ Below w.heap.size w w' := by
  by_cases ha : a.size ≤ 3000
  · by_cases hb : b.size ≤ 3000
    · by_cases hc : c.size ≤ 3000
      · have hd1 : decide (3000 < (a.size : Int)) = false := by simp; omega
        have hd2 : decide (3000 < (b.size : Int)) = false := by simp; omega
        have hd3 : decide (3000 < (c.size : Int)) = false := by simp; omega
        have hab : (a ++ b).size ≤ maxLen := by rw [ByteArray.size_append]; unfold maxLen; omega
        have hbc : (b ++ c).size ≤ maxLen := by rw [ByteArray.size_append]; unfold maxLen; omega
        have habc : (a ++ b ++ c).size ≤ maxLen := by rw [ByteArray.size_append, ByteArray.size_append]; unfold maxLen; omega
        go_enter Try.func6, Try.ntmps6
        go_wp2_with fail
        refine (awake04 _).mono ?_
        rintro e w1 ⟨rfl, hb1⟩
        go_wp2_with fail
        refine (sum_one _ (a ++ b ++ c) _ (by simp) habc).mono ?_
        rintro e w2 ⟨rfl, rfl⟩
        go_wp2_with fail
        refine (sum_three _ a b c _ (cell_top (by simp) rfl) (cell_top (by simp) rfl) (cell_top (by simp) rfl) wa wb wc).mono ?_
        rintro e w4 ⟨rfl, rfl⟩
        go_wp2_with fail
        refine (sum_three _ (a ++ b) ⟨#[]⟩ c _ (cell_top (by simp) rfl) (cell_top (by simp) rfl) (cell_top (by simp) rfl) hab (by decide) wc).mono ?_
        rintro e w4 ⟨rfl, rfl⟩
        go_wp2_with fail
        refine (sum_two _ a (b ++ c) _ (cell_top (by simp) rfl) (cell_top (by simp) rfl) wa hbc).mono ?_
        rintro e w4 ⟨rfl, rfl⟩
        go_wp2_with fail
        go_ret
        exact ⟨rfl, below_alloc (below_alloc (below_alloc (below_alloc hb1 _) _) _) _⟩
      · have hd1 : decide (3000 < (a.size : Int)) = false := by simp; omega
        have hd2 : decide (3000 < (b.size : Int)) = false := by simp; omega
        have hd3 : decide (3000 < (c.size : Int)) = true := by simp; omega
        go_enter Try.func6, Try.ntmps6
        go_wp2_with fail
        refine (awake04 _).mono ?_
        rintro e w1 ⟨rfl, hb1⟩
        go_wp2_with fail
        go_ret
        exact ⟨rfl, hb1⟩
    · have hd1 : decide (3000 < (a.size : Int)) = false := by simp; omega
      have hd2 : decide (3000 < (b.size : Int)) = true := by simp; omega
      go_enter Try.func6, Try.ntmps6
      go_wp2_with fail
      refine (awake04 _).mono ?_
      rintro e w1 ⟨rfl, hb1⟩
      go_wp2_with fail
      go_ret
      exact ⟨rfl, hb1⟩
  · have hd1 : decide (3000 < (a.size : Int)) = true := by simp; omega
    go_enter Try.func6, Try.ntmps6
    go_wp2_with fail
    refine (awake04 _).mono ?_
    rintro e w1 ⟨rfl, hb1⟩
    go_wp2_with fail
    go_ret
    exact ⟨rfl, hb1⟩
end Go.Proofs.Ythkfgjdbgnbjkaa
namespace Go.Proofs.Ythkfgjdbgnbjkaa
open Go.RowKit
set_option linter.unusedSimpArgs false
set_option linter.unusedVariables false

/-- a block of bytes of the call's own. -/
def BytesAt (w : World) (k : Nat) (l : List UInt8) : Prop :=
  k < w.heap.size ∧ ∀ i, i < l.length → w.cell? ⟨k, i, none⟩ = some (.int .u8 ((l.getD i 0).toNat : Int)) ∧ w.frozen? ⟨k, i, none⟩ = false

theorem bytesAt_new (w : World) (s : ByteArray) : BytesAt (Lib.bytesWorld w 5 s) w.heap.size s.data.toList := by
  refine ⟨by rw [Lib.bytesWorld_size]; omega, fun i hi => ⟨Lib.bytesWorld_cell w 5 s i (by rw [← size_data]; exact hi), ?_⟩⟩
  rw [size_data] at hi
  have hnew := Lib.bytesWorld_at_new w 5 s
  have hsz : s.size ≤ (Lib.bytesCells w 5 s).size := by simp [Lib.bytesCells]
  simp only [World.frozen?, hnew]
  simp; omega
theorem below_bytes (w : World) (s : ByteArray) : Below w.heap.size w (Lib.bytesWorld w 5 s) :=
  ⟨rfl, rfl, rfl, by rw [Lib.bytesWorld_size]; omega, fun j hj => Lib.bytesWorld_at_old w 5 s j hj⟩
theorem BytesAt.drew {w : World} {k : Nat} {l : List UInt8} (h : BytesAt w k l) : BytesAt w.drew k l := h
theorem BytesAt.set {w : World} {k : Nat} {l : List UInt8} (h : BytesAt w k l) (p : Nat) (u : UInt8) (hp : p < l.length) : BytesAt (w.setCell ⟨k, p, none⟩ (.int .u8 (u.toNat : Int))) k (l.set p u) := by
  refine ⟨by simpa [World.setCell] using h.1, fun i hi => ?_⟩
  rw [List.length_set] at hi
  refine ⟨?_, by rw [World.frozen?_setCell]; exact (h.2 i hi).2⟩
  by_cases e : i = p
  · subst e
    rw [World.cell?_setCell_same (h := (h.2 i hi).1)]
    simp [List.getD, List.getElem?_set, hi]
  · rw [World.cell?_setCell_other]
    · rw [(h.2 i hi).1]
      simp [List.getD, List.getElem?_set, Ne.symm e]
    · simp [Ne.symm e]
/-! the burst, bit by bit: at: where it begins; N: how many bits there are -/
def hit (v : BitVec 32) (at_ N i : Nat) : Bool := v.getLsbD i && decide (at_ + i < N)
def burst (v : BitVec 32) (at_ N : Nat) : Nat → BitVec 32
  | 0 => 0#32
  | i + 1 => if hit v at_ N i then burst v at_ N i ^^^ (1#32 <<< i) else burst v at_ N i
def hits (v : BitVec 32) (at_ N : Nat) : Nat → Bool
  | 0 => false
  | i + 1 => if hit v at_ N i then true else hits v at_ N i
theorem burst_bit (v : BitVec 32) (at_ N i : Nat) (hi : i ≤ 32) (j : Nat) (hj : j < 32) : (burst v at_ N i).getLsbD j = (decide (j < i) && hit v at_ N j) := by
  induction i with
  | zero => simp [burst]
  | succ i ih =>
    have ih := ih (by omega)
    have h1 : (1#32 <<< i).getLsbD j = decide (j = i) := by
      rw [BitVec.getLsbD_shiftLeft]
      by_cases e : j = i
      · subst e; simp [hj]
      · rcases Nat.lt_or_ge j i with h | h
        · simp [h, e]
        · have : j - i ≠ 0 := by omega
          simp [e, this]
    unfold burst
    split
    · rename_i hh
      rw [BitVec.getLsbD_xor, ih, h1]
      by_cases e : j = i
      · subst e; simp [hh]
      · simp [e, show (j < i + 1) = (j < i) from by simp; omega]
    · rename_i hh
      rw [ih]
      by_cases e : j = i
      · subst e; simp [hh]
      · simp [show (j < i + 1) = (j < i) from by simp; omega]
theorem hits_iff (v : BitVec 32) (at_ N i : Nat) : hits v at_ N i = true ↔ ∃ j, j < i ∧ hit v at_ N j = true := by
  induction i with
  | zero => simp [hits]
  | succ i ih =>
    unfold hits
    split
    · rename_i h
      simp only [true_iff]
      exact ⟨i, by omega, h⟩
    · rename_i h
      rw [ih]
      constructor
      · rintro ⟨j, hj, h'⟩; exact ⟨j, by omega, h'⟩
      · rintro ⟨j, hj, h'⟩
        refine ⟨j, ?_, h'⟩
        rcases Nat.lt_or_ge j i with hji | hji
        · exact hji
        · obtain rfl : j = i := by omega
          exact absurd h' h
theorem burst_zero (v : BitVec 32) (at_ N : Nat) : burst v at_ N 32 = 0#32 ↔ hits v at_ N 32 = false := by
  constructor
  · intro h
    rw [Bool.eq_false_iff]
    intro hc
    obtain ⟨j, hj, h'⟩ := (hits_iff v at_ N 32).1 hc
    have h2 := burst_bit v at_ N 32 (by omega) j hj
    rw [h, h'] at h2
    simp [hj] at h2
  · intro h
    apply BitVec.eq_of_getLsbD_eq
    intro j hj
    rw [burst_bit v at_ N 32 (by omega) j hj]
    have : hit v at_ N j = false := by
      rw [Bool.eq_false_iff]
      intro hc
      have := (hits_iff v at_ N 32).2 ⟨j, hj, hc⟩
      rw [h] at this
      cases this
    simp [this]

open CrcM in
/-- one bit that is turned. -/
theorem fold_bit (l : List UInt8) (c : BitVec 32) (at_ i : Nat) (hi : i < 32) (h : at_ + i < 8 * l.length) :
    fold c (l.set ((at_ + i) / 8) (l.getD ((at_ + i) / 8) 0 ^^^ UInt8.ofNat (2 ^ ((at_ + i) % 8)))) = fold c l ^^^ An (8 * l.length - at_) (1#32 <<< i) := by
  generalize hk : at_ + i = k at *
  have hp : k / 8 < l.length := by omega
  have hget : l.getD (k / 8) 0 = l[k / 8] := by simp [List.getD, List.getElem?_eq_getElem hp]
  have e1 : l = l.take (k / 8) ++ l[k / 8] :: l.drop (k / 8 + 1) := by rw [← List.drop_eq_getElem_cons hp, List.take_append_drop]
  have e2 : ∀ u, l.set (k / 8) u = l.take (k / 8) ++ u :: l.drop (k / 8 + 1) := fun u => by rw [List.set_eq_take_append_cons_drop, if_pos hp]
  rw [e2, hget, fold_turn, ← e1]
  congr 1
  have hj : k % 8 < 8 := Nat.mod_lt _ (by omega)
  have hb : b32 (UInt8.ofNat (2 ^ (k % 8))) = 1#32 <<< (k % 8) := by
    generalize k % 8 = j at hj
    match j, hj with
    | 0, _ => decide
    | 1, _ => decide
    | 2, _ => decide
    | 3, _ => decide
    | 4, _ => decide
    | 5, _ => decide
    | 6, _ => decide
    | 7, _ => decide
  have hs : ∀ j, j < 32 → An j (1#32 <<< j) = 1#32 := fun j hj => An_shl j 1#32 (by
    have : 2 ^ j < 2 ^ 32 := Nat.pow_lt_pow_right (by omega) hj
    simpa using this)
  rw [hb]
  have a1 : 8 * ((l.drop (k / 8 + 1)).length + 1) = k % 8 + (8 * l.length - k) := by rw [List.length_drop]; omega
  have a2 : 8 * l.length - at_ = i + (8 * l.length - k) := by omega
  rw [a1, a2, An_add, An_add, hs _ (by omega), hs _ hi]
end Go.Proofs.Ythkfgjdbgnbjkaa
namespace Go.Proofs.Ythkfgjdbgnbjkaa
open Go.RowKit
set_option linter.unusedSimpArgs false
set_option linter.unusedVariables false

/-- bytes with one of them turned. -/
def turnB (t : ByteArray) (n : Nat) (m : UInt8) : ByteArray := t.extract 0 n ++ ⟨#[t.data.toList.getD n 0 ^^^ m]⟩ ++ t.extract (n + 1) t.size
theorem turnB_data (t : ByteArray) (n : Nat) (m : UInt8) : (turnB t n m).data.toList = t.data.toList.take n ++ (t.data.toList.getD n 0 ^^^ m) :: t.data.toList.drop (n + 1) := by
  unfold turnB
  simp only [ByteArray.data_append, Array.toList_append]
  rw [Lib.extract_data, Lib.extract_to_end]
  simp
theorem turnB_size (t : ByteArray) (n : Nat) (m : UInt8) (h : n < t.size) : (turnB t n m).size = t.size := by
  rw [← size_data, turnB_data, List.length_append, List.length_cons, List.length_take, List.length_drop, size_data]
  omega
theorem turn_not_open (s : ByteArray) (n : Nat) (m : UInt8) (h : n < (sealB s).size) (hm : m ≠ 0) : openOk (turnB (sealB s) n m) = false := by
  rw [Bool.eq_false_iff]
  intro hc
  obtain ⟨_, h1⟩ := (CrcM.openOk_iff _).1 hc
  obtain ⟨_, h2⟩ := (CrcM.openOk_iff _).1 (openOk_sealB s)
  rw [turnB_data, CrcM.fold_turn] at h1
  have e : (sealB s).data.toList.take n ++ (sealB s).data.toList.getD n 0 :: (sealB s).data.toList.drop (n + 1) = (sealB s).data.toList := by
    have hn : n < (sealB s).data.toList.length := by rw [size_data]; exact h
    have : (sealB s).data.toList.getD n 0 = (sealB s).data.toList[n] := by simp [List.getD, List.getElem?_eq_getElem hn]
    rw [this, ← List.drop_eq_getElem_cons hn, List.take_append_drop]
  rw [e, h2] at h1
  exact hm (CrcM.b32_zero (CrcM.An_ker _ (CrcM.xor_cancel _ _ h1)))

theorem convert_one (W : World) (k : Nat) (x : Int) (hc : W.cell? ⟨k, 0, none⟩ = some (.int .u8 x)) :
    (convert 30 9 (.slice (some ⟨k, 0, none⟩) 1 1)).run Try.prog W = .ok (.string (strOfNums [x])) W := by
  refine run_convert_bytes_arg _ 30 5 Try.underlying30 Try.underlying5 k 0 1 1 [x] rfl ?_ 9 Try.underlying9
  intro i hi
  obtain rfl : i = 0 := by omega
  simpa using hc

theorem turn_str (t : ByteArray) (n : Nat) (m : UInt8) (h : n < t.size) : strOfNums [bits .xor .u8 ((t[n]'h).toNat : Int) (m.toNat : Int)] = ⟨#[t.data.toList.getD n 0 ^^^ m]⟩ := by
  have h1 := (t[n]'h).toNat_lt
  have h2 := m.toNat_lt
  rw [u8_xor_nat _ _ h1 h2]
  unfold strOfNums
  have e : t.data.toList.getD n 0 = t[n]'h := by
    have hn : n < t.data.toList.length := by rw [size_data]; exact h
    simp only [List.getD, List.getElem?_eq_getElem hn, Option.getD_some]
    rfl
  rw [e]
  simp only [List.map_cons, List.map_nil, Int.toNat_natCast]
  congr 2
  rw [← UInt8.toNat_xor]
  simp

set_option maxHeartbeats 400000 in
theorem back_turn (s : ByteArray) (n : Nat) (m : UInt8) (w : World) (hs : s.size ≤ 5000) (hn : n < s.size + 4) (hm : m ≠ 0) :
    Calls Try.prog 4 #[.string s, .int .i64 (n : Int), .int .u8 (m.toNat : Int)] w fun e w' => e = .returned (.bool true) ∧ Below w.heap.size w w' := by
  have hd1 : decide (5000 < (s.size : Int)) = false := by simp; omega
  have ht := sealB_size s
  have o1 := openOk_sealB s
  have b1 := openB_sealB s
  have hz : (sealB s).size ≤ 1000004 := by rw [ht]; omega
  have hn' : n < (sealB s).size := by rw [ht]; exact hn
  have o2 := turn_not_open s n m hn' hm
  have b2 : openB (turnB (sealB s) n m) = ⟨#[]⟩ := by unfold openB; rw [o2]; rfl
  have hv := turnB_size (sealB s) n m hn'
  have hts := turn_str (sealB s) n m hn'
  have hm0 : ((m.toNat : Int) == 0) = false := by
    rw [beq_eq_false_iff_ne]
    intro h
    exact hm (UInt8.toNat_inj.1 (by simpa using h))
  generalize hT : sealB s = t at *
  have HT := Lib.hid hT
  clear hT
  have hV : turnB t n m = t.extract 0 n ++ ⟨#[t.data.toList.getD n 0 ^^^ m]⟩ ++ t.extract (n + 1) t.size := rfl
  generalize t.data.toList.getD n 0 ^^^ m = u at hV hts
  rw [ht] at hV
  replace hV := hV.symm
  generalize turnB t n m = v at *
  have hd0 : decide ((n : Int) < 0) = false := by simp
  go_enter Try.func4, Try.ntmps4
  go_wp2_with fail
  refine (awake04 _).mono ?_
  rintro e w1 ⟨rfl, hb1⟩
  go_wp2_with fail
  refine (seal_any _ _ (by omega)).mono ?_
  rw [HT.out]
  rintro e w2 ⟨rfl, hb2⟩
  go_wp2_with fail
  refine (open_any _ _ hz).mono ?_
  rintro e w3 ⟨rfl, hb3⟩
  have hi0 : (0 : Int) ≤ (n : Int) := by omega
  have hi1 : (n : Int) < (s.size : Int) + 4 := by omega
  have hi2 : decide ((s.size : Int) + 4 ≤ (n : Int)) = false := by simp; omega
  have hc := fun x => convert_one (w3.alloc (.cells #[.int .u8 x] 5)).drew w3.heap.size x (by simp)
  have h5 : (n : Int) ≤ (s.size : Int) + 4 := by omega
  have h6 : (n : Int) + 1 ≤ (s.size : Int) + 4 := by omega
  have h7 : n ≤ s.size + 4 := by omega
  have h8 : n + 1 ≤ s.size + 4 := by omega
  have hb4 := below_step (below_step hb1 hb2) hb3
  go_wp2_with fail
  have h9 : (0 : Int) ≤ (n : Int) + 1 := by omega
  have h10 : ((n : Int) + 1).toNat = n + 1 := by omega
  have h11 : ¬ 9223372036854775807 < n + 1 := by omega
  have h12 : ¬ 9223372036854775807 < n + 1 + (s.size + 4 - (n + 1)) := by omega
  have h13 : IntKind.i64.wrap ((n : Int) + 1) = (n : Int) + 1 := IntWalk.i64_in _ (by omega)
  have h14 : ¬ 9223372036854775807 < n + 1 + (s.size + 3 - n) := by omega
  go_region
  all_goals go_wp2_with fail
  all_goals refine (open_any _ _ (by omega)).mono ?_
  all_goals rintro e w4 ⟨rfl, hb5⟩
  all_goals go_wp2_with fail
  all_goals go_ret
  all_goals exact ⟨rfl, below_step (below_drew (below_alloc hb4 _)) hb5⟩
set_option maxHeartbeats 400000 in
theorem back_long (s : ByteArray) (a b : Int) (w : World) (hs : 5000 < s.size) :
    Calls Try.prog 4 #[.string s, .int .i64 a, .int .u8 b] w fun e w' => e = .returned (.bool true) ∧ Below w.heap.size w w' := by
  have hd1 : decide (5000 < (s.size : Int)) = true := by simp; omega
  go_enter Try.func4, Try.ntmps4
  go_wp2_with fail
  refine (awake04 _).mono ?_
  rintro e w1 ⟨rfl, hb1⟩
  go_wp2_with fail
  go_ret
  exact ⟨rfl, hb1⟩

set_option maxHeartbeats 400000 in
theorem back_out (s : ByteArray) (a b : Int) (w : World) (hs : s.size ≤ 5000) (h : a < 0 ∨ 0 ≤ a ∧ (s.size : Int) + 4 ≤ a ∨ 0 ≤ a ∧ a < (s.size : Int) + 4 ∧ b = 0) :
    Calls Try.prog 4 #[.string s, .int .i64 a, .int .u8 b] w fun e w' => e = .returned (.bool true) ∧ Below w.heap.size w w' := by
  have hd1 : decide (5000 < (s.size : Int)) = false := by simp; omega
  have ht := sealB_size s
  have o1 := openOk_sealB s
  have b1 := openB_sealB s
  have hz : (sealB s).size ≤ 1000004 := by rw [ht]; omega
  rcases h with h | ⟨h, h'⟩ | ⟨h, h', rfl⟩
  · have hd2 : decide (a < 0) = true := by simp; omega
    go_enter Try.func4, Try.ntmps4
    go_wp2_with fail
    refine (awake04 _).mono ?_
    rintro e w1 ⟨rfl, hb1⟩
    go_wp2_with fail
    refine (seal_any _ _ (by omega)).mono ?_
    rintro e w2 ⟨rfl, hb2⟩
    go_wp2_with fail
    refine (open_any _ _ hz).mono ?_
    rintro e w3 ⟨rfl, hb3⟩
    go_wp2_with fail
    go_ret
    exact ⟨rfl, below_step (below_step hb1 hb2) hb3⟩
  · have hd2 : decide (a < 0) = false := by simp; omega
    have hd3 : decide ((s.size : Int) + 4 ≤ a) = true := by simp; omega
    go_enter Try.func4, Try.ntmps4
    go_wp2_with fail
    refine (awake04 _).mono ?_
    rintro e w1 ⟨rfl, hb1⟩
    go_wp2_with fail
    refine (seal_any _ _ (by omega)).mono ?_
    rintro e w2 ⟨rfl, hb2⟩
    go_wp2_with fail
    refine (open_any _ _ hz).mono ?_
    rintro e w3 ⟨rfl, hb3⟩
    go_wp2_with fail
    go_ret
    exact ⟨rfl, below_step (below_step hb1 hb2) hb3⟩
  · have hd2 : decide (a < 0) = false := by simp; omega
    have hd3 : decide ((s.size : Int) + 4 ≤ a) = false := by simp; omega
    go_enter Try.func4, Try.ntmps4
    go_wp2_with fail
    refine (awake04 _).mono ?_
    rintro e w1 ⟨rfl, hb1⟩
    go_wp2_with fail
    refine (seal_any _ _ (by omega)).mono ?_
    rintro e w2 ⟨rfl, hb2⟩
    go_wp2_with fail
    refine (open_any _ _ hz).mono ?_
    rintro e w3 ⟨rfl, hb3⟩
    go_wp2_with fail
    go_ret
    exact ⟨rfl, below_step (below_step hb1 hb2) hb3⟩

/-- a byte's number is a byte. -/
theorem byte_of (b : Int) (h : 0 ≤ b ∧ b ≤ 255) : ∃ m : UInt8, b = (m.toNat : Int) :=
  ⟨UInt8.ofNat b.toNat, by rw [UInt8.toNat_ofNat']; omega⟩
theorem back_walk (s : ByteArray) (a b : Int) (ws : s.size ≤ maxLen) (wa : (Lit.int .i64 a).wf = true) (wb : (Lit.int .u8 b).wf = true) (w : World) :
    Calls Try.prog 4 #[.string s, .int .i64 a, .int .u8 b] w fun e w' => e = .returned (.bool true) ∧ Below w.heap.size w w' := by
  by_cases hs : s.size ≤ 5000
  · by_cases h : a < 0 ∨ 0 ≤ a ∧ (s.size : Int) + 4 ≤ a ∨ 0 ≤ a ∧ a < (s.size : Int) + 4 ∧ b = 0
    · exact back_out s a b w hs h
    · obtain ⟨n, rfl⟩ := Int.eq_ofNat_of_zero_le (show 0 ≤ a by omega)
      have hb := bounds_u8 wb
      obtain ⟨m, rfl⟩ := byte_of b (by omega)
      refine back_turn s n m w hs (by omega) ?_
      rintro rfl
      exact h (Or.inr (Or.inr ⟨by omega, by omega, rfl⟩))
  · exact back_long s a b w (by omega)
end Go.Proofs.Ythkfgjdbgnbjkaa
namespace Go.Proofs.Ythkfgjdbgnbjkaa
open Go.RowKit
set_option linter.unusedSimpArgs false
set_option linter.unusedVariables false

theorem bit_test (v : BitVec 32) (k : Nat) : bits .and .u32 ((v.toNat : Int) / 2 ^ k) 1 = 1 ↔ v.getLsbD k = true := by
  have hx := v.isLt
  have hp : 0 < 2 ^ k := Nat.two_pow_pos k
  have hle : v.toNat / 2 ^ k ≤ v.toNat := Nat.div_le_self _ _
  have e : ((v.toNat : Int) / 2 ^ k) = ((v.toNat / 2 ^ k : Nat) : Int) := by rw [Int.natCast_ediv]; norm_cast
  have h := u32_and_nat (v.toNat / 2 ^ k) 1 (by omega) (by omega)
  rw [nat_mask1] at h
  rw [e]
  have h' : bits .and .u32 ((v.toNat / 2 ^ k : Nat) : Int) 1 = ((v.toNat / 2 ^ k % 2 : Nat) : Int) := h
  rw [h', BitVec.getLsbD, Nat.testBit_eq_decide_div_mod_eq]
  simp
  omega

theorem xor_bit (x : UInt8) (r : Nat) (hr : r < 8) : bits .xor .u8 (x.toNat : Int) ((2 : Int) ^ r % 256) = ((x ^^^ UInt8.ofNat (2 ^ r)).toNat : Int) := by
  have hx := x.toNat_lt
  have h2 : 2 ^ r < 256 := by
    have : 2 ^ r < 2 ^ 8 := Nat.pow_lt_pow_right (by omega) hr
    simpa using this
  have e : ((2 : Int) ^ r) % 256 = ((2 ^ r : Nat) : Int) := by
    match r, hr with
    | 0, _ | 1, _ | 2, _ | 3, _ | 4, _ | 5, _ | 6, _ | 7, _ => decide
  rw [e, u8_xor_nat _ _ hx h2, UInt8.toNat_xor, UInt8.toNat_ofNat', Nat.mod_eq_of_lt h2]
theorem strOf_bytes (l : List UInt8) : strOfNums (l.map fun b => (b.toNat : Int)) = ⟨l.toArray⟩ := by
  unfold strOfNums
  congr 2
  rw [List.map_map]
  have : ∀ b ∈ l, ((fun n : Int => UInt8.ofNat n.toNat) ∘ fun b : UInt8 => (b.toNat : Int)) b = b := fun b _ => by simp
  rw [List.map_congr_left this]
  simp
theorem convert_at (W : World) (k : Nat) (l : List UInt8) (C : Nat) (h : BytesAt W k l) :
    (convert 30 9 (.slice (some ⟨k, 0, none⟩) l.length C)).run Try.prog W = .ok (.string ⟨l.toArray⟩) W := by
  have := run_convert_bytes_arg (P := Try.prog) W 30 5 Try.underlying30 Try.underlying5 k 0 l.length C (l.map fun b => (b.toNat : Int)) (by simp) (fun i hi => by
    rw [Nat.zero_add, (h.2 i hi).1]
    simp [List.getD, List.getElem?_eq_getElem hi]) 9 Try.underlying9
  rw [strOf_bytes] at this
  exact this
theorem burst_opens (s : ByteArray) (n : Nat) (v : BitVec 32) (l : List UInt8) (hl : l.length = s.size + 4)
    (hf : CrcM.fold 4294967295#32 l = CrcM.fold 4294967295#32 (sealB s).data.toList ^^^ CrcM.An (8 * (s.size + 4) - n) (burst v n (8 * (s.size + 4)) 32)) :
    openOk ⟨l.toArray⟩ = !hits v n (8 * (s.size + 4)) 32 := by
  obtain ⟨_, h2⟩ := (CrcM.openOk_iff _).1 (openOk_sealB s)
  rw [h2] at hf
  have h4 : 4 ≤ (⟨l.toArray⟩ : ByteArray).size := by rw [← size_data]; show 4 ≤ l.length; omega
  cases hh : hits v n (8 * (s.size + 4)) 32 with
  | false =>
    rw [(burst_zero v n _).2 hh, CrcM.An_zero, BitVec.xor_zero] at hf
    exact (CrcM.openOk_iff _).2 ⟨h4, hf⟩
  | true =>
    show openOk _ = false
    rw [Bool.eq_false_iff]
    intro hc
    obtain ⟨_, h5⟩ := (CrcM.openOk_iff _).1 hc
    have h6 : CrcM.fold 4294967295#32 l = CrcM.K := h5
    rw [hf] at h6
    have h7 := (burst_zero v n _).1 (CrcM.An_ker _ (CrcM.xor_cancel _ _ h6))
    rw [hh] at h7
    cases h7

set_option maxHeartbeats 400000 in
theorem bursts_in (s : ByteArray) (n : Nat) (v : BitVec 32) (w : World) (hs : s.size ≤ 5000) (hv : v ≠ 0#32) (hn : n ≤ 8 * (s.size + 4)) :
    Calls Try.prog 5 #[.string s, .int .i64 (n : Int), .int .u32 (v.toNat : Int)] w fun e w' => e = .returned (.bool true) ∧ Below w.heap.size w w' := by
  have hd1 : decide (5000 < (s.size : Int)) = false := by simp; omega
  have hv0 : ((v.toNat : Int) == 0) = false := by
    rw [beq_eq_false_iff_ne]
    intro h
    exact hv (BitVec.eq_of_toNat_eq (by simpa using h))
  have hd2 : decide ((n : Int) < 0) = false := by simp
  have hd3 : decide (8 * ((s.size : Int) + 4) < (n : Int)) = false := by simp; omega
  have ht := sealB_size s
  have hcv := fun W => Lib.run_convert_string_bytes (P := Try.prog) W 9 30 5 (sealB s) Try.underlying9 Try.underlying30 Try.underlying5
  generalize hT : sealB s = t at *
  have HT := Lib.hid hT
  clear hT
  go_enter Try.func5, Try.ntmps5
  go_wp2_with fail
  refine (awake04 _).mono ?_
  rintro e w1 ⟨rfl, hb1⟩
  go_wp2_with fail
  refine (seal_any _ _ (by omega)).mono ?_
  rw [HT.out]
  rintro e w2 ⟨rfl, hb2⟩
  go_wp2_with fail
  have hB := bytesAt_new w2 t
  have hbl := below_step (below_step hb1 hb2) (below_bytes w2 t)
  have hK : w.heap.size ≤ w2.heap.size := Nat.le_trans hb1.size hb2.size
  generalize Lib.bytesWorld w2 5 t = W0 at *
  generalize grownCap w2 (s.size + 4) 0 5 = C at *
  generalize w2.heap.size = K at *
  clear hb1 hb2 hcv
  clear w2 w1
  have hlen : t.data.toList.length = s.size + 4 := by rw [size_data, ht]
  generalize hl0 : t.data.toList = l0 at *
  have HL0 := Lib.hid hl0
  clear hl0
  have HB := Lib.hid hB
  have HL := Lib.hid hlen
  clear hB hlen hv0 hd1 hd2 hd3
  go_loopw [8, 9] (fun y i wr => ∃ (k : Nat) (l : List UInt8), k ≤ 32 ∧ i = .int .i64 k ∧ y = .bool (hits v n (8 * (s.size + 4)) k) ∧ Hid (l.length = s.size + 4 ∧ BytesAt wr K l ∧ CrcM.fold 4294967295#32 l = CrcM.fold 4294967295#32 l0 ^^^ CrcM.An (8 * (s.size + 4) - n) (burst v n (8 * (s.size + 4)) k)) ∧ Below w.heap.size w wr) (fun _ i _ => 32 - (intOf i).toNat)
  case atStart => exact ⟨0, l0, by omega, rfl, rfl, ⟨HL.out, HB.out, by simp [burst, CrcM.An_zero]⟩, hbl⟩
  case round =>
    obtain ⟨k, l, hk, rfl, rfl, HR, hbw⟩ := hrel
    by_cases hlt : k < 32
    · have hbt := bit_test v k
      by_cases hb : v.getLsbD k = true
      · have hbb := hbt.2 hb
        clear hbt
        by_cases hq : n + k < 8 * (s.size + 4)
        · have hh : hit v n (8 * (s.size + 4)) k = true := by unfold hit; rw [hb]; simpa using hq
          obtain ⟨q, hqq⟩ : ∃ q, q = (n + k) / 8 := ⟨_, rfl⟩
          obtain ⟨r, hrr⟩ : ∃ r, r = (n + k) % 8 := ⟨_, rfl⟩
          have e1 : ((n : Int) + (k : Int)) / 8 = (q : Int) := by omega
          have e2 : ((n : Int) + (k : Int)) % 8 = (r : Int) := by omega
          have hr8 : r < 8 := by omega
          have hqL : q < s.size + 4 := by omega
          have hqL' : (q : Int) < (s.size : Int) + 4 := by omega
          obtain ⟨hl, hBt, hf⟩ := HR.out
          obtain ⟨hc, hz⟩ := hBt.2 q (by rw [hl]; exact hqL)
          generalize hx : l.getD q 0 = x at hc
          have HH := Lib.hid hh
          have HX := Lib.hid hx
          have HQ := Lib.hid hqq
          have HRR := Lib.hid hrr
          have HF := Lib.hid hf
          have HBT := Lib.hid hBt
          have HLL := Lib.hid hl
          clear hh hx hqq hrr hf hBt hl hb HR
          go_wp2_with fail
          have e3 : IntKind.i64.wrap (((n : Int) + (k : Int)).tdiv 8) = (q : Int) := by
            rw [Int.tdiv_eq_ediv_of_nonneg (by omega), e1]
            exact IntWalk.i64_in _ (by omega)
          have e4 : ((n : Int) + (k : Int)).tmod 8 = (r : Int) := by rw [Int.tmod_eq_emod_of_nonneg (by omega), e2]
          have e5 := xor_bit x r hr8
          generalize hu : x ^^^ UInt8.ofNat (2 ^ r) = u at e5
          have HU := Lib.hid hu
          clear hu
          go_region
          have HE5 := Lib.hid e5
          clear e5
          go_wp2_with fail
          go_roundw
          case rel =>
            have h1 : hits v n (8 * (s.size + 4)) (k + 1) = true := by rw [hits, HH.out]; rfl
            have h2 : burst v n (8 * (s.size + 4)) (k + 1) = burst v n (8 * (s.size + 4)) k ^^^ (1#32 <<< k) := by rw [burst, HH.out]; rfl
            have h3 := fold_bit l 4294967295#32 n k hlt (by rw [HLL.out]; exact hq)
            rw [← HQ.out, ← HRR.out, HX.out, HU.out, HLL.out, HF.out, BitVec.xor_assoc, ← CrcM.An_xor, ← h2] at h3
            have h4 := HBT.out.set q u (by rw [HLL.out]; exact hqL)
            exact ⟨k + 1, l.set q u, by omega, by go_num, by rw [h1], ⟨by rw [List.length_set]; exact HLL.out, h4.drew, h3⟩, below_drew (hbw.setCell hK _)⟩
          case measure => simp [intOf]; omega
        · have hh : hit v n (8 * (s.size + 4)) k = false := by unfold hit; rw [hb]; simpa using hq
          have h1 : hits v n (8 * (s.size + 4)) (k + 1) = hits v n (8 * (s.size + 4)) k := by rw [hits, hh]; rfl
          have h2 : burst v n (8 * (s.size + 4)) (k + 1) = burst v n (8 * (s.size + 4)) k := by rw [burst, hh]; rfl
          have H1 := Lib.hid h1
          have H2 := Lib.hid h2
          clear h1 h2 hh hb
          go_wp2_with fail
          go_roundw
          case rel => exact ⟨k + 1, l, by omega, by go_num, by rw [H1.out], ⟨HR.out.1, HR.out.2.1, by rw [H2.out]; exact HR.out.2.2⟩, hbw⟩
          case measure => simp [intOf]; omega
      · have hbb : ¬ bits .and .u32 ((v.toNat : Int) / 2 ^ k) 1 = 1 := fun h => hb (hbt.1 h)
        clear hbt
        have hh : hit v n (8 * (s.size + 4)) k = false := by unfold hit; simp [hb]
        have h1 : hits v n (8 * (s.size + 4)) (k + 1) = hits v n (8 * (s.size + 4)) k := by rw [hits, hh]; rfl
        have h2 : burst v n (8 * (s.size + 4)) (k + 1) = burst v n (8 * (s.size + 4)) k := by rw [burst, hh]; rfl
        have H1 := Lib.hid h1
        have H2 := Lib.hid h2
        clear h1 h2 hh hb
        go_wp2_with fail
        go_roundw
        case rel => exact ⟨k + 1, l, by omega, by go_num, by rw [H1.out], ⟨HR.out.1, HR.out.2.1, by rw [H2.out]; exact HR.out.2.2⟩, hbw⟩
        case measure => simp [intOf]; omega
    · obtain rfl : k = 32 := by omega
      obtain ⟨hl, hBt, hf⟩ := HR.out
      have hcv := convert_at wr K l C hBt
      have hsz : (⟨l.toArray⟩ : ByteArray).size = s.size + 4 := by rw [← size_data]; exact hl
      have hok := burst_opens s n v l hl (by rw [hf, ← HL0.out, ← HT.out])
      rw [hl] at hcv
      generalize hits v n (8 * (s.size + 4)) 32 = y at hok
      have HOK := Lib.hid hok
      clear hok HR hBt hf hl
      go_wp2_with fail
      refine (open_any _ _ (by omega)).mono ?_
      rintro e w5 ⟨rfl, hb5⟩
      rw [HOK.out]
      cases y
      all_goals go_wp2_with fail
      all_goals go_ret
      all_goals exact ⟨rfl, below_step hbw hb5⟩
set_option maxHeartbeats 400000 in
theorem bursts_out (s : ByteArray) (a b : Int) (w : World) (h : 5000 < s.size ∨ s.size ≤ 5000 ∧ b = 0 ∨ s.size ≤ 5000 ∧ b ≠ 0 ∧ a < 0 ∨ s.size ≤ 5000 ∧ b ≠ 0 ∧ 0 ≤ a ∧ 8 * ((s.size : Int) + 4) < a) :
    Calls Try.prog 5 #[.string s, .int .i64 a, .int .u32 b] w fun e w' => e = .returned (.bool true) ∧ Below w.heap.size w w' := by
  have ht := sealB_size s
  rcases h with h | ⟨h, rfl⟩ | ⟨h, hb, ha⟩ | ⟨h, hb, ha, ha'⟩
  · have hd1 : decide (5000 < (s.size : Int)) = true := by simp; omega
    go_enter Try.func5, Try.ntmps5
    go_wp2_with fail
    refine (awake04 _).mono ?_
    rintro e w1 ⟨rfl, hb1⟩
    go_wp2_with fail
    go_ret
    exact ⟨rfl, hb1⟩
  · have hd1 : decide (5000 < (s.size : Int)) = false := by simp; omega
    go_enter Try.func5, Try.ntmps5
    go_wp2_with fail
    refine (awake04 _).mono ?_
    rintro e w1 ⟨rfl, hb1⟩
    go_wp2_with fail
    go_ret
    exact ⟨rfl, hb1⟩
  · have hd1 : decide (5000 < (s.size : Int)) = false := by simp; omega
    have hv0 : (b == 0) = false := by rw [beq_eq_false_iff_ne]; exact hb
    have hd2 : decide (a < 0) = true := by simp; omega
    have hcv := fun W => Lib.run_convert_string_bytes (P := Try.prog) W 9 30 5 (sealB s) Try.underlying9 Try.underlying30 Try.underlying5
    clear hb
    go_enter Try.func5, Try.ntmps5
    go_wp2_with fail
    refine (awake04 _).mono ?_
    rintro e w1 ⟨rfl, hb1⟩
    go_wp2_with fail
    refine (seal_any _ _ (by omega)).mono ?_
    rintro e w2 ⟨rfl, hb2⟩
    go_wp2_with fail
    go_ret
    exact ⟨rfl, below_step (below_step hb1 hb2) (below_bytes w2 (sealB s))⟩
  · have hd1 : decide (5000 < (s.size : Int)) = false := by simp; omega
    have hv0 : (b == 0) = false := by rw [beq_eq_false_iff_ne]; exact hb
    have hd2 : decide (a < 0) = false := by simp; omega
    have hd3 : decide (8 * ((s.size : Int) + 4) < a) = true := by simp; omega
    have hcv := fun W => Lib.run_convert_string_bytes (P := Try.prog) W 9 30 5 (sealB s) Try.underlying9 Try.underlying30 Try.underlying5
    clear hb
    go_enter Try.func5, Try.ntmps5
    go_wp2_with fail
    refine (awake04 _).mono ?_
    rintro e w1 ⟨rfl, hb1⟩
    go_wp2_with fail
    refine (seal_any _ _ (by omega)).mono ?_
    rintro e w2 ⟨rfl, hb2⟩
    go_wp2_with fail
    go_ret
    exact ⟨rfl, below_step (below_step hb1 hb2) (below_bytes w2 (sealB s))⟩

theorem bursts_walk (s : ByteArray) (a b : Int) (ws : s.size ≤ maxLen) (wa : (Lit.int .i64 a).wf = true) (wb : (Lit.int .u32 b).wf = true) (w : World) :
    Calls Try.prog 5 #[.string s, .int .i64 a, .int .u32 b] w fun e w' => e = .returned (.bool true) ∧ Below w.heap.size w w' := by
  by_cases h : 5000 < s.size ∨ s.size ≤ 5000 ∧ b = 0 ∨ s.size ≤ 5000 ∧ b ≠ 0 ∧ a < 0 ∨ s.size ≤ 5000 ∧ b ≠ 0 ∧ 0 ≤ a ∧ 8 * ((s.size : Int) + 4) < a
  · exact bursts_out s a b w h
  · have hb := bounds_u32 wb
    obtain ⟨n, rfl⟩ := Int.eq_ofNat_of_zero_le (show 0 ≤ a by omega)
    obtain ⟨m, rfl⟩ := Int.eq_ofNat_of_zero_le (show 0 ≤ b by omega)
    have e : ((BitVec.ofNat 32 m).toNat : Int) = (m : Int) := by rw [BitVec.toNat_ofNat, Nat.mod_eq_of_lt (by omega)]
    rw [← e]
    refine bursts_in s n (BitVec.ofNat 32 m) w (by omega) ?_ (by omega)
    intro h0
    rw [h0] at e
    have : (m : Int) = 0 := e.symm
    omega
end Go.Proofs.Ythkfgjdbgnbjkaa
namespace Go.Proofs.Ythkfgjdbgnbjkaa
open Go.RowKit
set_option linter.unusedSimpArgs false
set_option linter.unusedVariables false

set_option maxHeartbeats 400000 in
theorem size_any (n : Int) (w : World) (h0 : 0 ≤ n) (h8 : n ≤ 8) :
    Calls Try.prog 80 #[.int .i64 n] w fun e w' => e = .returned (.int .i64 n) ∧ w = w' := by
  go_enter Try.func80, Try.ntmps80
  go_wp2
  · go_ret
    exact ⟨rfl, rfl⟩
  · obtain rfl : n = 0 := by omega
    go_ret
    exact ⟨rfl, rfl⟩

set_option maxHeartbeats 400000 in
theorem rsize_any (n : Int) (w : World) (h0 : 0 ≤ n) (h8 : n ≤ 8) :
    Calls Try.prog 81 #[.int .i64 n] w fun e w' => e = .returned (.int .i64 n) ∧ w = w' := by
  have hd1 : decide (n < 0) = false := by simp; omega
  have hd2 : decide (8 < n) = false := by simp; omega
  go_enter Try.func81, Try.ntmps81
  go_wp2
  go_ret
  exact ⟨rfl, rfl⟩

theorem or_u64 (y : Nat) (x : UInt8) (h : y < 72057594037927936) : bits .or .u64 ((y : Int) * 256) (x.toNat : Int) = ((y * 256 + x.toNat : Nat) : Int) := by
  have hx := x.toNat_lt
  have h1 := u64_or_nat (y * 256) x.toNat (by omega) (by omega)
  rw [NumM.or_byte y x.toNat hx] at h1
  rw [← h1]
  congr 1

set_option maxHeartbeats 400000 in
theorem value_any (s : ByteArray) (w : World) (hs : s.size ≤ 8) :
    Calls Try.prog 82 #[.string s] w fun e w' => e = .returned (.int .u64 (NumM.val s.data.toList : Int)) ∧ Below w.heap.size w w' := by
  have hcv := fun W => Lib.run_convert_string_bytes (P := Try.prog) W 9 30 5 s Try.underlying9 Try.underlying30 Try.underlying5
  go_enter Try.func82, Try.ntmps82
  go_wp2
  have hbl := below_bytes w s
  have hB := bytesAt_new w s
  generalize Lib.bytesWorld w 5 s = W0 at *
  generalize hKK : w.heap.size = K at *
  have HK := Lib.hid hKK
  clear hKK
  generalize grownCap w s.size 0 5 = C
  have hlen := size_data s
  generalize hll : s.data.toList = l at *
  have HLL := Lib.hid hll
  clear hll
  generalize s.size = n at *
  clear hcv
  have HB := Lib.hid hB
  have HL := Lib.hid hlen
  clear hB hlen
  go_loop [3, 9] (fun x i => ∃ k : Nat, k ≤ n ∧ i = .int .i64 k ∧ x = .int .u64 (NumM.val (l.take k) : Int)) (fun _ i => n - (intOf i).toNat)
  case atStart => exact ⟨0, by omega, rfl, rfl⟩
  case round =>
    obtain ⟨k, hk, rfl, rfl⟩ := hrel
    by_cases hlt : k < n
    · obtain ⟨hc, hf⟩ := HB.out.2 k (by rw [HL.out]; exact hlt)
      have hsn : NumM.val (l.take (k + 1)) = NumM.val (l.take k) * 256 + (l.getD k 0).toNat := by
        have hkl : k < l.length := by rw [HL.out]; exact hlt
        rw [List.take_succ_eq_append_getElem hkl, NumM.val_snoc]
        simp [List.getD, List.getElem?_eq_getElem hkl]
      have hv := NumM.val_take_lt (l.take k) 7 (by rw [List.length_take, HL.out]; omega)
      have hv' : NumM.val (l.take k) < 72057594037927936 := hv
      generalize hx : l.getD k 0 = x at *
      generalize hy : NumM.val (l.take k) = y at *
      have hor := or_u64 y x hv'
      have HOR := Lib.hid hor
      have HSN := Lib.hid hsn
      have hxl := x.toNat_lt
      clear hx hy hv hsn hor hf
      go_wp2
      go_round
      case rel => exact ⟨k + 1, by omega, by go_num, by rw [HSN.out, HOR.out]⟩
      case measure => simp [intOf]; omega
    · obtain rfl : k = n := by omega
      have HE := Lib.hid (show l.take k = l from List.take_of_length_le (by rw [HL.out]; omega))
      go_wp2
      go_ret
      exact ⟨by rw [HLL.out, HE.out]; rfl, by rw [HK.out]; exact hbl⟩
/-- a reader: its bytes, and its place. -/
def RdAt (w : World) (g : Nat) (s : ByteArray) (p : Nat) : Prop :=
  w.cell? ⟨g, 0, none⟩ = some (.string s) ∧ w.cell? ⟨g, 1, none⟩ = some (.int .i64 (p : Int)) ∧ w.frozen? ⟨g, 1, none⟩ = false
theorem RdAt.kept {w w' : World} {g : Nat} {s : ByteArray} {p : Nat} (h : RdAt w g s p) (hb : Below w.heap.size w w') : RdAt w' g s p := by
  have hl := World.block_lt_of_cell? w _ h.1
  exact ⟨(hb.cell (p := ⟨g, 0, none⟩) hl).trans h.1, (hb.cell (p := ⟨g, 1, none⟩) hl).trans h.2.1, (hb.frozen (p := ⟨g, 1, none⟩) hl).trans h.2.2⟩
theorem RdAt.drewN {w : World} {g : Nat} {s : ByteArray} {p : Nat} (h : RdAt w g s p) (n : Nat) : RdAt (w.drewN n) g s p := h
theorem RdAt.set {w : World} {g : Nat} {s : ByteArray} {p : Nat} (h : RdAt w g s p) (q : Nat) : RdAt (w.setCell ⟨g, 1, none⟩ (.int .i64 (q : Int))) g s q :=
  ⟨(World.cell?_setCell_other w ⟨g, 1, none⟩ ⟨g, 0, none⟩ _ (by simp)).trans h.1, World.cell?_setCell_same _ _ _ h.2.1, by rw [World.frozen?_setCell]; exact h.2.2⟩

/-- only block g may have turned, and blocks may have been laid. -/
def Only (g : Nat) (w w' : World) : Prop := w.grownBy w' (some g)
theorem Only.refl (g : Nat) (w : World) : Only g w w := ⟨rfl, rfl, rfl, Nat.le_refl _, fun _ _ _ => rfl⟩
theorem Only.trans {g : Nat} {a b c : World} (h : Only g a b) (k : Only g b c) : Only g a c :=
  ⟨k.os.trans h.os, k.tape.trans h.tape, k.output.trans h.output, Nat.le_trans h.size k.size, fun i hi hne => (k.block i (Nat.lt_of_lt_of_le hi h.size) hne).trans (h.block i hi hne)⟩
theorem Only.of_below {g : Nat} {a b : World} (h : Below a.heap.size a b) : Only g a b := ⟨h.os, h.tape, h.output, h.size, fun i hi _ => h.block i hi⟩
theorem Only.drewN {g : Nat} {a b : World} (h : Only g a b) (n : Nat) : Only g a (b.drewN n) := ⟨h.os, h.tape, h.output, h.size, h.block⟩
theorem Only.drew {g : Nat} {a b : World} (h : Only g a b) : Only g a b.drew := ⟨h.os, h.tape, h.output, h.size, h.block⟩
theorem Only.set {g : Nat} {a b : World} (h : Only g a b) (j : Nat) (u : Value) : Only g a (b.setCell ⟨g, j, none⟩ u) :=
  ⟨h.os, h.tape, h.output, by simpa [World.setCell] using h.size, fun i hi hne => (Below.heap_setCell b ⟨g, j, none⟩ u i (by
    rintro rfl
    exact hne rfl)).trans (h.block i hi hne)⟩
theorem Only.below {g B : Nat} {a w w' : World} (h : Below B a w) (k : Only g w w') (hB : B ≤ w.heap.size) (hg : B ≤ g) : Below B a w' :=
  h.grown k hB (fun j hj => by cases hj; exact hg)

set_option maxHeartbeats 400000 in
theorem left_any (g : Nat) (s : ByteArray) (p : Nat) (w : World) (h : RdAt w g s p) (hs : s.size ≤ maxLen) (hp : p ≤ s.size) :
    Calls Try.prog 61 #[.pointer (some ⟨g, 0, none⟩)] w fun e w' => e = .returned (.int .i64 ((s.size - p : Nat) : Int)) ∧ ∃ n, w' = w.drewN n := by
  obtain ⟨h0, h1, h2⟩ := h
  have e : (s.size : Int) - (p : Int) = ((s.size - p : Nat) : Int) := by omega
  unfold maxLen at hs
  have ew : IntKind.i64.wrap ((s.size : Int) - (p : Int)) = ((s.size - p : Nat) : Int) := by rw [e]; exact IntWalk.i64_in _ (by omega)
  go_enter Try.func61, Try.ntmps61
  go_wp2
  go_quiet (fail)
  go_wp2
  go_ret
  exact ⟨rfl, _, rfl⟩

set_option maxHeartbeats 400000 in
theorem text_ok (g : Nat) (s : ByteArray) (p n : Nat) (w : World) (h : RdAt w g s p) (hs : s.size ≤ maxLen) (hp : p + n ≤ s.size) :
    Calls Try.prog 60 #[.pointer (some ⟨g, 0, none⟩), .int .i64 (n : Int)] w fun e w' => e = .returned (.string (s.extract p (p + n))) ∧ RdAt w' g s (p + n) ∧ Only g w w' := by
  have hL := fun n => left_any g s p (w.drewN n) (h.drewN n) hs (by omega)
  have hr := h
  obtain ⟨h0, h1, h2⟩ := h
  unfold maxLen at hs
  have hd : decide (((s.size - p : Nat) : Int) < (n : Int)) = false := by simp; omega
  go_enter Try.func60, Try.ntmps60
  go_wp2_with fail
  refine (left_any g s p w hr (by unfold maxLen; omega) (by omega)).mono ?_
  rintro e w' ⟨rfl, m, rfl⟩
  have ew : IntKind.i64.wrap ((p : Int) + (n : Int)) = (p : Int) + (n : Int) := IntWalk.i64_in _ (by omega)
  have et : ((p : Int) + (n : Int)).toNat = p + n := by omega
  have f1 : (0 : Int) ≤ (p : Int) := by omega
  have f2 : (p : Int) ≤ (p : Int) + (n : Int) := by omega
  have f3 : (p : Int) + (n : Int) ≤ (s.size : Int) := by omega
  go_wp2_with fail
  go_quiet (fail)
  go_wp2
  go_ret
  refine ⟨rfl, ?_, ?_⟩
  · exact (hr.drewN _).set (p + n)
  · exact ((Only.refl g w).drewN _).set _ _
theorem extract_size (s : ByteArray) (p n : Nat) (hp : p + n ≤ s.size) : (s.extract p (p + n)).size = n := by rw [ByteArray.size_extract]; omega

set_option maxHeartbeats 400000 in
theorem num_ok (g : Nat) (s : ByteArray) (p n : Nat) (w : World) (h : RdAt w g s p) (hs : s.size ≤ maxLen) (h8 : n ≤ 8) (hp : p + n ≤ s.size) :
    Calls Try.prog 59 #[.pointer (some ⟨g, 0, none⟩), .int .i64 (n : Int)] w fun e w' => e = .returned (.int .u64 (NumM.val ((s.data.toList.drop p).take n) : Int)) ∧ RdAt w' g s (p + n) ∧ Only g w w' := by
  have hx := extract_size s p n hp
  have ed : (s.extract p (p + n)).data.toList = (s.data.toList.drop p).take n := by rw [Lib.extract_data]; congr 1; omega
  have HX := Lib.hid hx
  have HE := Lib.hid ed
  clear hx ed
  go_enter Try.func59, Try.ntmps59
  go_wp2_with fail
  refine (size_any _ _ (by omega) (by omega)).mono ?_
  rintro e w1 ⟨rfl, rfl⟩
  go_wp2_with fail
  refine (text_ok g s p n _ h hs hp).mono ?_
  rintro e w2 ⟨rfl, hr, ho⟩
  go_wp2_with fail
  refine (value_any _ _ (by rw [HX.out]; exact h8)).mono ?_
  rw [HE.out]
  rintro e w3 ⟨rfl, hb⟩
  go_wp2_with fail
  go_ret
  exact ⟨rfl, hr.kept hb, ho.trans (Only.of_below hb)⟩

set_option maxHeartbeats 400000 in
theorem new_any (s : ByteArray) (w : World) :
    Calls Try.prog 58 #[.string s] w fun e w' => e = .returned (.pointer (some ⟨w.heap.size, 0, none⟩)) ∧ RdAt w' w.heap.size s 0 ∧ Below w.heap.size w w' := by
  go_enter Try.func58, Try.ntmps58
  go_wp2
  go_ret
  exact ⟨rfl, ⟨by simp, by simp, by simp⟩, below_alloc (Below.refl _ _) _⟩
end Go.Proofs.Ythkfgjdbgnbjkaa
namespace Go.Proofs.Ythkfgjdbgnbjkaa
open Go.RowKit
set_option linter.unusedSimpArgs false
set_option linter.unusedVariables false

def bvals (l : List UInt8) : List Value := l.map fun b => .int .u8 (b.toNat : Int)
theorem bvals_length (l : List UInt8) : (bvals l).length = l.length := by simp [bvals]
theorem bvals_append (l m : List UInt8) : bvals (l ++ m) = bvals l ++ bvals m := by simp [bvals]
theorem bvals_one (l : List UInt8) : ∀ u ∈ bvals l, u.oneCell' = true := by
  intro u hu
  simp only [bvals, List.mem_map] at hu
  obtain ⟨b, _, rfl⟩ := hu
  rfl
/-- a slice of bytes that reads as a list, nil or not. -/
def RdB (w : World) (A : Option Addr) (c : Nat) (l : List UInt8) : Prop :=
  (A = none → l.length = 0 ∧ c = 0) ∧ ∀ ad, A = some ad → ∀ j u, (bvals l)[j]? = some u → w.cell? (ad.add j) = some u
theorem RdB.grown {w w' : World} {A : Option Addr} {c : Nat} {l : List UInt8} (h : RdB w A c l) (hg : w.grownBy w' none) : RdB w' A c l :=
  ⟨h.1, fun ad ha j u hu => hg.cell (h.2 ad ha j u hu) (by simp)⟩
theorem RdB.nil (w : World) : RdB w none 0 [] := ⟨fun _ => ⟨rfl, rfl⟩, fun ad h => by cases h⟩

theorem info5 : (Try.prog.info? 5).map (fun i => (i.zero, i.size, i.bytes)) = some (some (.int .u8 0), 1, 1) := by kernel_rfl

/-- a row of bytes of the call's own: its value, and what it holds. -/
def OwnB (w : World) (base : Nat) (g cap : Nat) (l : List UInt8) : Prop :=
  w.ownsRow base 5 1 (.slice (some ⟨g, 0, none⟩) l.length cap) l.length (bvals l)
theorem OwnB.cell {w : World} {base g cap : Nat} {l : List UInt8} (h : OwnB w base g cap l) (i : Nat) (hi : i < l.length) : w.cell? ⟨g, i, none⟩ = some (.int .u8 ((l.getD i 0).toNat : Int)) := by
  have h1 := World.ownsRow.cellAt h i (by omega)
  rw [h1]
  simp [bvals, List.getD, List.getElem?_eq_getElem hi]
theorem OwnB.rd {w : World} {base g cap : Nat} {l : List UInt8} (h : OwnB w base g cap l) : RdB w (some ⟨g, 0, none⟩) cap l :=
  And.intro (fun e => by cases e) (fun ad ha j u hu => by cases ha; exact World.ownsRow.cells h rfl j u hu)
theorem OwnB.convert {w : World} {base g cap : Nat} {l : List UInt8} (h : OwnB w base g cap l) :
    (convert 30 9 (.slice (some ⟨g, 0, none⟩) l.length cap)).run Try.prog w = .ok (.string ⟨l.toArray⟩) w := by
  have := run_convert_bytes_arg (P := Try.prog) w 30 5 Try.underlying30 Try.underlying5 g 0 l.length cap (l.map fun b => (b.toNat : Int)) (by simp) (fun i hi => by
    rw [Nat.zero_add, h.cell i hi]
    simp [List.getD, List.getElem?_eq_getElem hi]) 9 Try.underlying9
  rw [strOf_bytes] at this
  exact this

theorem shr_byte (v q : Nat) : (v : Int) / 2 ^ (8 * q) % 256 = ((UInt8.ofNat (v / 256 ^ q)).toNat : Int) := by
  rw [UInt8.toNat_ofNat']
  have e : (2 : Nat) ^ (8 * q) = 256 ^ q := by rw [Nat.pow_mul]
  have e2 : ((2 : Int) ^ (8 * q)) = ((256 ^ q : Nat) : Int) := by rw [← e, Int.natCast_pow]; rfl
  rw [e2, ← Int.natCast_ediv]
  omega

set_option maxRecDepth 100000 in
set_option maxHeartbeats 800000 in
theorem put_any (A : Option Addr) (c : Nat) (l : List UInt8) (v n : Nat) (w : World) (hR : RdB w A c l) (hl : l.length ≤ 1000000) (hv : v < 18446744073709551616) (hn : n ≤ 8) :
    Calls Try.prog 56 #[.slice A l.length c, .int .u64 (v : Int), .int .i64 (n : Int)] w fun e w' =>
      e = .returned (.slice (some ⟨w.heap.size, 0, none⟩) (l.length + n) (l.length + n)) ∧ OwnB w' w.heap.size w.heap.size (l.length + n) (l ++ NumM.be n v) ∧ Below w.heap.size w w' := by
  obtain ⟨i0, hi, hz0, hz1, hz2⟩ := info_parts info5
  generalize hL : l.length = L at *
  have HL := Lib.hid hL
  clear hL
  have HR := Lib.hid hR
  clear hR hv
  go_enter Try.func56, Try.ntmps56
  go_wp2_with fail
  refine (size_any _ _ (by omega) (by omega)).mono ?_
  rintro e w' ⟨rfl, rfl⟩
  go_wp2_with (at_make; refine wpList_make_own _ rfl _ _ 30 rfl w.heap.size 5 i0 (.int .u8 0) 1 Try.underlying30 hi hz0 hz1 _ _ _ (L + n) rfl rfl (by omega) ?b2 ?b3 (Nat.le_refl _) ?_)
  case b2 => rw [hz2]; omega
  case b3 => unfold maxLen; omega
  intro w0 hown0 hgrow0
  have HR0 := HR.out.grown hgrow0
  have hb0 := (Below.refl w.heap.size w).grown hgrow0 (Nat.le_refl _) (fun k h => by cases h)
  go_wp2_with (at_builtin; refine wpList_append_fits_any _ rfl (.tmp 15) (.tmp 16) 30 rfl w.heap.size 5 i0 1 Try.underlying30 hi hz1 w.heap.size 0 (L + n) _ rfl hown0 A L c (bvals l) rfl (by rw [bvals_length, HL.out]; omega) (by have := HR0.1; rw [HL.out] at this; exact this) HR0.2 (bvals_one l) (by omega) ?_; intro w1 hown1 hgrow1)
  have hb1 := hb0.grown hgrow1 hb0.size (fun k h => by cases h; exact Nat.le_refl _)
  have hown : OwnB w1 w.heap.size w.heap.size (L + n) (l ++ (NumM.be n v).take 0) := by
    unfold OwnB
    rw [List.take_zero, List.append_nil, HL.out]
    simpa using hown1
  clear hown0 hown1 hgrow0 hgrow1 HR0 hb0 HR
  have HO := Lib.hid hown
  clear hown
  go_loopw [7, 19] (fun o j wr => ∃ k : Nat, k ≤ n ∧ j = .int .i64 k ∧ o = .slice (some ⟨w.heap.size, 0, none⟩) (L + k) (L + n) ∧ Hid (OwnB wr w.heap.size w.heap.size (L + n) (l ++ (NumM.be n v).take k)) ∧ Below w.heap.size w wr) (fun _ j _ => n - (intOf j).toNat)
  case atStart => exact ⟨0, by omega, rfl, rfl, HO, hb1⟩
  case round =>
    obtain ⟨k, hk, rfl, rfl, HOk, hbk⟩ := hrel
    by_cases hlt : k < n
    · obtain ⟨q, hq⟩ : ∃ q, q = n - 1 - k := ⟨_, rfl⟩
      have e1 : (n : Int) - 1 - (k : Int) = (q : Int) := by omega
      have e2 : (8 * (q : Int)).toNat = 8 * q := by omega
      have e3 : min (8 * q) 64 = 8 * q := by omega
      have hq8 : q ≤ 7 := by omega
      have HS := Lib.hid (shr_byte v q)
      have HT := Lib.hid (NumM.be_take n v k hlt)
      have HQ := Lib.hid hq
      clear hq
      have hk0 : wr.ownsRow w.heap.size 5 1 (.slice (some ⟨w.heap.size, 0, none⟩) (L + k) (L + n)) (L + k) (bvals (l ++ (NumM.be n v).take k)) := by
        have h := HOk.out
        unfold OwnB at h
        rw [List.length_append, List.length_take, NumM.be_length, HL.out, Nat.min_eq_left hk] at h
        exact h
      have HK0 := Lib.hid hk0
      clear hk0 HOk
      go_wp2_with (at_builtin; refine wpList_append_fits _ rfl (.tmp 22) (.tmp 31) 30 rfl w.heap.size 5 i0 1 Try.underlying30 hi hz1 w.heap.size (L + k) (L + n) _ rfl (HK0.out.alloc _) ⟨wr.heap.size, 0, none⟩ 1 1 [.int .u8 ((v : Int) / 2 ^ (8 * q) % 256)] rfl rfl ?hc ?h1 (by omega) ?_; rotate_left; rotate_left; intro w2 hown2 hgrow2)
      case hc => exact cell_one_new _ _ _
      case h1 => intro u hu; simp at hu; subst hu; rfl
      go_roundw
      case rel =>
        have h : OwnB w2 w.heap.size w.heap.size (L + n) (l ++ (NumM.be n v).take (k + 1)) := by
          unfold OwnB
          rw [List.length_append, List.length_take, NumM.be_length, HL.out, Nat.min_eq_left (by omega), HT.out, ← HQ.out, ← List.append_assoc, bvals_append]
          rw [HS.out] at hown2
          exact hown2
        exact ⟨k + 1, by omega, by go_num, by rw [Nat.add_assoc], h, (hbk.alloc hbk.size _).grown hgrow2 (by simp; have := hbk.size; omega) (fun k h => by cases h; exact Nat.le_refl _)⟩
      case measure => simp [intOf]; omega
    · obtain rfl : k = n := by omega
      have h := HOk.out
      rw [NumM.be_take_all] at h
      go_wp2
      go_ret
      exact ⟨rfl, h, hbk⟩
end Go.Proofs.Ythkfgjdbgnbjkaa
namespace Go.Proofs.Ythkfgjdbgnbjkaa
open Go.RowKit
set_option linter.unusedSimpArgs false
set_option linter.unusedVariables false

theorem one_byte (v k : Nat) : strOfNums [((v / 256 ^ k : Nat) : Int) % 256] = ⟨#[UInt8.ofNat (v / 256 ^ k)]⟩ := by
  unfold strOfNums
  simp only [List.map_cons, List.map_nil]
  congr 2
  have e : (((v / 256 ^ k : Nat) : Int) % 256).toNat = v / 256 ^ k % 256 := by omega
  rw [e]
  have e2 : UInt8.ofNat (v / 256 ^ k % 256) = UInt8.ofNat (v / 256 ^ k) := by
    apply UInt8.toNat_inj.1
    simp
  rw [e2]

/-- a 64-bit number. -/
def U64 (v : Nat) : Prop := v < 18446744073709551616
theorem U64.wrap {v : Nat} (h : U64 v) : IntKind.u64.wrap (v : Int) = (v : Int) := by
  unfold U64 at h
  rw [IntKind.wrap_u64]
  omega
theorem U64.div {v : Nat} (h : U64 v) (k : Nat) : U64 (v / k) := Nat.lt_of_le_of_lt (Nat.div_le_self _ _) h

set_option maxHeartbeats 400000 in
theorem rput_any (s : ByteArray) (v n : Nat) (w : World) (hv : U64 v) (hs : s.size ≤ 1000000) (hn : n ≤ 8) :
    Calls Try.prog 57 #[.string s, .int .u64 (v : Int), .int .i64 (n : Int)] w fun e w' => e = .returned (.string (s ++ ⟨(NumM.be n v).toArray⟩)) ∧ Below w.heap.size w w' := by
  go_enter Try.func57, Try.ntmps57
  go_wp2_with fail
  go_loopw [1, 7, 8] (fun x t i wr => ∃ k : Nat, k ≤ n ∧ i = .int .i64 k ∧ x = .int .u64 ((v / 256 ^ k : Nat) : Int) ∧ t = .string ⟨(NumM.be k v).toArray⟩ ∧ Below w.heap.size w wr) (fun _ _ i _ => n - (intOf i).toNat)
  case atStart => exact ⟨0, by omega, rfl, by simp, rfl, Below.refl _ _⟩
  case round =>
    obtain ⟨k, hk, rfl, rfl, rfl, hbk⟩ := hrel
    have hd : decide ((k : Int) < (n : Int)) = decide (k < n) := by simp
    by_cases hlt : k < n
    · have H1 := one_byte v k
      generalize hx : v / 256 ^ k = x at *
      have hc := convert_one (wr.alloc (.cells #[.int .u8 ((x : Int) % 256)] 5)) wr.heap.size ((x : Int) % 256) (by simp)
      have hsz : (NumM.be k v).length = k := NumM.be_length k v
      have hl : ¬ 9223372036854775807 < 1 + k := by omega
      have hl2 : ¬ 9223372036854775807 < k + 1 := by omega
      have HX := Lib.hid hx
      clear hx
      go_wp2_with (go_at_call 81; refine (rsize_any _ _ (by omega) (by omega)).mono ?_; rintro e w' ⟨rfl, rfl⟩)
      go_roundw
      case rel =>
        refine ⟨k + 1, by omega, by go_num, ?_, ?_, hbk.alloc hbk.size _⟩
        · have h1 := ((hv.div (256 ^ k)).div 256).wrap
          rw [HX.out, Int.natCast_ediv] at h1
          have h2 : IntKind.u64.wrap ((x : Int) / 256) = (x : Int) / 256 := h1
          rw [h2, Nat.pow_succ, ← Nat.div_div_eq_div_mul, HX.out]
          rfl
        · rw [NumM.be_succ, HX.out]
          congr 1
      case measure => simp [intOf]; omega
    · obtain rfl : k = n := by omega
      have hsz : (NumM.be k v).length = k := NumM.be_length k v
      have hl : ¬ 9223372036854775807 < s.size + k := by omega
      go_wp2_with (go_at_call 81; refine (rsize_any _ _ (by omega) (by omega)).mono ?_; rintro e w' ⟨rfl, rfl⟩)
      go_ret
      exact ⟨rfl, hbk⟩
theorem get_step (l : List UInt8) (p k : Nat) (h : p + k < l.length) : NumM.val ((l.drop p).take (k + 1)) = NumM.val ((l.drop p).take k) * 256 + (l.getD (p + k) 0).toNat := by
  have hk : k < (l.drop p).length := by rw [List.length_drop]; omega
  rw [List.take_succ_eq_append_getElem hk, NumM.val_snoc]
  simp [List.getD, List.getElem?_eq_getElem h]

set_option maxHeartbeats 400000 in
theorem get_ok (s : ByteArray) (p n : Nat) (w : World) (hs : s.size ≤ 1000000) (h1 : 1 ≤ n) (h8 : n ≤ 8) (hp : p + n ≤ s.size) :
    Calls Try.prog 62 #[.string s, .int .i64 (p : Int), .int .i64 (n : Int)] w fun e w' => e = .returned (.tuple #[.int .u64 (NumM.val ((s.data.toList.drop p).take n) : Int), .bool true]) ∧ w = w' := by
  have d1 : decide ((n : Int) < 1) = false := by simp; omega
  have d2 : decide (8 < (n : Int)) = false := by simp; omega
  have d3 : decide ((p : Int) < 0) = false := by simp
  have d4 : decide ((s.size : Int) < (p : Int)) = false := by simp; omega
  have d5 : decide ((s.size : Int) - (p : Int) < (n : Int)) = false := by simp; omega
  go_enter Try.func62, Try.ntmps62
  go_wp2
  clear d1 d2 d3 d4 d5
  go_loop [8, 9] (fun x i => ∃ k : Nat, k ≤ n ∧ i = .int .i64 ((p : Int) + (k : Int)) ∧ x = .int .u64 (NumM.val ((s.data.toList.drop p).take k) : Int)) (fun _ i => p + n - (intOf i).toNat)
  case atStart => exact ⟨0, by omega, by simp, by simp [NumM.val]⟩
  case round =>
    obtain ⟨k, hk, rfl, rfl⟩ := hrel
    by_cases hlt : k < n
    · have hq : p + k < s.size := by omega
      have hsn := get_step s.data.toList p k (by rw [size_data]; exact hq)
      have hget : s.data.toList.getD (p + k) 0 = s[p + k] := by
        have hn : p + k < s.data.toList.length := by rw [size_data]; exact hq
        simp only [List.getD, List.getElem?_eq_getElem hn, Option.getD_some]
        rfl
      rw [hget] at hsn
      have hv : NumM.val ((s.data.toList.drop p).take k) < 72057594037927936 := NumM.val_take_lt _ 7 (by rw [List.length_take]; omega)
      generalize hy : NumM.val ((s.data.toList.drop p).take k) = y at *
      have HSN := Lib.hid hsn
      have hxl := (s[p + k]).toNat_lt
      have f1 : (0 : Int) ≤ (p : Int) + (k : Int) := by omega
      have f2 : (p : Int) + (k : Int) < (s.size : Int) := by omega
      have f3 : ((p : Int) + (k : Int)).toNat = p + k := by omega
      have f4 : (p : Int) + (k : Int) < (p : Int) + (n : Int) := by omega
      clear hy hsn hget
      go_wp2
      go_round
      case rel => exact ⟨k + 1, by omega, by go_num, by rw [HSN.out]; go_num⟩
      case measure => simp [intOf]; omega
    · obtain rfl : k = n := by omega
      have f4 : ¬ (p : Int) + (k : Int) < (p : Int) + (k : Int) := by omega
      go_wp2
      go_ret2
      exact ⟨rfl, rfl⟩
end Go.Proofs.Ythkfgjdbgnbjkaa
namespace Go.Proofs.Ythkfgjdbgnbjkaa
open Go.RowKit
set_option linter.unusedSimpArgs false
set_option linter.unusedVariables false

def kindOk (n : Int) : Bool := decide (1 ≤ n) && decide (n ≤ 11)
def procOk (n : Int) : Bool := decide (0 ≤ n) && decide (n < 64)
/-- an int as a byte. -/
def byteOf (n : Int) : UInt8 := UInt8.ofNat (n % 256).toNat
def headL (k f t : Int) (n : Nat) : List UInt8 := [197, 1, byteOf k, byteOf f, byteOf t] ++ NumM.be 2 n
/-- what is printed: the bytes. -/
def frameB (k f t : Int) (b : ByteArray) : ByteArray := sealB (⟨(headL k f t b.size).toArray⟩ ++ b)
/-- what is printed: the error; 0: none. -/
def printE (k f t : Int) (b : ByteArray) : Int :=
  if kindOk k = false then 10 else if (procOk f && procOk t) = false then 1 else if 32768 < b.size then 3 else 0
def printS (k f t : Int) (b : ByteArray) : ByteArray := if printE k f t b = 0 then frameB k f t b else ⟨#[]⟩

/-- a frame that is parsed, or an error. -/
structure FR where
  k : Int
  f : Int
  t : Int
  b : ByteArray
  e : Int
def FR.bad (e : Int) : FR := ⟨0, 0, 0, ⟨#[]⟩, e⟩
/-- the byte at a place. -/
def byAt (t : ByteArray) (i : Nat) : Nat := (t.data.toList.getD i 0).toNat
/-- what comes of the opened bytes: b0 .. b4: the first five; n: the length that they say; m: the body's. -/
def parseC (b0 b1 b2 b3 b4 n m : Nat) (body : ByteArray) : FR :=
  if b0 ≠ 197 then .bad 4 else if b1 ≠ 1 then .bad 9 else if kindOk b2 = false then .bad 10 else
  if (procOk b3 && procOk b4) = false then .bad 1 else
  if 32768 < m ∨ m ≠ n then .bad 3 else ⟨b2, b3, b4, body, 0⟩
def parseT (t : ByteArray) : FR := parseC (byAt t 0) (byAt t 1) (byAt t 2) (byAt t 3) (byAt t 4) (NumM.val ((t.data.toList.drop 5).take 2)) (t.size - 7) (t.extract 7 t.size)
def parseF (s : ByteArray) : FR := if s.size < 11 then .bad 2 else if openOk s = false then .bad 8 else parseT (openB s)

theorem val_one (l : List UInt8) (p : Nat) (h : p < l.length) : NumM.val ((l.drop p).take 1) = (l.getD p 0).toNat := by
  have h1 := get_step l p 0 (by omega)
  rw [List.take_zero] at h1
  simpa [NumM.val] using h1
theorem openB_size (s : ByteArray) (h : openOk s = true) : (openB s).size + 4 = s.size := by
  unfold openB
  rw [if_pos h, ByteArray.size_extract]
  unfold openOk at h
  rw [Bool.and_eq_true, decide_eq_true_iff] at h
  omega
end Go.Proofs.Ythkfgjdbgnbjkaa
namespace Go.Proofs.Ythkfgjdbgnbjkaa
open Go.RowKit
set_option linter.unusedSimpArgs false
set_option linter.unusedVariables false

theorem cell_keep {w w1 : World} {a : Addr} {v : Value} (hc : w.cell? a = some v) (hb : Below w.heap.size w w1) : w1.cell? a = some v :=
  (hb.cell (World.block_lt_of_cell? w a hc)).trans hc
theorem ret_bool {a b : Bool} (h : a = b) : Ending.returned (.bool a) = .returned (.bool b) := by rw [h]
set_option maxHeartbeats 400000 in
theorem kind_any (n : Int) (w : World) : Calls Try.prog 54 #[.int .i64 n] w fun e w' => e = .returned (.bool (kindOk n)) ∧ w = w' := by
  by_cases h : 1 ≤ n
  · have hd : decide (1 ≤ n) = true := by simpa using h
    go_enter Try.func54, Try.ntmps54
    go_wp2
    go_ret
    exact ⟨ret_bool (by unfold kindOk; rw [hd]; rfl), rfl⟩
  · have hd : decide (1 ≤ n) = false := by simpa using h
    go_enter Try.func54, Try.ntmps54
    go_wp2
    go_ret
    exact ⟨ret_bool (by unfold kindOk; rw [hd]; rfl), rfl⟩
set_option maxHeartbeats 400000 in
theorem proc_any (n : Int) (w : World) : Calls Try.prog 55 #[.int .i64 n] w fun e w' => e = .returned (.bool (procOk n)) ∧ w = w' := by
  by_cases h : 0 ≤ n
  · have hd : decide (0 ≤ n) = true := by simpa using h
    go_enter Try.func55, Try.ntmps55
    go_wp2
    go_ret
    exact ⟨ret_bool (by unfold procOk; rw [hd]; rfl), rfl⟩
  · have hd : decide (0 ≤ n) = false := by simpa using h
    go_enter Try.func55, Try.ntmps55
    go_wp2
    go_ret
    exact ⟨ret_bool (by unfold procOk; rw [hd]; rfl), rfl⟩

theorem five_rd (w : World) (g : Nat) (x0 x1 x2 x3 x4 : UInt8) (h0 : w.cell? ⟨g, 0, none⟩ = some (.int .u8 (x0.toNat : Int))) (h1 : w.cell? ⟨g, 1, none⟩ = some (.int .u8 (x1.toNat : Int))) (h2 : w.cell? ⟨g, 2, none⟩ = some (.int .u8 (x2.toNat : Int)))
    (h3 : w.cell? ⟨g, 3, none⟩ = some (.int .u8 (x3.toNat : Int))) (h4 : w.cell? ⟨g, 4, none⟩ = some (.int .u8 (x4.toNat : Int))) :
    RdB w (some ⟨g, 0, none⟩) 5 [x0, x1, x2, x3, x4] := by
  refine ⟨(fun e => by cases e), fun ad ha j u hu => ?_⟩
  cases ha
  have hl := (List.getElem?_eq_some_iff.1 hu).1
  rw [bvals_length] at hl
  simp only [Addr.add_lit, Nat.zero_add]
  match j, hl with
  | 0, _ => rw [h0]; exact hu
  | 1, _ => rw [h1]; exact hu
  | 2, _ => rw [h2]; exact hu
  | 3, _ => rw [h3]; exact hu
  | 4, _ => rw [h4]; exact hu

theorem OwnB.convert' {w : World} {base g cap : Nat} {l : List UInt8} (h : OwnB w base g cap l) (n : Nat) (hn : l.length = n) :
    (Go.convert 30 9 (.slice (some ⟨g, 0, none⟩) n cap)).run Try.prog w = .ok (.string ⟨l.toArray⟩) w := by
  rw [← hn]; exact h.convert

theorem put_head (g : Nat) (x0 x1 x2 x3 x4 : UInt8) (v : Nat) (w : World) (hR : RdB w (some ⟨g, 0, none⟩) 5 [x0, x1, x2, x3, x4]) (hv : v < 18446744073709551616) :
    Calls Try.prog 56 #[.slice (some ⟨g, 0, none⟩) 5 5, .int .u64 (v : Int), .int .i64 2] w fun e w' =>
      ∃ k, e = .returned (.slice (some ⟨k, 0, none⟩) 7 7) ∧ OwnB w' w.heap.size k 7 ([x0, x1, x2, x3, x4] ++ NumM.be 2 v) ∧ Below w.heap.size w w' :=
  (put_any (some ⟨g, 0, none⟩) 5 [x0, x1, x2, x3, x4] v 2 w hR (by simp) hv (by omega)).mono fun _ _ h => ⟨_, h⟩

theorem byteOf_int (n : Int) : n % 256 = ((byteOf n).toNat : Int) := by
  unfold byteOf
  rw [UInt8.toNat_ofNat']
  omega

set_option maxHeartbeats 800000 in
theorem print_any (k f t : Int) (b : ByteArray) (w : World) (hb : b.size ≤ 900000) :
    Calls Try.prog 29 #[.agg #[.int .i64 k, .int .i64 f, .int .i64 t, .string b]] w fun e w' => e = .returned (.tuple #[.string (printS k f t b), .int .i64 (printE k f t b)]) ∧ Below w.heap.size w w' := by
  cases hk : kindOk k with
  | false =>
    have he : printE k f t b = 10 := by unfold printE; rw [if_pos hk]
    have hs : printS k f t b = ⟨#[]⟩ := by unfold printS; rw [he]; rfl
    rw [he, hs]
    clear he hs
    go_enter Try.func29, Try.ntmps29
    go_wp2_with (go_at_call 54; refine (kind_any _ _).mono ?_; rintro e w' ⟨rfl, rfl⟩)
    go_ret2
    exact ⟨rfl, below_alloc (Below.refl _ _) _⟩
  | true =>
    cases hf : procOk f with
    | false =>
      have he : printE k f t b = 1 := by unfold printE; rw [hk, hf]; rfl
      have hs : printS k f t b = ⟨#[]⟩ := by unfold printS; rw [he]; rfl
      rw [he, hs]
      clear he hs
      go_enter Try.func29, Try.ntmps29
      go_wp2_with (first | (go_at_call 54; refine (kind_any _ _).mono ?_; rintro e w' ⟨rfl, rfl⟩) | (go_at_call 55; refine (proc_any _ _).mono ?_; rintro e w' ⟨rfl, rfl⟩))
      go_ret2
      exact ⟨rfl, below_alloc (Below.refl _ _) _⟩
    | true =>
      cases ht : procOk t with
      | false =>
        have he : printE k f t b = 1 := by unfold printE; rw [hk, hf, ht]; rfl
        have hs : printS k f t b = ⟨#[]⟩ := by unfold printS; rw [he]; rfl
        rw [he, hs]
        clear he hs
        go_enter Try.func29, Try.ntmps29
        go_wp2_with (first | (go_at_call 54; refine (kind_any _ _).mono ?_; rintro e w' ⟨rfl, rfl⟩) | (go_at_call 55; refine (proc_any _ _).mono ?_; rintro e w' ⟨rfl, rfl⟩))
        go_ret2
        exact ⟨rfl, below_alloc (Below.refl _ _) _⟩
      | true =>
        by_cases hl : 32768 < b.size
        · have he : printE k f t b = 3 := by unfold printE; rw [hk, hf, ht]; simp [hl]
          have hs : printS k f t b = ⟨#[]⟩ := by unfold printS; rw [he]; rfl
          rw [he, hs]
          have hd : decide (32768 < (b.size : Int)) = true := by simp; omega
          clear he hs
          go_enter Try.func29, Try.ntmps29
          go_wp2_with (first | (go_at_call 54; refine (kind_any _ _).mono ?_; rintro e w' ⟨rfl, rfl⟩) | (go_at_call 55; refine (proc_any _ _).mono ?_; rintro e w' ⟨rfl, rfl⟩))
          go_ret2
          exact ⟨rfl, below_alloc (Below.refl _ _) _⟩
        · have he : printE k f t b = 0 := by unfold printE; rw [hk, hf, ht]; simp [hl]
          have hs : printS k f t b = frameB k f t b := by unfold printS; rw [if_pos he]
          rw [he, hs]
          have hd : decide (32768 < (b.size : Int)) = false := by simp; omega
          have b1 := byteOf_int k
          have b2 := byteOf_int f
          have b3 := byteOf_int t
          have H : ∀ l : List UInt8, l = headL k f t b.size → sealB (⟨l.toArray⟩ ++ b) = frameB k f t b := fun l h => by rw [h]; rfl
          have HH := Lib.hid H
          have hz : (headL k f t b.size).length = 7 := by unfold headL; simp [NumM.be_length]
          clear he hs H
          go_enter Try.func29, Try.ntmps29
          go_wp2_with (first | (go_at_call 54; refine (kind_any _ _).mono ?_; rintro e w' ⟨rfl, rfl⟩) | (go_at_call 55; refine (proc_any _ _).mono ?_; rintro e w' ⟨rfl, rfl⟩))
          refine (put_head _ 197 1 (byteOf k) (byteOf f) (byteOf t) b.size _ (five_rd _ _ _ _ _ _ _ (cell_top (by simp) rfl) (cell_top (by simp) rfl) (cell_top (by simp) rfl) (cell_top (by simp) rfl) (cell_top (by simp) rfl)) (by omega)).mono ?_
          rintro e w1 ⟨K, rfl, hown, hb1⟩
          have hcv := hown.convert' 7 (by simp [NumM.be_length])
          have hc3 : w1.cell? ⟨w.heap.size, 3, none⟩ = some (.string b) := cell_keep (by simp) hb1
          have hbl := below_step (below_alloc (below_alloc (Below.refl _ _) _) _) hb1
          have hsz : (⟨([197, 1, byteOf k, byteOf f, byteOf t] ++ NumM.be 2 b.size).toArray⟩ : ByteArray).size = 7 := by rw [← size_data]; simp [NumM.be_length]
          have HF := Lib.hid (HH.out ([197, 1, byteOf k, byteOf f, byteOf t] ++ NumM.be 2 b.size) rfl)
          generalize (⟨([197, 1, byteOf k, byteOf f, byteOf t] ++ NumM.be 2 b.size).toArray⟩ : ByteArray) = h7 at *
          clear hown hb1 b1 b2 b3 hk hf ht hz
          have hl7 : ¬ 9223372036854775807 < 7 + b.size := by omega
          go_wp2_with fail
          refine (seal_any _ _ (by rw [ByteArray.size_append]; omega)).mono ?_
          rintro e w2 ⟨rfl, hb2⟩
          go_wp2_with fail
          go_ret2
          exact ⟨by rw [← HF.out]; rfl, below_step hbl hb2⟩
end Go.Proofs.Ythkfgjdbgnbjkaa
namespace Go.Proofs.Ythkfgjdbgnbjkaa
open Go.RowKit
set_option linter.unusedSimpArgs false
set_option linter.unusedVariables false

/-- a frame in a block of the call's own. -/
structure Frm (w : World) (g : Nat) (a b c : Int) (s : ByteArray) : Prop where
  c0 : w.cell? ⟨g, 0, none⟩ = some (.int .i64 a)
  c1 : w.cell? ⟨g, 1, none⟩ = some (.int .i64 b)
  c2 : w.cell? ⟨g, 2, none⟩ = some (.int .i64 c)
  c3 : w.cell? ⟨g, 3, none⟩ = some (.string s)
  z0 : w.frozen? ⟨g, 0, none⟩ = false
  z1 : w.frozen? ⟨g, 1, none⟩ = false
  z2 : w.frozen? ⟨g, 2, none⟩ = false
  z3 : w.frozen? ⟨g, 3, none⟩ = false
theorem Frm.lt {w : World} {g : Nat} {a b c : Int} {s : ByteArray} (h : Frm w g a b c s) : g < w.heap.size := World.block_lt_of_cell? w _ h.c0
theorem Frm.of_block {w w' : World} {g : Nat} {a b c : Int} {s : ByteArray} (h : Frm w g a b c s) (e : w'.heap[g]? = w.heap[g]?) : Frm w' g a b c s := by
  have hc : ∀ j, w'.cell? ⟨g, j, none⟩ = w.cell? ⟨g, j, none⟩ := fun j => World.cell?_of_block e
  have hz : ∀ j, w'.frozen? ⟨g, j, none⟩ = w.frozen? ⟨g, j, none⟩ := fun j => World.frozen?_of_block e
  exact ⟨by rw [hc]; exact h.c0, by rw [hc]; exact h.c1, by rw [hc]; exact h.c2, by rw [hc]; exact h.c3, by rw [hz]; exact h.z0, by rw [hz]; exact h.z1, by rw [hz]; exact h.z2, by rw [hz]; exact h.z3⟩
theorem Frm.kept {w w' : World} {g : Nat} {a b c : Int} {s : ByteArray} (h : Frm w g a b c s) (hb : Below w.heap.size w w') : Frm w' g a b c s := h.of_block (hb.block g h.lt)
theorem Frm.only {w w' : World} {g k : Nat} {a b c : Int} {s : ByteArray} (h : Frm w g a b c s) (ho : Only k w w') (hk : g ≠ k) : Frm w' g a b c s :=
  h.of_block (ho.block g h.lt (fun e => hk (Option.some.inj e)))

theorem byAt_lt (t : ByteArray) (i : Nat) : byAt t i < 256 := UInt8.toNat_lt _
theorem one_at (t : ByteArray) (p : Nat) (h : p < t.size) : NumM.val ((t.data.toList.drop p).take 1) = byAt t p := by
  rw [val_one _ _ (by rw [size_data]; exact h)]; rfl

def FR.vals (r : FR) : Value := .tuple #[.agg #[.int .i64 r.k, .int .i64 r.f, .int .i64 r.t, .string r.b], .int .i64 r.e]

set_option maxHeartbeats 400000 in
theorem parse_short (s : ByteArray) (w : World) (h : s.size < 11) :
    Calls Try.prog 31 #[.string s] w fun e w' => e = .returned (parseF s).vals ∧ Below w.heap.size w w' := by
  have hr : parseF s = .bad 2 := by unfold parseF; rw [if_pos h]
  rw [hr]
  have hd : decide ((s.size : Int) < 11) = true := by simp; omega
  clear hr
  go_enter Try.func31, Try.ntmps31
  go_wp2
  exact bodyPost_ret (v := (FR.bad 2).vals) (by simp [FR.bad, FR.vals, results, Try.results31, go_sem]) rfl ⟨rfl, below_alloc (Below.refl _ _) _⟩

set_option maxHeartbeats 400000 in
theorem parse_sum (s : ByteArray) (w : World) (h : 11 ≤ s.size) (hm : s.size ≤ 1000004) (ho : openOk s = false) :
    Calls Try.prog 31 #[.string s] w fun e w' => e = .returned (parseF s).vals ∧ Below w.heap.size w w' := by
  have hr : parseF s = .bad 8 := by unfold parseF; rw [if_neg (by omega), if_pos ho]
  rw [hr]
  have hd : decide ((s.size : Int) < 11) = false := by simp; omega
  clear hr
  go_enter Try.func31, Try.ntmps31
  go_wp2_with fail
  refine (open_any _ _ hm).mono ?_
  rw [ho]
  rintro e w1 ⟨rfl, hb1⟩
  have hf : Frm w1 w.heap.size 0 0 0 ⟨#[]⟩ := Frm.kept ⟨by simp, by simp, by simp, by simp, by simp, by simp, by simp, by simp⟩ hb1
  obtain ⟨c0, c1, c2, c3, z0, z1, z2, z3⟩ := hf
  go_wp2_with fail
  refine bodyPost_ret (v := (FR.bad 8).vals) (by simp [FR.bad, FR.vals, results, Try.results31, go_sem, c0, c1, c2, c3]) rfl ⟨rfl, ?_⟩
  exact ((((below_step (below_alloc (Below.refl _ _) _) hb1).setCell (Nat.le_refl _) _).setCell (Nat.le_refl _) _).setCell (Nat.le_refl _) _).setCell (Nat.le_refl _) _

set_option maxHeartbeats 4000000 in
theorem parse_open (s : ByteArray) (w : World) (h : 11 ≤ s.size) (hm : s.size ≤ 1000004) (ho : openOk s = true) :
    Calls Try.prog 31 #[.string s] w fun e w' => e = .returned (parseF s).vals ∧ Below w.heap.size w w' := by
  have hr : parseF s = parseT (openB s) := by unfold parseF; rw [if_neg (by omega), ho, if_neg (by simp)]
  have hts := openB_size s ho
  rw [hr]
  clear hr
  have hd : decide ((s.size : Int) < 11) = false := by simp; omega
  generalize hT : openB s = t at *
  have HT := Lib.hid hT
  clear hT
  have ht7 : 7 ≤ t.size := by omega
  have htm : t.size ≤ maxLen := by unfold maxLen; omega
  go_enter Try.func31, Try.ntmps31
  go_wp2_with fail
  refine (open_any _ _ hm).mono ?_
  rw [ho, HT.out]
  rintro e w1 ⟨rfl, hb1⟩
  have hf1 : Frm w1 w.heap.size 0 0 0 ⟨#[]⟩ := Frm.kept ⟨by simp, by simp, by simp, by simp, by simp, by simp, by simp, by simp⟩ hb1
  have hbl1 := below_step (below_alloc (Below.refl w.heap.size w) _) hb1
  go_wp2_with fail
  refine (new_any t w1).mono ?_
  rintro e w2 ⟨rfl, hr2, hb2⟩
  have hf2 := hf1.kept hb2
  have hbl2 := below_step hbl1 hb2
  have hne : w.heap.size ≠ w1.heap.size := by have := hf1.lt; omega
  have hle := hbl1.size
  generalize w1.heap.size = g at *
  generalize hK0 : w.heap.size = K0 at *
  have HK0 := Lib.hid hK0
  clear hK0 hf1 hbl1 hb1 hb2 w1
  go_wp2_with fail
  refine (num_ok g t 0 1 _ hr2 htm (by omega) (by omega)).mono ?_
  rw [one_at t 0 (by omega)]
  have q0 : byAt t 0 < 256 := byAt_lt t 0
  generalize hB0 : byAt t 0 = b0 at *
  have HB0 := Lib.hid hB0
  clear hB0
  rintro e w3 ⟨rfl, hr3, ho3⟩
  have hf3 := hf2.only ho3 hne
  have hbl3 := ho3.below hbl2 (Nat.le_of_lt hf2.lt) hle
  clear hr2 ho3 hf2 hbl2
  go_wp2_with fail
  refine (num_ok g t 1 1 _ hr3 htm (by omega) (by omega)).mono ?_
  rw [one_at t 1 (by omega)]
  have q1 : byAt t 1 < 256 := byAt_lt t 1
  generalize hB1 : byAt t 1 = b1 at *
  have HB1 := Lib.hid hB1
  clear hB1
  rintro e w4 ⟨rfl, hr4, ho4⟩
  have hf4 := hf3.only ho4 hne
  have hbl4 := ho4.below hbl3 (Nat.le_of_lt hf3.lt) hle
  clear hr3 ho4 hf3 hbl3
  go_wp2_with fail
  refine (num_ok g t 2 1 _ hr4 htm (by omega) (by omega)).mono ?_
  rw [one_at t 2 (by omega)]
  have q2 : byAt t 2 < 256 := byAt_lt t 2
  generalize hB2 : byAt t 2 = b2 at *
  have HB2 := Lib.hid hB2
  clear hB2
  rintro e w5 ⟨rfl, hr5, ho5⟩
  have hf5 := hf4.only ho5 hne
  have hbl5 := ho5.below hbl4 (Nat.le_of_lt hf4.lt) hle
  clear hr4 ho5 hf4 hbl4
  go_wp2_with fail
  refine (num_ok g t 3 1 _ hr5 htm (by omega) (by omega)).mono ?_
  rw [one_at t 3 (by omega)]
  have q3 : byAt t 3 < 256 := byAt_lt t 3
  generalize hB3 : byAt t 3 = b3 at *
  have HB3 := Lib.hid hB3
  clear hB3
  rintro e w6 ⟨rfl, hr6, ho6⟩
  have hf6 := hf5.only ho6 hne
  have hbl6 := ho6.below hbl5 (Nat.le_of_lt hf5.lt) hle
  clear hr5 ho6 hf5 hbl5
  go_wp2_with fail
  refine (num_ok g t 4 1 _ hr6 htm (by omega) (by omega)).mono ?_
  rw [one_at t 4 (by omega)]
  have q4 : byAt t 4 < 256 := byAt_lt t 4
  generalize hB4 : byAt t 4 = b4 at *
  have HB4 := Lib.hid hB4
  clear hB4
  rintro e w7 ⟨rfl, hr7, ho7⟩
  have hf7 := hf6.only ho7 hne
  have hbl7 := ho7.below hbl6 (Nat.le_of_lt hf6.lt) hle
  clear hr6 ho7 hf6 hbl6
  go_wp2_with fail
  have hr8 := hr7.kept (below_alloc (Below.refl w7.heap.size w7) (.cells #[.int .i64 (b2 : Int), .int .i64 (b3 : Int), .int .i64 (b4 : Int), .string ⟨#[]⟩] 37))
  have hf8 := hf7.kept (below_alloc (Below.refl w7.heap.size w7) (.cells #[.int .i64 (b2 : Int), .int .i64 (b3 : Int), .int .i64 (b4 : Int), .string ⟨#[]⟩] 37))
  have hk8 : Frm (w7.alloc (.cells #[.int .i64 (b2 : Int), .int .i64 (b3 : Int), .int .i64 (b4 : Int), .string ⟨#[]⟩] 37)) w7.heap.size b2 b3 b4 ⟨#[]⟩ := ⟨by simp, by simp, by simp, by simp, by simp, by simp, by simp, by simp⟩
  have hbl8 := hbl7.alloc (Nat.le_of_lt hf7.lt) (.cells #[.int .i64 (b2 : Int), .int .i64 (b3 : Int), .int .i64 (b4 : Int), .string ⟨#[]⟩] 37)
  have hgK : w7.heap.size ≠ g := by have := World.block_lt_of_cell? w7 _ hr7.1; simp at this; omega
  have hKK : w7.heap.size ≠ K0 := by have := hf7.lt; omega
  have hKle : K0 ≤ w7.heap.size := Nat.le_of_lt hf7.lt
  generalize w7.alloc (.cells #[.int .i64 (b2 : Int), .int .i64 (b3 : Int), .int .i64 (b4 : Int), .string ⟨#[]⟩] 37) = w8 at *
  generalize w7.heap.size = K1 at *
  clear hr7 hf7 hbl7 w7
  refine (num_ok g t 5 2 _ hr8 htm (by omega) (by omega)).mono ?_
  have hn : NumM.val ((t.data.toList.drop 5).take 2) < 65536 := NumM.val_take_lt _ 2 (by rw [List.length_take]; omega)
  generalize hN : NumM.val ((t.data.toList.drop 5).take 2) = n at *
  have HN := Lib.hid hN
  clear hN
  rintro e w9 ⟨rfl, hr9, ho9⟩
  have hf9 := hf8.only ho9 hne
  have hk9 := hk8.only ho9 hgK
  have hbl9 := ho9.below hbl8 (Nat.le_of_lt hf8.lt) hle
  clear hr8 ho9 hf8 hbl8 hk8 w8
  go_wp2_with fail
  refine (left_any g t 7 _ hr9 htm ht7).mono ?_
  rintro e w10 ⟨rfl, nd, rfl⟩
  go_wp2_with fail
  refine (text_ok g t 7 (t.size - 7) _ (hr9.drewN nd) htm (by omega)).mono ?_
  rw [show 7 + (t.size - 7) = t.size from by omega]
  rintro e w11 ⟨rfl, hr11, ho11⟩
  have hf11 := (hf9.kept (below_drewN (Below.refl _ _) nd)).only ho11 hne
  have hk11 := (hk9.kept (below_drewN (Below.refl _ _) nd)).only ho11 hgK
  have hbl11 := ho11.below (below_drewN hbl9 nd) (Nat.le_of_lt hf9.lt) hle
  clear hr9 ho11 hf9 hbl9 hk9 hr11 w9
  have hts2 : (t.extract 7 t.size).size = t.size - 7 := by rw [ByteArray.size_extract]; omega
  generalize hBD : t.extract 7 t.size = body at *
  have HBD := Lib.hid hBD
  clear hBD
  obtain ⟨f0, f1, f2, f3, y0, y1, y2, y3⟩ := hf11
  obtain ⟨k0, k1, k2, k3, x0, x1, x2, x3⟩ := hk11
  have hKK' : K0 ≠ K1 := Ne.symm hKK
  have hPT : parseT t = parseC b0 b1 b2 b3 b4 n (t.size - 7) body := by
    unfold parseT
    rw [HB0.out, HB1.out, HB2.out, HB3.out, HB4.out, HN.out, HBD.out]
  have HPT := Lib.hid hPT
  clear hPT
  by_cases e0 : b0 = 197
  · by_cases e1 : b1 = 1
    · cases e2 : kindOk (b2 : Int) with
      | false =>
        have hP : parseC b0 b1 b2 b3 b4 n (t.size - 7) body = .bad 10 := by unfold parseC; rw [if_neg (by omega), if_neg (by omega), if_pos e2]
        have d0 : ((b0 : Int) != 197) = false := by simp; omega
        have d1 : ((b1 : Int) != 1) = false := by simp; omega
        clear e0 e1
        have HP := Lib.hid hP
        clear hP
        go_wp2_with (first | (go_at_call 54; refine (kind_any _ _).mono ?_; rintro e w' ⟨rfl, rfl⟩) | (go_at_call 55; refine (proc_any _ _).mono ?_; rintro e w' ⟨rfl, rfl⟩))
        rw [HPT.out, HP.out, HK0.out]
        refine bodyPost_ret (v := (FR.bad 10).vals) (by simp [FR.bad, FR.vals, results, Try.results31, go_sem, f0, f1, f2, f3, k0, k1, k2, k3, hKK, hKK']) rfl ⟨rfl, ?_⟩
        exact (((((hbl11.setCell hKle _).setCell (Nat.le_refl _) _).setCell (Nat.le_refl _) _).setCell (Nat.le_refl _) _).setCell (Nat.le_refl _) _)
      | true =>
        cases e3 : procOk (b3 : Int) with
        | false =>
          have hP : parseC b0 b1 b2 b3 b4 n (t.size - 7) body = .bad 1 := by unfold parseC; rw [if_neg (by omega), if_neg (by omega), e2, e3]; rfl
          have d0 : ((b0 : Int) != 197) = false := by simp; omega
          have d1 : ((b1 : Int) != 1) = false := by simp; omega
          clear e0 e1
          have HP := Lib.hid hP
          clear hP
          go_wp2_with (first | (go_at_call 54; refine (kind_any _ _).mono ?_; rintro e w' ⟨rfl, rfl⟩) | (go_at_call 55; refine (proc_any _ _).mono ?_; rintro e w' ⟨rfl, rfl⟩))
          rw [HPT.out, HP.out, HK0.out]
          refine bodyPost_ret (v := (FR.bad 1).vals) (by simp [FR.bad, FR.vals, results, Try.results31, go_sem, f0, f1, f2, f3, k0, k1, k2, k3, hKK, hKK']) rfl ⟨rfl, ?_⟩
          exact (((((hbl11.setCell hKle _).setCell (Nat.le_refl _) _).setCell (Nat.le_refl _) _).setCell (Nat.le_refl _) _).setCell (Nat.le_refl _) _)
        | true =>
          cases e4 : procOk (b4 : Int) with
          | false =>
            have hP : parseC b0 b1 b2 b3 b4 n (t.size - 7) body = .bad 1 := by unfold parseC; rw [if_neg (by omega), if_neg (by omega), e2, e3, e4]; rfl
            have d0 : ((b0 : Int) != 197) = false := by simp; omega
            have d1 : ((b1 : Int) != 1) = false := by simp; omega
            clear e0 e1
            have HP := Lib.hid hP
            clear hP
            go_wp2_with (first | (go_at_call 54; refine (kind_any _ _).mono ?_; rintro e w' ⟨rfl, rfl⟩) | (go_at_call 55; refine (proc_any _ _).mono ?_; rintro e w' ⟨rfl, rfl⟩))
            rw [HPT.out, HP.out, HK0.out]
            refine bodyPost_ret (v := (FR.bad 1).vals) (by simp [FR.bad, FR.vals, results, Try.results31, go_sem, f0, f1, f2, f3, k0, k1, k2, k3, hKK, hKK']) rfl ⟨rfl, ?_⟩
            exact (((((hbl11.setCell hKle _).setCell (Nat.le_refl _) _).setCell (Nat.le_refl _) _).setCell (Nat.le_refl _) _).setCell (Nat.le_refl _) _)
          | true =>
            by_cases e5 : 32768 < t.size - 7
            ·
              have hP : parseC b0 b1 b2 b3 b4 n (t.size - 7) body = .bad 3 := by unfold parseC; rw [if_neg (by omega), if_neg (by omega), e2, e3, e4]; simp [e5]
              have d0 : ((b0 : Int) != 197) = false := by simp; omega
              have d1 : ((b1 : Int) != 1) = false := by simp; omega
              have d5 : decide (32768 < (((t.size - 7 : Nat)) : Int)) = true := by simp; omega
              clear e0 e1 e5
              have HP := Lib.hid hP
              clear hP
              go_wp2_with (first | (go_at_call 54; refine (kind_any _ _).mono ?_; rintro e w' ⟨rfl, rfl⟩) | (go_at_call 55; refine (proc_any _ _).mono ?_; rintro e w' ⟨rfl, rfl⟩))
              rw [HPT.out, HP.out, HK0.out]
              refine bodyPost_ret (v := (FR.bad 3).vals) (by simp [FR.bad, FR.vals, results, Try.results31, go_sem, f0, f1, f2, f3, k0, k1, k2, k3, hKK, hKK']) rfl ⟨rfl, ?_⟩
              exact (((((hbl11.setCell hKle _).setCell (Nat.le_refl _) _).setCell (Nat.le_refl _) _).setCell (Nat.le_refl _) _).setCell (Nat.le_refl _) _)
            · by_cases e6 : t.size - 7 = n
              ·
                have hP : parseC b0 b1 b2 b3 b4 n (t.size - 7) body = ⟨b2, b3, b4, body, 0⟩ := by unfold parseC; rw [if_neg (by omega), if_neg (by omega), e2, e3, e4]; simp [e6]; omega
                have d0 : ((b0 : Int) != 197) = false := by simp; omega
                have d1 : ((b1 : Int) != 1) = false := by simp; omega
                have d5 : decide (32768 < (((t.size - 7 : Nat)) : Int)) = false := by simp; omega
                have d6 : ((((t.size - 7 : Nat)) : Int) != (n : Int)) = false := by simp; omega
                clear e0 e1 e5 e6
                have HP := Lib.hid hP
                clear hP
                go_wp2_with (first | (go_at_call 54; refine (kind_any _ _).mono ?_; rintro e w' ⟨rfl, rfl⟩) | (go_at_call 55; refine (proc_any _ _).mono ?_; rintro e w' ⟨rfl, rfl⟩))
                rw [HPT.out, HP.out, HK0.out]
                refine bodyPost_ret (v := (⟨b2, b3, b4, body, 0⟩ : FR).vals) (by simp [FR.bad, FR.vals, results, Try.results31, go_sem, f0, f1, f2, f3, k0, k1, k2, k3, hKK, hKK']) rfl ⟨rfl, ?_⟩
                exact (((((hbl11.setCell hKle _).setCell (Nat.le_refl _) _).setCell (Nat.le_refl _) _).setCell (Nat.le_refl _) _).setCell (Nat.le_refl _) _)
              ·
                have hP : parseC b0 b1 b2 b3 b4 n (t.size - 7) body = .bad 3 := by unfold parseC; rw [if_neg (by omega), if_neg (by omega), e2, e3, e4]; simp [e6]
                have d0 : ((b0 : Int) != 197) = false := by simp; omega
                have d1 : ((b1 : Int) != 1) = false := by simp; omega
                have d5 : decide (32768 < (((t.size - 7 : Nat)) : Int)) = false := by simp; omega
                have d6 : ((((t.size - 7 : Nat)) : Int) != (n : Int)) = true := by simp; omega
                clear e0 e1 e5 e6
                have HP := Lib.hid hP
                clear hP
                go_wp2_with (first | (go_at_call 54; refine (kind_any _ _).mono ?_; rintro e w' ⟨rfl, rfl⟩) | (go_at_call 55; refine (proc_any _ _).mono ?_; rintro e w' ⟨rfl, rfl⟩))
                rw [HPT.out, HP.out, HK0.out]
                refine bodyPost_ret (v := (FR.bad 3).vals) (by simp [FR.bad, FR.vals, results, Try.results31, go_sem, f0, f1, f2, f3, k0, k1, k2, k3, hKK, hKK']) rfl ⟨rfl, ?_⟩
                exact (((((hbl11.setCell hKle _).setCell (Nat.le_refl _) _).setCell (Nat.le_refl _) _).setCell (Nat.le_refl _) _).setCell (Nat.le_refl _) _)
    ·
      have hP : parseC b0 b1 b2 b3 b4 n (t.size - 7) body = .bad 9 := by unfold parseC; rw [if_neg (by omega), if_pos e1]
      have d0 : ((b0 : Int) != 197) = false := by simp; omega
      have d1 : ((b1 : Int) != 1) = true := by simp; omega
      clear e0 e1
      have HP := Lib.hid hP
      clear hP
      go_wp2_with (first | (go_at_call 54; refine (kind_any _ _).mono ?_; rintro e w' ⟨rfl, rfl⟩) | (go_at_call 55; refine (proc_any _ _).mono ?_; rintro e w' ⟨rfl, rfl⟩))
      rw [HPT.out, HP.out, HK0.out]
      refine bodyPost_ret (v := (FR.bad 9).vals) (by simp [FR.bad, FR.vals, results, Try.results31, go_sem, f0, f1, f2, f3, k0, k1, k2, k3, hKK, hKK']) rfl ⟨rfl, ?_⟩
      exact (((((hbl11.setCell hKle _).setCell (Nat.le_refl _) _).setCell (Nat.le_refl _) _).setCell (Nat.le_refl _) _).setCell (Nat.le_refl _) _)
  ·
    have hP : parseC b0 b1 b2 b3 b4 n (t.size - 7) body = .bad 4 := by unfold parseC; rw [if_pos e0]
    have d0 : ((b0 : Int) != 197) = true := by simp; omega
    clear e0
    have HP := Lib.hid hP
    clear hP
    go_wp2_with (first | (go_at_call 54; refine (kind_any _ _).mono ?_; rintro e w' ⟨rfl, rfl⟩) | (go_at_call 55; refine (proc_any _ _).mono ?_; rintro e w' ⟨rfl, rfl⟩))
    rw [HPT.out, HP.out, HK0.out]
    refine bodyPost_ret (v := (FR.bad 4).vals) (by simp [FR.bad, FR.vals, results, Try.results31, go_sem, f0, f1, f2, f3, k0, k1, k2, k3, hKK, hKK']) rfl ⟨rfl, ?_⟩
    exact (((((hbl11.setCell hKle _).setCell (Nat.le_refl _) _).setCell (Nat.le_refl _) _).setCell (Nat.le_refl _) _).setCell (Nat.le_refl _) _)

end Go.Proofs.Ythkfgjdbgnbjkaa
namespace Go.Proofs.Ythkfgjdbgnbjkaa
open Go.RowKit
set_option linter.unusedSimpArgs false
set_option linter.unusedVariables false

theorem RdB.convert {w : World} {g c : Nat} {l : List UInt8} (h : RdB w (some ⟨g, 0, none⟩) c l) (n : Nat) (hn : l.length = n) :
    (Go.convert 30 9 (.slice (some ⟨g, 0, none⟩) n c)).run Try.prog w = .ok (.string ⟨l.toArray⟩) w := by
  subst hn
  have := run_convert_bytes_arg (P := Try.prog) w 30 5 Try.underlying30 Try.underlying5 g 0 l.length c (l.map fun b => (b.toNat : Int)) (by simp) (fun i hi => by
    have h1 := h.2 _ rfl i (.int .u8 ((l.getD i 0).toNat : Int)) (by simp [bvals, List.getD, List.getElem?_eq_getElem hi])
    rw [Addr.add_lit] at h1
    rw [h1]
    simp [List.getD, List.getElem?_eq_getElem hi]) 9 Try.underlying9
  rw [strOf_bytes] at this
  exact this

theorem printE_kind {k f t : Int} {b : ByteArray} (h : k < 1 ∨ 11 < k) : printE k f t b = 10 := by
  have hk : kindOk k = false := by unfold kindOk; rcases h with h | h <;> simp <;> omega
  unfold printE; rw [if_pos hk]
theorem printE_range {k f t : Int} {b : ByteArray} (h1 : 1 ≤ k) (h2 : k ≤ 11) (h : f < 0 ∨ 63 < f ∨ t < 0 ∨ 63 < t) : printE k f t b = 1 := by
  have hk : kindOk k = true := by unfold kindOk; simp; omega
  have hp : (procOk f && procOk t) = false := by
    unfold procOk
    rcases h with h | h | h | h <;> simp <;> omega
  unfold printE; rw [hk, if_neg (by simp), if_pos hp]
theorem printE_rest {k f t : Int} {b : ByteArray} (h1 : 1 ≤ k) (h2 : k ≤ 11) (h3 : 0 ≤ f) (h4 : f ≤ 63) (h5 : 0 ≤ t) (h6 : t ≤ 63) : printE k f t b = if 32768 < b.size then 3 else 0 := by
  have hk : kindOk k = true := by unfold kindOk; simp; omega
  have hp : (procOk f && procOk t) = true := by unfold procOk; simp; omega
  unfold printE; rw [hk, if_neg (by simp), hp, if_neg (by simp)]
theorem printS_no {k f t : Int} {b : ByteArray} {n : Int} (h : printE k f t b = n) (hn : n ≠ 0) : printS k f t b = ⟨#[]⟩ := by unfold printS; rw [if_neg (by omega)]
theorem printS_yes {k f t : Int} {b : ByteArray} (h : printE k f t b = 0) : printS k f t b = frameB k f t b := by unfold printS; rw [if_pos h]

theorem ret_pr {s s' : ByteArray} {n n' : Int} (h : s = s') (h' : n = n') : Ending.returned (.tuple #[.string s, .int .i64 n]) = .returned (.tuple #[.string s', .int .i64 n']) := by rw [h, h']

set_option maxHeartbeats 800000 in
theorem rprint_bad (k f t : Int) (b : ByteArray) (w : World) (h : (k < 1 ∨ 11 < k) ∨ (1 ≤ k ∧ k ≤ 11 ∧ (f < 0 ∨ 63 < f ∨ t < 0 ∨ 63 < t)) ∨ (1 ≤ k ∧ k ≤ 11 ∧ 0 ≤ f ∧ f ≤ 63 ∧ 0 ≤ t ∧ t ≤ 63 ∧ 32768 < b.size)) :
    Calls Try.prog 30 #[.int .i64 k, .int .i64 f, .int .i64 t, .string b] w fun e w' => e = .returned (.tuple #[.string (printS k f t b), .int .i64 (printE k f t b)]) ∧ Below w.heap.size w w' := by
  rcases h with h | ⟨h1, h2, h⟩ | ⟨h1, h2, h3, h4, h5, h6, h⟩
  · rw [printS_no (printE_kind h) (by decide), printE_kind h]
    rcases h with h | h
    · have hd : decide (k < 1) = true := by simpa using h
      go_enter Try.func30, Try.ntmps30
      go_wp2
      go_ret2
      exact ⟨rfl, Below.refl _ _⟩
    · have hd : decide (k < 1) = false := by simp; omega
      have hd2 : decide (11 < k) = true := by simpa using h
      go_enter Try.func30, Try.ntmps30
      go_wp2
      go_ret2
      exact ⟨rfl, Below.refl _ _⟩
  · rw [printS_no (printE_range h1 h2 h) (by decide), printE_range h1 h2 h]
    have hd : decide (k < 1) = false := by simp; omega
    have hd2 : decide (11 < k) = false := by simp; omega
    by_cases a1 : f < 0
    · have hd3 : decide (f < 0) = true := by simpa using a1
      clear h
      go_enter Try.func30, Try.ntmps30
      go_wp2
      go_ret2
      exact ⟨rfl, Below.refl _ _⟩
    · have hd3 : decide (f < 0) = false := by simpa using a1
      by_cases a2 : 63 < f
      · have hd4 : decide (63 < f) = true := by simpa using a2
        clear h
        go_enter Try.func30, Try.ntmps30
        go_wp2
        go_ret2
        exact ⟨rfl, Below.refl _ _⟩
      · have hd4 : decide (63 < f) = false := by simpa using a2
        by_cases a3 : t < 0
        · have hd5 : decide (t < 0) = true := by simpa using a3
          clear h
          go_enter Try.func30, Try.ntmps30
          go_wp2
          go_ret2
          exact ⟨rfl, Below.refl _ _⟩
        · have hd5 : decide (t < 0) = false := by simpa using a3
          have hd6 : decide (63 < t) = true := by simp; omega
          clear h
          go_enter Try.func30, Try.ntmps30
          go_wp2
          go_ret2
          exact ⟨rfl, Below.refl _ _⟩
  · have he : printE k f t b = 3 := by rw [printE_rest h1 h2 h3 h4 h5 h6, if_pos h]
    rw [printS_no he (by decide), he]
    have hd : decide (k < 1) = false := by simp; omega
    have hd2 : decide (11 < k) = false := by simp; omega
    have hd3 : decide (f < 0) = false := by simp; omega
    have hd4 : decide (63 < f) = false := by simp; omega
    have hd5 : decide (t < 0) = false := by simp; omega
    have hd6 : decide (63 < t) = false := by simp; omega
    have hd7 : decide (32768 < (b.size : Int)) = true := by simp; omega
    clear he
    go_enter Try.func30, Try.ntmps30
    go_wp2
    go_ret2
    exact ⟨rfl, Below.refl _ _⟩

set_option maxHeartbeats 800000 in
theorem rprint_good (k f t : Int) (b : ByteArray) (w : World) (h1 : 1 ≤ k) (h2 : k ≤ 11) (h3 : 0 ≤ f) (h4 : f ≤ 63) (h5 : 0 ≤ t) (h6 : t ≤ 63) (h7 : ¬ 32768 < b.size) :
    Calls Try.prog 30 #[.int .i64 k, .int .i64 f, .int .i64 t, .string b] w fun e w' => e = .returned (.tuple #[.string (printS k f t b), .int .i64 (printE k f t b)]) ∧ Below w.heap.size w w' := by
  have he : printE k f t b = 0 := by rw [printE_rest h1 h2 h3 h4 h5 h6, if_neg h7]
  rw [printS_yes he, he]
  have hd : decide (k < 1) = false := by simp; omega
  have hd2 : decide (11 < k) = false := by simp; omega
  have hd3 : decide (f < 0) = false := by simp; omega
  have hd4 : decide (63 < f) = false := by simp; omega
  have hd5 : decide (t < 0) = false := by simp; omega
  have hd6 : decide (63 < t) = false := by simp; omega
  have hd7 : decide (32768 < (b.size : Int)) = false := by simp; omega
  have b1 := byteOf_int k
  have b2 := byteOf_int f
  have b3 := byteOf_int t
  have hcv := (five_rd (w.alloc (.cells #[.int .u8 ((197 : UInt8).toNat : Int), .int .u8 ((1 : UInt8).toNat : Int), .int .u8 ((byteOf k).toNat : Int), .int .u8 ((byteOf f).toNat : Int), .int .u8 ((byteOf t).toNat : Int)] 5)) w.heap.size 197 1 (byteOf k) (byteOf f) (byteOf t)
    (cell_top rfl rfl) (cell_top rfl rfl) (cell_top rfl rfl) (cell_top rfl rfl) (cell_top rfl rfl)).convert 5 rfl
  have hcv' : (Go.convert 30 9 (.slice (some ⟨w.heap.size, 0, none⟩) 5 5)).run Try.prog (w.alloc (.cells #[.int .u8 197, .int .u8 1, .int .u8 ((byteOf k).toNat : Int), .int .u8 ((byteOf f).toNat : Int), .int .u8 ((byteOf t).toNat : Int)] 5)) = .ok (.string ⟨[197, 1, byteOf k, byteOf f, byteOf t].toArray⟩) (w.alloc (.cells #[.int .u8 197, .int .u8 1, .int .u8 ((byteOf k).toNat : Int), .int .u8 ((byteOf f).toNat : Int), .int .u8 ((byteOf t).toNat : Int)] 5)) := hcv
  have hF : ∀ x : ByteArray, x = ⟨[197, 1, byteOf k, byteOf f, byteOf t].toArray⟩ → sealB (x ++ ⟨(NumM.be 2 b.size).toArray⟩ ++ b) = frameB k f t b := fun x h => by
    rw [h]
    unfold frameB
    congr 2
  have hs5 : (⟨[197, 1, byteOf k, byteOf f, byteOf t].toArray⟩ : ByteArray).size = 5 := rfl
  generalize (⟨[197, 1, byteOf k, byteOf f, byteOf t].toArray⟩ : ByteArray) = x5 at hcv' hF hs5
  have HF := Lib.hid (hF x5 rfl)
  clear hcv he hF h1 h2 h3 h4 h5 h6
  have hbe : (NumM.be 2 b.size).length = 2 := NumM.be_length 2 _
  have hl7 : ¬ 9223372036854775807 < 5 + 2 + b.size := by omega
  have hl7' : ¬ 9223372036854775807 < 7 + b.size := by omega
  go_enter Try.func30, Try.ntmps30
  go_wp2_with fail
  refine (rput_any x5 b.size 2 _ (by unfold U64; omega) (by omega) (by omega)).mono ?_
  rintro e w1 ⟨rfl, hb1⟩
  have hxs : (x5 ++ ⟨(NumM.be 2 b.size).toArray⟩ : ByteArray).size = 7 := by rw [ByteArray.size_append, hs5, ← size_data (⟨(NumM.be 2 b.size).toArray⟩ : ByteArray)]; simp [hbe]
  generalize (x5 ++ ⟨(NumM.be 2 b.size).toArray⟩ : ByteArray) = x7 at *
  go_wp2_with fail
  refine (rseal_any _ _ (by rw [ByteArray.size_append]; omega)).mono ?_
  rintro e w2 ⟨rfl, hb2⟩
  go_wp2_with fail
  go_ret2
  exact ⟨by rw [← HF.out]; rfl, below_step (below_step (below_alloc (Below.refl _ _) _) hb1) hb2⟩

theorem rprint_any (k f t : Int) (b : ByteArray) (w : World) (hb : b.size ≤ 900000) :
    Calls Try.prog 30 #[.int .i64 k, .int .i64 f, .int .i64 t, .string b] w fun e w' => e = .returned (.tuple #[.string (printS k f t b), .int .i64 (printE k f t b)]) ∧ Below w.heap.size w w' := by
  by_cases h : (k < 1 ∨ 11 < k) ∨ (1 ≤ k ∧ k ≤ 11 ∧ (f < 0 ∨ 63 < f ∨ t < 0 ∨ 63 < t)) ∨ (1 ≤ k ∧ k ≤ 11 ∧ 0 ≤ f ∧ f ≤ 63 ∧ 0 ≤ t ∧ t ≤ 63 ∧ 32768 < b.size)
  · exact rprint_bad k f t b w h
  · exact rprint_good k f t b w (by omega) (by omega) (by omega) (by omega) (by omega) (by omega) (by omega)

theorem results_tmp5 {fn : Func} {t u v x y : Tmp} (h : fn.results = #[.tmp t, .tmp u, .tmp v, .tmp x, .tmp y]) (tmps : Array Value) (P : Program) (w : World) :
    (results fn tmps).run P w = .ok (.tuple #[tmps.getD t undef, tmps.getD u undef, tmps.getD v undef, tmps.getD x undef, tmps.getD y undef]) w := by simp [results, h]

/-- the reference's answer: five values. -/
def FR.five (r : FR) : Value := .tuple #[.int .i64 r.k, .int .i64 r.f, .int .i64 r.t, .string r.b, .int .i64 r.e]

set_option maxHeartbeats 400000 in
theorem rparse_short (s : ByteArray) (w : World) (h : s.size < 11) :
    Calls Try.prog 32 #[.string s] w fun e w' => e = .returned (parseF s).five ∧ Below w.heap.size w w' := by
  have hr : parseF s = .bad 2 := by unfold parseF; rw [if_pos h]
  rw [hr]
  have hd : decide ((s.size : Int) < 11) = true := by simp; omega
  clear hr
  go_enter Try.func32, Try.ntmps32
  go_wp2
  refine bodyPost_ret (results_tmp5 rfl _ _ _) rfl ?_
  exact ⟨rfl, Below.refl _ _⟩

set_option maxHeartbeats 400000 in
theorem rparse_sum (s : ByteArray) (w : World) (h : 11 ≤ s.size) (hm : s.size ≤ 1000004) (ho : openOk s = false) :
    Calls Try.prog 32 #[.string s] w fun e w' => e = .returned (parseF s).five ∧ Below w.heap.size w w' := by
  have hr : parseF s = .bad 8 := by unfold parseF; rw [if_neg (by omega), if_pos ho]
  rw [hr]
  have hd : decide ((s.size : Int) < 11) = false := by simp; omega
  clear hr
  go_enter Try.func32, Try.ntmps32
  go_wp2_with fail
  refine (ropen_any _ _ hm).mono ?_
  rw [ho]
  rintro e w1 ⟨rfl, hb1⟩
  go_wp2_with fail
  refine bodyPost_ret (results_tmp5 rfl _ _ _) rfl ?_
  exact ⟨rfl, hb1⟩

theorem get_five (t : ByteArray) (w : World) (ht : 7 ≤ t.size) (hm : t.size ≤ 1000000) :
    Calls Try.prog 62 #[.string t, .int .i64 5, .int .i64 2] w fun e w' => e = .returned (.tuple #[.int .u64 (NumM.val ((t.data.toList.drop 5).take 2) : Int), .bool true]) ∧ w = w' :=
  get_ok t 5 2 w hm (by omega) (by omega) (by omega)
theorem byAt_get (t : ByteArray) (i : Nat) (h : i < t.size) : (t[i]'h).toNat = byAt t i := by
  unfold byAt
  have hn : i < t.data.toList.length := by rw [size_data]; exact h
  simp only [List.getD, List.getElem?_eq_getElem hn, Option.getD_some]
  rfl

section
variable {b0 b1 b2 b3 b4 n m : Nat} {body : ByteArray}
theorem pc4 (a0 : b0 ≠ 197) : parseC b0 b1 b2 b3 b4 n m body = .bad 4 := by unfold parseC; rw [if_pos a0]
theorem pc9 (a0 : b0 = 197) (a1 : b1 ≠ 1) : parseC b0 b1 b2 b3 b4 n m body = .bad 9 := by unfold parseC; rw [if_neg (by omega), if_pos a1]
theorem pc10 (a0 : b0 = 197) (a1 : b1 = 1) (a2 : b2 < 1 ∨ 11 < b2) : parseC b0 b1 b2 b3 b4 n m body = .bad 10 := by
  have hk : kindOk (b2 : Int) = false := by unfold kindOk; simp; omega
  unfold parseC; rw [if_neg (by omega), if_neg (by omega), if_pos hk]
theorem kind_yes (a2 : 1 ≤ b2 ∧ b2 ≤ 11) : kindOk (b2 : Int) = true := by unfold kindOk; simp; omega
theorem pc1 (a0 : b0 = 197) (a1 : b1 = 1) (a2 : 1 ≤ b2 ∧ b2 ≤ 11) (a3 : 63 < b3 ∨ 63 < b4) : parseC b0 b1 b2 b3 b4 n m body = .bad 1 := by
  have hp : (procOk (b3 : Int) && procOk (b4 : Int)) = false := by unfold procOk; rcases a3 with h | h <;> simp <;> omega
  unfold parseC; rw [if_neg (by omega), if_neg (by omega), kind_yes a2, if_neg (by simp), if_pos hp]
theorem proc_yes (a3 : b3 ≤ 63 ∧ b4 ≤ 63) : (procOk (b3 : Int) && procOk (b4 : Int)) = true := by unfold procOk; simp; omega
theorem pc3 (a0 : b0 = 197) (a1 : b1 = 1) (a2 : 1 ≤ b2 ∧ b2 ≤ 11) (a3 : b3 ≤ 63 ∧ b4 ≤ 63) (a5 : 32768 < m ∨ m ≠ n) : parseC b0 b1 b2 b3 b4 n m body = .bad 3 := by
  unfold parseC; rw [if_neg (by omega), if_neg (by omega), kind_yes a2, if_neg (by simp), proc_yes a3, if_neg (by simp), if_pos a5]
theorem pc0 (a0 : b0 = 197) (a1 : b1 = 1) (a2 : 1 ≤ b2 ∧ b2 ≤ 11) (a3 : b3 ≤ 63 ∧ b4 ≤ 63) (a5 : m ≤ 32768 ∧ m = n) : parseC b0 b1 b2 b3 b4 n m body = ⟨b2, b3, b4, body, 0⟩ := by
  unfold parseC; rw [if_neg (by omega), if_neg (by omega), kind_yes a2, if_neg (by simp), proc_yes a3, if_neg (by simp), if_neg (by omega)]
end

set_option maxHeartbeats 4000000 in
theorem rparse_open (s : ByteArray) (w : World) (h : 11 ≤ s.size) (hm : s.size ≤ 1000004) (ho : openOk s = true) :
    Calls Try.prog 32 #[.string s] w fun e w' => e = .returned (parseF s).five ∧ Below w.heap.size w w' := by
  have hr : parseF s = parseT (openB s) := by unfold parseF; rw [if_neg (by omega), ho, if_neg (by simp)]
  have hts := openB_size s ho
  rw [hr]
  clear hr
  have hd : decide ((s.size : Int) < 11) = false := by simp; omega
  generalize hT : openB s = t at *
  have HT := Lib.hid hT
  clear hT
  have ht7 : 7 ≤ t.size := by omega
  have htm : t.size ≤ 1000000 := by omega
  have g0 := byAt_get t 0 (by omega)
  have g1 := byAt_get t 1 (by omega)
  have g2 := byAt_get t 2 (by omega)
  have g3 := byAt_get t 3 (by omega)
  have g4 := byAt_get t 4 (by omega)
  have q0 : byAt t 0 < 256 := byAt_lt t 0
  have q1 : byAt t 1 < 256 := byAt_lt t 1
  have q2 : byAt t 2 < 256 := byAt_lt t 2
  have q3 : byAt t 3 < 256 := byAt_lt t 3
  have q4 : byAt t 4 < 256 := byAt_lt t 4
  have hPT : parseT t = parseC (byAt t 0) (byAt t 1) (byAt t 2) (byAt t 3) (byAt t 4) (NumM.val ((t.data.toList.drop 5).take 2)) (t.size - 7) (t.extract 7 t.size) := rfl
  rw [hPT]
  clear hPT
  generalize byAt t 0 = b0 at *
  generalize byAt t 1 = b1 at *
  generalize byAt t 2 = b2 at *
  generalize byAt t 3 = b3 at *
  generalize byAt t 4 = b4 at *
  have hn : NumM.val ((t.data.toList.drop 5).take 2) < 65536 := NumM.val_take_lt _ 2 (by rw [List.length_take]; omega)
  have hget := fun W => get_five t W ht7 htm
  generalize NumM.val ((t.data.toList.drop 5).take 2) = n at *
  have HG := Lib.hid hget
  have hts2 : (t.extract 7 t.size).size = t.size - 7 := by rw [ByteArray.size_extract]; omega
  have hbody : t.extract 7 t.size = t.extract 7 t.size := rfl
  generalize hBD : t.extract 7 t.size = body at *
  clear hget hbody
  go_enter Try.func32, Try.ntmps32
  go_wp2_with fail
  refine (ropen_any _ _ hm).mono ?_
  rw [ho, HT.out]
  rintro e w1 ⟨rfl, hb1⟩
  go_wp2_with fail
  refine (HG.out _).mono ?_
  rintro e w2 ⟨rfl, rfl⟩
  go_wp2_with fail
  · have a0 : b0 ≠ 197 := by
      have h : (((b0 : Nat) : Int) != 197) = true := by assumption
      simp at h; omega
    rw [pc4 a0]
    refine bodyPost_ret (results_tmp5 rfl _ _ _) rfl ?_
    exact ⟨rfl, hb1⟩
  · have a0 : b0 = 197 := by
      have h : (((b0 : Nat) : Int) != 197) = false := by assumption
      simp at h; omega
    have a1 : b1 ≠ 1 := by
      have h : (((b1 : Nat) : Int) != 1) = true := by assumption
      simp at h; omega
    rw [pc9 a0 a1]
    refine bodyPost_ret (results_tmp5 rfl _ _ _) rfl ?_
    exact ⟨rfl, hb1⟩
  · have a0 : b0 = 197 := by
      have h : (((b0 : Nat) : Int) != 197) = false := by assumption
      simp at h; omega
    have a1 : b1 = 1 := by
      have h : (((b1 : Nat) : Int) != 1) = false := by assumption
      simp at h; omega
    have a2 : b2 < 1 ∨ 11 < b2 := by
      have h : ((b2 : Nat) : Int) < 1 ∨ 11 < ((b2 : Nat) : Int) := by assumption
      omega
    rw [pc10 a0 a1 a2]
    refine bodyPost_ret (results_tmp5 rfl _ _ _) rfl ?_
    exact ⟨rfl, hb1⟩
  · have a0 : b0 = 197 := by
      have h : (((b0 : Nat) : Int) != 197) = false := by assumption
      simp at h; omega
    have a1 : b1 = 1 := by
      have h : (((b1 : Nat) : Int) != 1) = false := by assumption
      simp at h; omega
    have a2 : 1 ≤ b2 ∧ b2 ≤ 11 := by
      have h : 1 ≤ ((b2 : Nat) : Int) ∧ ((b2 : Nat) : Int) ≤ 11 := by assumption
      omega
    have a3 : 63 < b3 ∨ 63 < b4 := by
      have h : 63 < ((b3 : Nat) : Int) ∨ 63 < ((b4 : Nat) : Int) := by assumption
      omega
    rw [pc1 a0 a1 a2 a3]
    refine bodyPost_ret (results_tmp5 rfl _ _ _) rfl ?_
    exact ⟨rfl, hb1⟩
  · have a0 : b0 = 197 := by
      have h : (((b0 : Nat) : Int) != 197) = false := by assumption
      simp at h; omega
    have a1 : b1 = 1 := by
      have h : (((b1 : Nat) : Int) != 1) = false := by assumption
      simp at h; omega
    have a2 : 1 ≤ b2 ∧ b2 ≤ 11 := by
      have h : 1 ≤ ((b2 : Nat) : Int) ∧ ((b2 : Nat) : Int) ≤ 11 := by assumption
      omega
    have a3 : b3 ≤ 63 ∧ b4 ≤ 63 := by
      have h : ((b3 : Nat) : Int) ≤ 63 ∧ ((b4 : Nat) : Int) ≤ 63 := by assumption
      omega
    have a5 : 32768 < t.size - 7 ∨ t.size - 7 ≠ n := by
      have h : 32768 < ((t.size - 7 : Nat) : Int) ∨ (((t.size - 7 : Nat) : Int) != (n : Int)) = true := by assumption
      simp at h; omega
    rw [pc3 a0 a1 a2 a3 a5]
    refine bodyPost_ret (results_tmp5 rfl _ _ _) rfl ?_
    exact ⟨rfl, hb1⟩
  · have a0 : b0 = 197 := by
      have h : (((b0 : Nat) : Int) != 197) = false := by assumption
      simp at h; omega
    have a1 : b1 = 1 := by
      have h : (((b1 : Nat) : Int) != 1) = false := by assumption
      simp at h; omega
    have a2 : 1 ≤ b2 ∧ b2 ≤ 11 := by
      have h : 1 ≤ ((b2 : Nat) : Int) ∧ ((b2 : Nat) : Int) ≤ 11 := by assumption
      omega
    have a3 : b3 ≤ 63 ∧ b4 ≤ 63 := by
      have h : ((b3 : Nat) : Int) ≤ 63 ∧ ((b4 : Nat) : Int) ≤ 63 := by assumption
      omega
    have a5 : t.size - 7 ≤ 32768 ∧ t.size - 7 = n := by
      have h : ((t.size - 7 : Nat) : Int) ≤ 32768 ∧ (((t.size - 7 : Nat) : Int) != (n : Int)) = false := by assumption
      simp at h; omega
    go_quiet (fail)
    go_wp2
    rw [pc0 a0 a1 a2 a3 a5]
    refine bodyPost_ret (results_tmp5 rfl _ _ _) rfl ?_
    exact ⟨rfl, below_drewN hb1 _⟩
  · have a0 : b0 = 197 := by
      have h : (((b0 : Nat) : Int) != 197) = false := by assumption
      simp at h; omega
    have a1 : b1 = 1 := by
      have h : (((b1 : Nat) : Int) != 1) = false := by assumption
      simp at h; omega
    have a2 : 1 ≤ b2 ∧ b2 ≤ 11 := by
      have h : 1 ≤ ((b2 : Nat) : Int) ∧ ((b2 : Nat) : Int) ≤ 11 := by assumption
      omega
    have a3 : b3 ≤ 63 ∧ b4 ≤ 63 := by
      have h : ((b3 : Nat) : Int) ≤ 63 ∧ ((b4 : Nat) : Int) ≤ 63 := by assumption
      omega
    have a5 : 32768 < t.size - 7 ∨ t.size - 7 ≠ n := by
      have h : 32768 < ((t.size - 7 : Nat) : Int) := by assumption
      omega
    rw [pc3 a0 a1 a2 a3 a5]
    refine bodyPost_ret (results_tmp5 rfl _ _ _) rfl ?_
    exact ⟨rfl, hb1⟩
  · have a0 : b0 = 197 := by
      have h : (((b0 : Nat) : Int) != 197) = false := by assumption
      simp at h; omega
    have a1 : b1 = 1 := by
      have h : (((b1 : Nat) : Int) != 1) = false := by assumption
      simp at h; omega
    have a2 : 1 ≤ b2 ∧ b2 ≤ 11 := by
      have h : 1 ≤ ((b2 : Nat) : Int) ∧ ((b2 : Nat) : Int) ≤ 11 := by assumption
      omega
    have a3 : 63 < b3 ∨ 63 < b4 := by
      have h : 63 < ((b3 : Nat) : Int) := by assumption
      omega
    rw [pc1 a0 a1 a2 a3]
    refine bodyPost_ret (results_tmp5 rfl _ _ _) rfl ?_
    exact ⟨rfl, hb1⟩
  · have a0 : b0 = 197 := by
      have h : (((b0 : Nat) : Int) != 197) = false := by assumption
      simp at h; omega
    have a1 : b1 = 1 := by
      have h : (((b1 : Nat) : Int) != 1) = false := by assumption
      simp at h; omega
    have a2 : b2 < 1 ∨ 11 < b2 := by
      have h : ((b2 : Nat) : Int) < 1 := by assumption
      omega
    rw [pc10 a0 a1 a2]
    refine bodyPost_ret (results_tmp5 rfl _ _ _) rfl ?_
    exact ⟨rfl, hb1⟩

theorem rparse_any (s : ByteArray) (w : World) (hm : s.size ≤ 1000004) :
    Calls Try.prog 32 #[.string s] w fun e w' => e = .returned (parseF s).five ∧ Below w.heap.size w w' := by
  by_cases h : s.size < 11
  · exact rparse_short s w h
  · cases ho : openOk s with
    | false => exact rparse_sum s w (by omega) hm ho
    | true => exact rparse_open s w (by omega) hm ho
theorem parse_any (s : ByteArray) (w : World) (hm : s.size ≤ 1000004) :
    Calls Try.prog 31 #[.string s] w fun e w' => e = .returned (parseF s).vals ∧ Below w.heap.size w w' := by
  by_cases h : s.size < 11
  · exact parse_short s w h
  · cases ho : openOk s with
    | false => exact parse_sum s w (by omega) hm ho
    | true => exact parse_open s w (by omega) hm ho
end Go.Proofs.Ythkfgjdbgnbjkaa
namespace Go.Proofs.Ythkfgjdbgnbjkaa
open Go.RowKit
set_option linter.unusedSimpArgs false
set_option linter.unusedVariables false

theorem headL_length (k f t : Int) (n : Nat) : (headL k f t n).length = 7 := by unfold headL; simp [NumM.be_length]
/-- what is sealed. -/
def inner (k f t : Int) (b : ByteArray) : ByteArray := ⟨(headL k f t b.size).toArray⟩ ++ b
theorem inner_data (k f t : Int) (b : ByteArray) : (inner k f t b).data.toList = headL k f t b.size ++ b.data.toList := by unfold inner; simp
theorem inner_size (k f t : Int) (b : ByteArray) : (inner k f t b).size = 7 + b.size := by rw [← size_data, inner_data, List.length_append, headL_length, size_data]
theorem frameB_eq (k f t : Int) (b : ByteArray) : frameB k f t b = sealB (inner k f t b) := rfl
theorem frameB_size (k f t : Int) (b : ByteArray) : (frameB k f t b).size = 11 + b.size := by rw [frameB_eq, sealB_size, inner_size]; omega
theorem byteOf_nat {n : Int} (h0 : 0 ≤ n) (h1 : n < 256) : ((byteOf n).toNat : Int) = n := by rw [← byteOf_int]; omega
theorem printE_zero {k f t : Int} {b : ByteArray} (h : printE k f t b = 0) : (1 ≤ k ∧ k ≤ 11) ∧ (0 ≤ f ∧ f ≤ 63) ∧ (0 ≤ t ∧ t ≤ 63) ∧ b.size ≤ 32768 := by
  by_cases h1 : k < 1 ∨ 11 < k
  · rw [printE_kind h1] at h; omega
  · by_cases h2 : f < 0 ∨ 63 < f ∨ t < 0 ∨ 63 < t
    · rw [printE_range (by omega) (by omega) h2] at h; omega
    · rw [printE_rest (by omega) (by omega) (by omega) (by omega) (by omega) (by omega)] at h
      split at h
      · omega
      · omega
theorem byAt_inner (k f t : Int) (b : ByteArray) (i : Nat) (h : i < 7) : byAt (inner k f t b) i = ((headL k f t b.size).getD i 0).toNat := by
  unfold byAt
  rw [inner_data]
  have hl : i < (headL k f t b.size).length := by rw [headL_length]; exact h
  simp [List.getD, List.getElem?_append_left hl]

/-- what was printed is parsed as it was. -/
theorem parse_print {k f t : Int} {b : ByteArray} (h : printE k f t b = 0) : parseF (frameB k f t b) = ⟨k, f, t, b, 0⟩ := by
  obtain ⟨⟨k1, k2⟩, ⟨f1, f2⟩, ⟨t1, t2⟩, hb⟩ := printE_zero h
  unfold parseF
  rw [frameB_size, if_neg (by omega), frameB_eq, openOk_sealB, if_neg (by simp), openB_sealB]
  unfold parseT
  have e0 : byAt (inner k f t b) 0 = 197 := by rw [byAt_inner _ _ _ _ _ (by omega)]; rfl
  have e1 : byAt (inner k f t b) 1 = 1 := by rw [byAt_inner _ _ _ _ _ (by omega)]; rfl
  have e2 : ((byAt (inner k f t b) 2 : Nat) : Int) = k := by rw [byAt_inner _ _ _ _ _ (by omega)]; exact byteOf_nat (by omega) (by omega)
  have e3 : ((byAt (inner k f t b) 3 : Nat) : Int) = f := by rw [byAt_inner _ _ _ _ _ (by omega)]; exact byteOf_nat (by omega) (by omega)
  have e4 : ((byAt (inner k f t b) 4 : Nat) : Int) = t := by rw [byAt_inner _ _ _ _ _ (by omega)]; exact byteOf_nat (by omega) (by omega)
  have e5 : NumM.val (((inner k f t b).data.toList.drop 5).take 2) = b.size := by
    have : ((inner k f t b).data.toList.drop 5).take 2 = NumM.be 2 b.size := by
      rw [inner_data]
      unfold headL
      rw [List.append_assoc, List.drop_left' (by rfl), List.take_left' (NumM.be_length 2 _)]
    rw [this, NumM.val_be]
    omega
  have e6 : (inner k f t b).extract 7 (inner k f t b).size = b := by
    apply WideShapes.bytes_inj
    rw [Lib.extract_to_end, inner_data, List.drop_left' (headL_length k f t b.size)]
  rw [e5, e6, inner_size, pc0 e0 e1 (by omega) (by omega) (by omega), e2, e3, e4]

theorem seven_split (l : List UInt8) (n : Nat) (h : 7 ≤ l.length) (h0 : (l.getD 0 0).toNat = 197) (h1 : (l.getD 1 0).toNat = 1) (hn : NumM.val ((l.drop 5).take 2) = n) :
    l = headL ((l.getD 2 0).toNat : Int) ((l.getD 3 0).toNat : Int) ((l.getD 4 0).toNat : Int) n ++ l.drop 7 := by
  match l, h with
  | a0 :: a1 :: a2 :: a3 :: a4 :: a5 :: a6 :: r, _ =>
    simp only [List.getD_cons_zero, List.getD_cons_succ, List.drop_succ_cons, List.drop_zero, List.take_succ_cons, List.take_zero] at *
    have hb : ∀ x : UInt8, byteOf ((x.toNat : Nat) : Int) = x := fun x => by
      apply UInt8.toNat_inj.1
      have := byteOf_nat (n := ((x.toNat : Nat) : Int)) (by omega) (by have := x.toNat_lt; omega)
      omega
    have hbe : NumM.be 2 n = [a5, a6] := by rw [← hn]; exact NumM.be_val [a5, a6]
    unfold headL
    rw [hb, hb, hb, hbe]
    have e0 : a0 = 197 := UInt8.toNat_inj.1 h0
    have e1 : a1 = 1 := UInt8.toNat_inj.1 h1
    subst e0 e1
    rfl
theorem sealB_openB' (s : ByteArray) (h : openOk s = true) : sealB (openB s) = s := by
  have h' := h
  unfold openOk at h'
  rw [Bool.and_eq_true, decide_eq_true_iff, beq_iff_eq] at h'
  obtain ⟨h4, h⟩ := h'
  apply WideShapes.bytes_inj
  have e : openB s = s.extract 0 (s.size - 4) := by unfold openB; rw [if_pos (by assumption)]
  rw [e, sealB_data, Lib.extract_data]
  simp only [List.drop_zero, Nat.sub_zero]
  rw [h, List.take_append_drop]

/-- whatever is parsed, or an error. -/
theorem parseC_cases (b0 b1 b2 b3 b4 n m : Nat) (body : ByteArray) : (∃ e, parseC b0 b1 b2 b3 b4 n m body = .bad e ∧ e ≠ 0) ∨
    (parseC b0 b1 b2 b3 b4 n m body = ⟨b2, b3, b4, body, 0⟩ ∧ b0 = 197 ∧ b1 = 1 ∧ (1 ≤ b2 ∧ b2 ≤ 11) ∧ (b3 ≤ 63 ∧ b4 ≤ 63) ∧ m ≤ 32768 ∧ m = n) := by
  by_cases a0 : b0 = 197
  · by_cases a1 : b1 = 1
    · by_cases a2 : 1 ≤ b2 ∧ b2 ≤ 11
      · by_cases a3 : b3 ≤ 63 ∧ b4 ≤ 63
        · by_cases a5 : m ≤ 32768 ∧ m = n
          · exact .inr ⟨pc0 a0 a1 a2 a3 a5, a0, a1, a2, a3, a5⟩
          · exact .inl ⟨3, pc3 a0 a1 a2 a3 (by omega), by decide⟩
        · exact .inl ⟨1, pc1 a0 a1 a2 (by omega), by decide⟩
      · exact .inl ⟨10, pc10 a0 a1 (by omega), by decide⟩
    · exact .inl ⟨9, pc9 a0 a1, by decide⟩
  · exact .inl ⟨4, pc4 a0, by decide⟩
theorem parseF_cases (s : ByteArray) : (∃ e, parseF s = .bad e ∧ e ≠ 0) ∨ ((parseF s).e = 0 ∧ printE (parseF s).k (parseF s).f (parseF s).t (parseF s).b = 0 ∧ frameB (parseF s).k (parseF s).f (parseF s).t (parseF s).b = s ∧ (parseF s).b.size ≤ 32768) := by
  unfold parseF
  by_cases h : s.size < 11
  · rw [if_pos h]; exact .inl ⟨2, rfl, by decide⟩
  · rw [if_neg h]
    by_cases ho : openOk s = true
    · rw [ho, if_neg (by simp)]
      unfold parseT
      have hsz := openB_size s ho
      rcases parseC_cases (byAt (openB s) 0) (byAt (openB s) 1) (byAt (openB s) 2) (byAt (openB s) 3) (byAt (openB s) 4) (NumM.val (((openB s).data.toList.drop 5).take 2)) ((openB s).size - 7) ((openB s).extract 7 (openB s).size) with hc | ⟨hc, a0, a1, a2, a3, a5, a6⟩
      · exact .inl hc
      · rw [hc]
        have hbs : ((openB s).extract 7 (openB s).size).size = (openB s).size - 7 := by rw [ByteArray.size_extract]; omega
        have hl : 7 ≤ (openB s).data.toList.length := by rw [size_data]; omega
        have hsp := seven_split (openB s).data.toList ((openB s).size - 7) hl a0 a1 a6.symm
        refine .inr ⟨rfl, ?_, ?_, ?_⟩
        · show printE (byAt (openB s) 2 : Nat) (byAt (openB s) 3 : Nat) (byAt (openB s) 4 : Nat) ((openB s).extract 7 (openB s).size) = 0
          rw [printE_rest (by omega) (by omega) (by omega) (by omega) (by omega) (by omega), hbs, if_neg (by omega)]
        · show frameB (byAt (openB s) 2 : Nat) (byAt (openB s) 3 : Nat) (byAt (openB s) 4 : Nat) ((openB s).extract 7 (openB s).size) = s
          rw [frameB_eq]
          have : inner (byAt (openB s) 2 : Nat) (byAt (openB s) 3 : Nat) (byAt (openB s) 4 : Nat) ((openB s).extract 7 (openB s).size) = openB s := by
            apply WideShapes.bytes_inj
            rw [inner_data, hbs, Lib.extract_to_end]
            exact hsp.symm
          rw [this, sealB_openB' s ho]
        · show ((openB s).extract 7 (openB s).size).size ≤ 32768
          rw [hbs]; exact a5
    · rw [Bool.eq_false_iff.2 ho, if_pos rfl]; exact .inl ⟨8, rfl, by decide⟩
theorem parseF_size (s : ByteArray) : (parseF s).b.size ≤ 32768 := by
  rcases parseF_cases s with ⟨e, h, _⟩ | ⟨_, _, _, h⟩
  · rw [h]; exact Nat.zero_le _
  · exact h
theorem parseF_turn {k f t : Int} {b : ByteArray} (n : Nat) (m : UInt8) (h : n < (frameB k f t b).size) (hm : m ≠ 0) : parseF (turnB (frameB k f t b) n m) = .bad 8 := by
  have hs := turnB_size (frameB k f t b) n m h
  have hno : openOk (turnB (sealB (inner k f t b)) n m) = false := turn_not_open (inner k f t b) n m h hm
  unfold parseF
  rw [hs, frameB_size, if_neg (by omega), frameB_eq, hno, if_pos rfl]
end Go.Proofs.Ythkfgjdbgnbjkaa
namespace Go.Proofs.Ythkfgjdbgnbjkaa
open Go.RowKit
set_option linter.unusedSimpArgs false
set_option linter.unusedVariables false

theorem hi_e : printE 1 2 3 ⟨#[104, 105]⟩ = 0 := by decide +kernel
theorem hi_parse : parseF (frameB 1 2 3 ⟨#[104, 105]⟩) = ⟨1, 2, 3, ⟨#[104, 105]⟩, 0⟩ := parse_print hi_e
theorem hi_size : (frameB 1 2 3 ⟨#[104, 105]⟩).size = 13 := by rw [frameB_size]; rfl
theorem hi_head : ((frameB 1 2 3 ⟨#[104, 105]⟩).extract 0 9).toList = [197, 1, 1, 2, 3, 0, 2, 104, 105] := by
  rw [ByteArray.toList_eq]; decide +kernel
theorem x_short : parseF ⟨#[120]⟩ = .bad 2 := by unfold parseF; rw [if_pos (by decide)]

set_option maxHeartbeats 800000 in
theorem awake05 (w : World) : Calls Try.prog 28 #[] w fun e w' => e = .returned (.bool true) ∧ Below w.heap.size w w' := by
  have e1 := hi_e
  have e2 := printS_yes hi_e
  have e3 := hi_parse
  have e4 := hi_size
  have e5 := hi_head
  have e6 := x_short
  generalize frameB 1 2 3 ⟨#[104, 105]⟩ = s at *
  go_enter Try.func28, Try.ntmps28
  go_wp2_with fail
  refine (print_any 1 2 3 ⟨#[104, 105]⟩ _ (by decide)).mono ?_
  rw [e1, e2]
  rintro e w1 ⟨rfl, hb1⟩
  go_wp2_with fail
  refine (parse_any s _ (by omega)).mono ?_
  rw [e3]
  rintro e w2 ⟨rfl, hb2⟩
  unfold FR.vals
  go_wp2_with fail
  refine (parse_any _ _ (by decide)).mono ?_
  rw [e6]
  rintro e w3 ⟨rfl, hb3⟩
  unfold FR.vals FR.bad
  have c0 : w3.cell? ⟨w2.heap.size, 0, none⟩ = some (.int .i64 1) := cell_keep (by simp) hb3
  have c1 : w3.cell? ⟨w2.heap.size, 1, none⟩ = some (.int .i64 2) := cell_keep (by simp) hb3
  have c2 : w3.cell? ⟨w2.heap.size, 2, none⟩ = some (.int .i64 3) := cell_keep (by simp) hb3
  have c3 : w3.cell? ⟨w2.heap.size, 3, none⟩ = some (.string ⟨#[104, 105]⟩) := cell_keep (by simp) hb3
  have hlt : w2.heap.size < w3.heap.size := World.block_lt_of_cell? w3 _ c0
  have hbl := below_step (below_alloc (below_step hb1 hb2) _) hb3
  generalize w2.heap.size = K at *
  clear hb1 hb2 hb3 w1 w2
  go_wp2_with fail
  go_ret
  exact ⟨rfl, below_alloc hbl _⟩

/-- a frame as a value. -/
def frmV (k f t : Int) (b : ByteArray) : Value := .agg #[.int .i64 k, .int .i64 f, .int .i64 t, .string b]

set_option maxHeartbeats 800000 in
theorem prints_walk (k f t : Int) (b : ByteArray) (w : World) :
    Calls Try.prog 8 #[.agg #[.int .i64 k, .int .i64 f, .int .i64 t, .string b]] w fun e w' => e = .returned (.bool true) ∧ Below w.heap.size w w' := by
  have hb0 : Below w.heap.size w (w.alloc (.cells #[.int .i64 k, .int .i64 f, .int .i64 t, .string b] 37)) := below_alloc (Below.refl _ _) _
  by_cases h : 40000 < b.size
  · have hd : decide (40000 < (b.size : Int)) = true := by simp; omega
    go_enter Try.func8, Try.ntmps8
    go_wp2_with fail
    refine (awake05 _).mono ?_
    rintro e w1 ⟨rfl, hb1⟩
    have c3 : w1.cell? ⟨w.heap.size, 3, none⟩ = some (.string b) := cell_keep (by simp) hb1
    go_wp2_with fail
    go_ret
    exact ⟨rfl, below_step hb0 hb1⟩
  · have hd : decide (40000 < (b.size : Int)) = false := by simp; omega
    go_enter Try.func8, Try.ntmps8
    go_wp2_with fail
    refine (awake05 _).mono ?_
    rintro e w1 ⟨rfl, hb1⟩
    have c0 : w1.cell? ⟨w.heap.size, 0, none⟩ = some (.int .i64 k) := cell_keep (by simp) hb1
    have c1 : w1.cell? ⟨w.heap.size, 1, none⟩ = some (.int .i64 f) := cell_keep (by simp) hb1
    have c2 : w1.cell? ⟨w.heap.size, 2, none⟩ = some (.int .i64 t) := cell_keep (by simp) hb1
    have c3 : w1.cell? ⟨w.heap.size, 3, none⟩ = some (.string b) := cell_keep (by simp) hb1
    have hbl1 := below_step hb0 hb1
    clear hb0 hb1
    go_wp2_with fail
    refine (print_any k f t b _ (by omega)).mono ?_
    rintro e w2 ⟨rfl, hb2⟩
    have d0 := cell_keep c0 hb2
    have d1 := cell_keep c1 hb2
    have d2 := cell_keep c2 hb2
    have d3 := cell_keep c3 hb2
    have hbl2 := below_step hbl1 hb2
    clear c0 c1 c2 c3 hbl1 hb2 w1
    go_wp2_with fail
    refine (rprint_any k f t b _ (by omega)).mono ?_
    rintro e w3 ⟨rfl, hb3⟩
    have hbl3 := below_step hbl2 hb3
    go_wp2_with fail
    go_ret
    exact ⟨rfl, hbl3⟩
end Go.Proofs.Ythkfgjdbgnbjkaa
namespace Go.Proofs.Ythkfgjdbgnbjkaa
open Go.RowKit
set_option linter.unusedSimpArgs false
set_option linter.unusedVariables false

set_option maxHeartbeats 800000 in
theorem size_long (k f t : Int) (b : ByteArray) (w : World) (h : 40000 < b.size) :
    Calls Try.prog 12 #[.agg #[.int .i64 k, .int .i64 f, .int .i64 t, .string b]] w fun e w' => e = .returned (.bool true) ∧ Below w.heap.size w w' := by
  have hb0 : Below w.heap.size w (w.alloc (.cells #[.int .i64 k, .int .i64 f, .int .i64 t, .string b] 37)) := below_alloc (Below.refl _ _) _
  have hd : decide (40000 < (b.size : Int)) = true := by simp; omega
  go_enter Try.func12, Try.ntmps12
  go_wp2_with fail
  refine (awake05 _).mono ?_
  rintro e w1 ⟨rfl, hb1⟩
  have c3 : w1.cell? ⟨w.heap.size, 3, none⟩ = some (.string b) := cell_keep (by simp) hb1
  go_wp2_with fail
  go_ret
  exact ⟨rfl, below_step hb0 hb1⟩

set_option maxHeartbeats 1600000 in
theorem size_bad (k f t : Int) (b : ByteArray) (w : World) (h : b.size ≤ 40000) (hno : printE k f t b ≠ 0) :
    Calls Try.prog 12 #[.agg #[.int .i64 k, .int .i64 f, .int .i64 t, .string b]] w fun e w' => e = .returned (.bool true) ∧ Below w.heap.size w w' := by
  have hbad : ¬ (1 ≤ k ∧ k ≤ 11 ∧ 0 ≤ f ∧ f ≤ 63 ∧ 0 ≤ t ∧ t ≤ 63 ∧ (b.size : Int) ≤ 32768) := by
    rintro ⟨h1, h2, h3, h4, h5, h6, h7⟩
    exact hno (by rw [printE_rest h1 h2 h3 h4 h5 h6, if_neg (by omega)])
  have HBAD := Lib.hid hbad
  have hpr := fun W => print_any k f t b W (by omega)
  rw [printS_no rfl hno] at hpr
  generalize printE k f t b = en at *
  have hne : (en != 0) = true := by simpa using hno
  have HPR := Lib.hid hpr
  clear hpr hbad hno
  have hb0 : Below w.heap.size w (w.alloc (.cells #[.int .i64 k, .int .i64 f, .int .i64 t, .string b] 37)) := below_alloc (Below.refl _ _) _
  have hd : decide (40000 < (b.size : Int)) = false := by simp; omega
  go_enter Try.func12, Try.ntmps12
  go_wp2_with fail
  refine (awake05 _).mono ?_
  rintro e w1 ⟨rfl, hb1⟩
  have c0 : w1.cell? ⟨w.heap.size, 0, none⟩ = some (.int .i64 k) := cell_keep (by simp) hb1
  have c1 : w1.cell? ⟨w.heap.size, 1, none⟩ = some (.int .i64 f) := cell_keep (by simp) hb1
  have c2 : w1.cell? ⟨w.heap.size, 2, none⟩ = some (.int .i64 t) := cell_keep (by simp) hb1
  have c3 : w1.cell? ⟨w.heap.size, 3, none⟩ = some (.string b) := cell_keep (by simp) hb1
  have hbl1 := below_step hb0 hb1
  clear hb0 hb1
  go_wp2_with fail
  refine (HPR.out _).mono ?_
  rintro e w2 ⟨rfl, hb2⟩
  have d0 := cell_keep c0 hb2
  have d1 := cell_keep c1 hb2
  have d2 := cell_keep c2 hb2
  have d3 := cell_keep c3 hb2
  have hbl2 := below_step hbl1 hb2
  clear c0 c1 c2 c3 hbl1 hb2 w1
  go_wp2_with fail
  all_goals first
    | (go_ret; exact ⟨rfl, hbl2⟩)
    | exact absurd ⟨by assumption, by assumption, by assumption, by assumption, by assumption, by assumption, by simpa using (by assumption : (!decide ((b.size : Int) ≤ 32768)) = false)⟩ HBAD.out

theorem frame_at (k f t : Int) (b : ByteArray) (i : Nat) (h : i < 7) (hi : i < (frameB k f t b).size) : ((frameB k f t b)[i]'hi).toNat = ((headL k f t b.size).getD i 0).toNat := by
  rw [byAt_get _ i hi]
  unfold byAt
  rw [frameB_eq, sealB_data, inner_data]
  have hl : i < (headL k f t b.size).length := by rw [headL_length]; exact h
  simp [List.getD, List.getElem?_append_left hl]
theorem frame_body (k f t : Int) (b : ByteArray) : (frameB k f t b).extract 7 (7 + b.size) = b := by
  apply WideShapes.bytes_inj
  rw [Lib.extract_data, frameB_eq, sealB_data, inner_data, List.append_assoc, List.drop_left' (headL_length k f t b.size), Nat.add_sub_cancel_left, List.take_left' (size_data b)]

theorem frame_good (k f t : Int) (b : ByteArray) (hk : 1 ≤ k ∧ k ≤ 11) (hf : 0 ≤ f ∧ f ≤ 63) (ht : 0 ≤ t ∧ t ≤ 63) : ∃ (s : ByteArray) (x2 x3 x4 : Nat), frameB k f t b = s ∧ s.size = 11 + b.size ∧
    (∀ h : 2 < s.size, (s[2]'h).toNat = x2) ∧ (∀ h : 3 < s.size, (s[3]'h).toNat = x3) ∧ (∀ h : 4 < s.size, (s[4]'h).toNat = x4) ∧ s.extract 7 (7 + b.size) = b ∧ (x2 : Int) = k ∧ (x3 : Int) = f ∧ (x4 : Int) = t :=
  ⟨_, _, _, _, rfl, frameB_size k f t b, fun h => frame_at k f t b 2 (by omega) h, fun h => frame_at k f t b 3 (by omega) h, fun h => frame_at k f t b 4 (by omega) h, frame_body k f t b,
    byteOf_nat (by omega) (by omega), byteOf_nat (by omega) (by omega), byteOf_nat (by omega) (by omega)⟩

set_option maxHeartbeats 1600000 in
theorem size_good (k f t : Int) (b : ByteArray) (w : World) (h : b.size ≤ 40000) (hyes : printE k f t b = 0) :
    Calls Try.prog 12 #[.agg #[.int .i64 k, .int .i64 f, .int .i64 t, .string b]] w fun e w' => e = .returned (.bool true) ∧ Below w.heap.size w w' := by
  obtain ⟨⟨k1, k2⟩, ⟨f1, f2⟩, ⟨t1, t2⟩, hb⟩ := printE_zero hyes
  have hpr := fun W => print_any k f t b W (by omega)
  rw [printS_yes hyes, hyes] at hpr
  obtain ⟨s, x2, x3, x4, hs, hsz, g2, g3, g4, gb, v2, v3, v4⟩ := frame_good k f t b ⟨k1, k2⟩ ⟨f1, f2⟩ ⟨t1, t2⟩
  rw [hs] at hpr
  have hi2 : (2 : Int) < 11 + (b.size : Int) := by omega
  have hi3 : (3 : Int) < 11 + (b.size : Int) := by omega
  have hi4 : (4 : Int) < 11 + (b.size : Int) := by omega
  have hj1 : (0 : Int) ≤ 7 + (b.size : Int) := by omega
  have hj2 : (7 : Int) ≤ 7 + (b.size : Int) := by omega
  have hj3 : 7 + (b.size : Int) ≤ 11 + (b.size : Int) := by omega
  have hj4 : (7 + (b.size : Int)).toNat = 7 + b.size := by omega
  have hw1 : IntKind.i64.wrap (7 + (b.size : Int)) = 7 + (b.size : Int) := IntWalk.i64_in _ (by omega)
  have hw2 : IntKind.i64.wrap (11 + (b.size : Int)) = 11 + (b.size : Int) := IntWalk.i64_in _ (by omega)
  clear hs
  have HPR := Lib.hid hpr
  have k1' : decide (1 ≤ k) = true := by simpa using k1
  have k2' : decide (k ≤ 11) = true := by simpa using k2
  have f1' : decide (0 ≤ f) = true := by simpa using f1
  have f2' : decide (f ≤ 63) = true := by simpa using f2
  have t1' : decide (0 ≤ t) = true := by simpa using t1
  have t2' : decide (t ≤ 63) = true := by simpa using t2
  have hb' : decide ((b.size : Int) ≤ 32768) = true := by simp; omega
  clear hpr hyes
  have hb0 : Below w.heap.size w (w.alloc (.cells #[.int .i64 k, .int .i64 f, .int .i64 t, .string b] 37)) := below_alloc (Below.refl _ _) _
  have hd : decide (40000 < (b.size : Int)) = false := by simp; omega
  go_enter Try.func12, Try.ntmps12
  go_wp2_with fail
  refine (awake05 _).mono ?_
  rintro e w1 ⟨rfl, hb1⟩
  have c0 : w1.cell? ⟨w.heap.size, 0, none⟩ = some (.int .i64 k) := cell_keep (by simp) hb1
  have c1 : w1.cell? ⟨w.heap.size, 1, none⟩ = some (.int .i64 f) := cell_keep (by simp) hb1
  have c2 : w1.cell? ⟨w.heap.size, 2, none⟩ = some (.int .i64 t) := cell_keep (by simp) hb1
  have c3 : w1.cell? ⟨w.heap.size, 3, none⟩ = some (.string b) := cell_keep (by simp) hb1
  have hbl1 := below_step hb0 hb1
  clear hb0 hb1
  go_wp2_with fail
  refine (HPR.out _).mono ?_
  rintro e w2 ⟨rfl, hb2⟩
  have d0 := cell_keep c0 hb2
  have d1 := cell_keep c1 hb2
  have d2 := cell_keep c2 hb2
  have d3 := cell_keep c3 hb2
  have hbl2 := below_step hbl1 hb2
  clear c0 c1 c2 c3 hbl1 hb2 w1
  go_wp2_with fail
  go_quiet (fail)
  go_wp2
  go_ret
  exact ⟨rfl, below_drewN hbl2 _⟩

theorem size_walk (k f t : Int) (b : ByteArray) (w : World) :
    Calls Try.prog 12 #[.agg #[.int .i64 k, .int .i64 f, .int .i64 t, .string b]] w fun e w' => e = .returned (.bool true) ∧ Below w.heap.size w w' := by
  by_cases h : 40000 < b.size
  · exact size_long k f t b w h
  · by_cases hp : printE k f t b = 0
    · exact size_good k f t b w (by omega) hp
    · exact size_bad k f t b w (by omega) hp
end Go.Proofs.Ythkfgjdbgnbjkaa
namespace Go.Proofs.Ythkfgjdbgnbjkaa
set_option linter.unusedVariables false

structure Cf where
  e : Nat
  r : Int
structure Ky where
  s : Nat
  f : Int
structure Ms where
  src : Int
  seq : Nat
  stamp : Nat
  svc : Int
  deps : List Nat
  pay : ByteArray
structure Ex where
  who : Int
  old : Cf
  cnt : List Nat
  last : Ky
structure Pk where
  kind : Int
  src : Int
  dst : Int
  conf : Cf
  m : Ms
  stamp : Nat
  sent : Nat
  got : List Nat
  horizon : Nat
  whom : Int
  seq : Nat
  members : Nat
  prom : Cf
  epoch : Nat
  x : List Ex
def Cf.zero : Cf := ⟨0, 0⟩
def Ky.zero : Ky := ⟨0, 0⟩
def Ms.zero : Ms := ⟨0, 0, 0, 0, [], ⟨#[]⟩⟩
def Pk.zero : Pk := ⟨0, 0, 0, .zero, .zero, 0, 0, [], 0, 0, 0, 0, .zero, 0, []⟩

/-! ### Written: all bytes, or the first error -/
abbrev Out := Except Int (List UInt8)
def cat (a b : Out) : Out :=
  match a with
  | .error e => .error e
  | .ok x => match b with
    | .error e => .error e
    | .ok y => .ok (x ++ y)
def procW (p : Int) : Out := if p < 0 ∨ 64 ≤ p then .error 1 else .ok (NumM.be 1 p.toNat)
def confW (c : Cf) : Out := cat (.ok (NumM.be 8 c.e)) (procW c.r)
def keyW (k : Ky) : Out := cat (.ok (NumM.be 8 k.s)) (procW k.f)
def fours : List Nat → List UInt8
  | [] => []
  | v :: l => NumM.be 4 v ++ fours l
def vecW (l : List Nat) : Out := if 64 < l.length then .error 3 else .ok (NumM.be 1 l.length ++ fours l)
def msgW (m : Ms) : Out :=
  if m.svc < 0 ∨ 2 < m.svc then .error 1
  else if 1024 < m.pay.size then .error 3
  else cat (.ok (NumM.be 4 m.seq ++ NumM.be 8 m.stamp ++ NumM.be 1 m.svc.toNat)) (cat (vecW m.deps) (.ok (NumM.be 2 m.pay.size ++ m.pay.data.toList)))
def exW (x : Ex) : Out := cat (procW x.who) (cat (confW x.old) (cat (vecW x.cnt) (keyW x.last)))
def exsW : List Ex → Out
  | [] => .ok []
  | x :: l => cat (exW x) (exsW l)
def restW (p : Pk) : Out :=
  if p.kind = 1 then msgW p.m
  else if p.kind = 2 then cat (.ok (NumM.be 8 p.stamp ++ NumM.be 4 p.sent)) (cat (vecW p.got) (.ok (NumM.be 8 p.horizon)))
  else if p.kind = 3 ∨ p.kind = 8 then cat (procW p.whom) (.ok (NumM.be 4 p.seq))
  else if p.kind = 4 then cat (confW p.prom) (.ok (NumM.be 8 p.epoch ++ NumM.be 8 p.members))
  else if p.kind = 5 then .ok (NumM.be 8 p.members)
  else if p.kind = 6 then (match p.x with | [x] => exW x | _ => .error 1)
  else if p.kind = 7 then (if 64 < p.x.length then .error 3 else cat (.ok (NumM.be 8 p.members ++ NumM.be 1 p.x.length)) (exsW p.x))
  else if p.kind = 9 then cat (procW p.whom) (msgW p.m)
  else .ok []
def bodyW (p : Pk) : Out := cat (confW p.conf) (restW p)

/-! ### Read -/
abbrev In (α : Type) := Except Int (α × List UInt8)
def andP {α β : Type} (x : In α) (f : α → List UInt8 → In β) : In β :=
  match x with
  | .error e => .error e
  | .ok (a, r) => f a r
def numP (n : Nat) (l : List UInt8) : In Nat := if l.length < n then .error 2 else .ok (NumM.val (l.take n), l.drop n)
def procP (l : List UInt8) : In Int := andP (numP 1 l) fun v r => if 64 ≤ v then .error 1 else .ok ((v : Int), r)
def confP (l : List UInt8) : In Cf := andP (numP 8 l) fun e r => andP (procP r) fun p r => .ok (⟨e, p⟩, r)
def keyP (l : List UInt8) : In Ky := andP (numP 8 l) fun e r => andP (procP r) fun p r => .ok (⟨e, p⟩, r)
def foursP : Nat → List UInt8 → In (List Nat)
  | 0, l => .ok ([], l)
  | n + 1, l => andP (numP 4 l) fun v r => andP (foursP n r) fun vs r => .ok (v :: vs, r)
def vecP (l : List UInt8) : In (List Nat) := andP (numP 1 l) fun n r => if 64 < n then .error 3 else foursP n r
def textP (n : Nat) (l : List UInt8) : In ByteArray := if l.length < n then .error 2 else .ok (⟨(l.take n).toArray⟩, l.drop n)
def msgP (src : Int) (l : List UInt8) : In Ms :=
  andP (numP 4 l) fun seq r => andP (numP 8 r) fun stamp r => andP (numP 1 r) fun svc r =>
  if 2 < svc then .error 1 else andP (vecP r) fun deps r => andP (numP 2 r) fun n r =>
  if 1024 < n then .error 3 else andP (textP n r) fun t r => .ok (⟨src, seq, stamp, svc, deps, t⟩, r)
def exP (l : List UInt8) : In Ex :=
  andP (procP l) fun who r => andP (confP r) fun old r => andP (vecP r) fun cnt r => andP (keyP r) fun last r => .ok (⟨who, old, cnt, last⟩, r)
def exsP : Nat → List UInt8 → In (List Ex)
  | 0, l => .ok ([], l)
  | n + 1, l => andP (exP l) fun x r => andP (exsP n r) fun xs r => .ok (x :: xs, r)
def restP (p : Pk) (l : List UInt8) : In Pk :=
  if p.kind = 1 then andP (msgP p.src l) fun m r => .ok ({ p with m := m }, r)
  else if p.kind = 2 then andP (numP 8 l) fun stamp r => andP (numP 4 r) fun sent r => andP (vecP r) fun got r => andP (numP 8 r) fun h r => .ok ({ p with stamp := stamp, sent := sent, got := got, horizon := h }, r)
  else if p.kind = 3 ∨ p.kind = 8 then andP (procP l) fun w r => andP (numP 4 r) fun q r => .ok ({ p with whom := w, seq := q }, r)
  else if p.kind = 4 then andP (confP l) fun c r => andP (numP 8 r) fun e r => andP (numP 8 r) fun m r => .ok ({ p with prom := c, epoch := e, members := m }, r)
  else if p.kind = 5 then andP (numP 8 l) fun m r => .ok ({ p with members := m }, r)
  else if p.kind = 6 then andP (exP l) fun x r => .ok ({ p with x := [x] }, r)
  else if p.kind = 7 then andP (numP 8 l) fun m r => andP (numP 1 r) fun n r => if 64 < n then .error 3 else andP (exsP n r) fun xs r => .ok ({ p with members := m, x := xs }, r)
  else if p.kind = 9 then andP (procP l) fun w r => andP (msgP w r) fun m r => .ok ({ p with whom := w, m := m }, r)
  else .ok (p, l)
def bodyP (k f t : Int) (l : List UInt8) : Except Int Pk :=
  match andP (confP l) (fun c r => restP { Pk.zero with kind := k, src := f, dst := t, conf := c } r) with
  | .error e => .error e
  | .ok (p, r) => if r = [] then .ok p else .error 4
/-- a packet without what its kind doesn't name. -/
def cleanF (p : Pk) : Pk :=
  { kind := p.kind, src := p.src, dst := p.dst,
    conf := if 1 ≤ p.kind ∧ p.kind ≤ 11 then p.conf else .zero,
    m := if p.kind = 1 then { p.m with src := p.src } else if p.kind = 9 then { p.m with src := p.whom } else .zero,
    stamp := if p.kind = 2 then p.stamp else 0, sent := if p.kind = 2 then p.sent else 0, got := if p.kind = 2 then p.got else [], horizon := if p.kind = 2 then p.horizon else 0,
    whom := if p.kind = 3 ∨ p.kind = 8 ∨ p.kind = 9 then p.whom else 0, seq := if p.kind = 3 ∨ p.kind = 8 then p.seq else 0,
    members := if p.kind = 4 ∨ p.kind = 5 ∨ p.kind = 7 then p.members else 0, prom := if p.kind = 4 then p.prom else .zero, epoch := if p.kind = 4 then p.epoch else 0,
    x := if p.kind = 6 ∨ p.kind = 7 then p.x else [] }
end Go.Proofs.Ythkfgjdbgnbjkaa
namespace Go.Proofs.Ythkfgjdbgnbjkaa
open Go.RowKit
set_option linter.unusedSimpArgs false
set_option linter.unusedVariables false

/-- a panic with an Errno. -/
def pv (c : Int) : PanicEntry := { v := .iface 38 (.int .i64 c), recovered := false }

/-- the writer g's bytes; B: its rows lie from there on. -/
def WrAt (w : World) (B g : Nat) (l : List UInt8) : Prop :=
  ∃ A c, w.heap[g]? = some (.cells #[.slice A l.length c] 123 (0, 0)) ∧ w.ownsRow B 5 1 (.slice A l.length c) l.length (bvals l)
theorem blk_cell {w : World} {g : Nat} {v : Value} {t : TypeId} (h : w.heap[g]? = some (.cells #[v] t (0, 0))) : w.cell? ⟨g, 0, none⟩ = some v := cell_of_row w g 0 _ t (0, 0) h
theorem blk_frozen {w : World} {g : Nat} {v : Value} {t : TypeId} (h : w.heap[g]? = some (.cells #[v] t (0, 0))) : w.frozen? ⟨g, 0, none⟩ = false := by simp [World.frozen?, h]
theorem blk_set {w : World} {g : Nat} {v : Value} {t : TypeId} (h : w.heap[g]? = some (.cells #[v] t (0, 0))) (u : Value) : (w.setCell ⟨g, 0, none⟩ u).heap[g]? = some (.cells #[u] t (0, 0)) := by
  simp [World.setCell, Array.getElem?_modify, h]
theorem blk_lt {w : World} {g : Nat} {o : Obj} (h : w.heap[g]? = some o) : g < w.heap.size := by
  rcases Nat.lt_or_ge g w.heap.size with hlt | hge
  · exact hlt
  · rw [Array.getElem?_eq_none hge] at h; cases h
/-- a row of bytes lies in no block of another type. -/
theorem own_apart {w : World} {B g n : Nat} {v u : Value} {t : TypeId} {xs : List Value} (h : w.heap[g]? = some (.cells #[u] t (0, 0))) (ho : w.ownsRow B 5 1 v n xs) (ht : t ≠ 5) : v.ownBlock ≠ some g := by
  rcases ho.2 with ⟨rfl, _⟩ | ⟨k, cap, cur, rfl, _, hh, _⟩
  · simp [Value.ownBlock]
  · intro he
    have hk : k = g := by simpa [Value.ownBlock] using he
    subst hk
    rw [h] at hh
    injection hh with hh
    injection hh with _ he
    exact ht he
theorem WrAt.parts {w : World} {B g : Nat} {l : List UInt8} (h : WrAt w B g l) :
    ∃ A c, w.cell? ⟨g, 0, none⟩ = some (.slice A l.length c) ∧ w.frozen? ⟨g, 0, none⟩ = false ∧ w.ownsRow B 5 1 (.slice A l.length c) l.length (bvals l) ∧ (Value.slice A l.length c).ownBlock ≠ some g ∧ w.heap[g]? = some (.cells #[.slice A l.length c] 123 (0, 0)) := by
  obtain ⟨A, c, h0, h1⟩ := h
  exact ⟨A, c, blk_cell h0, blk_frozen h0, h1, own_apart h0 h1 (by decide), h0⟩
theorem WrAt.lt {w : World} {B g : Nat} {l : List UInt8} (h : WrAt w B g l) : g < w.heap.size := by
  obtain ⟨A, c, h0, _⟩ := h
  exact blk_lt h0
theorem own_rd {w : World} {B c : Nat} {A : Option Addr} {l : List UInt8} (h : w.ownsRow B 5 1 (.slice A l.length c) l.length (bvals l)) : RdB w A c l := by
  refine ⟨fun hA => ?_, fun ad hA j u hu => ?_⟩
  · subst hA
    rcases h.2 with ⟨he, hn⟩ | ⟨g, cap, cur, he, _⟩
    · injection he with _ _ hc
      exact ⟨hn, hc⟩
    · injection he with he
      cases he
  · subst hA
    rcases h.2 with ⟨he, hn⟩ | ⟨g, cap, cur, he, _⟩
    · injection he with he
      cases he
    · injection he with he
      injection he with he
      subst he
      exact World.ownsRow.cells h rfl j u hu
theorem own_low {w : World} {B B' : Nat} {e : TypeId} {size : Nat} {v : Value} {n : Nat} {xs : List Value} (h : w.ownsRow B e size v n xs) (hB : B' ≤ B) : w.ownsRow B' e size v n xs := by
  obtain ⟨h1, h2 | ⟨g, cap, cur, a1, a2, a3⟩⟩ := h
  · exact ⟨h1, .inl h2⟩
  · exact ⟨h1, .inr ⟨g, cap, cur, a1, Nat.le_trans hB a2, a3⟩⟩

set_option maxHeartbeats 400000 in
theorem wnum_any (B g : Nat) (l : List UInt8) (v n : Nat) (w : World) (h : WrAt w B g l) (hB : B ≤ w.heap.size) (hl : l.length ≤ 900000) (hv : U64 v) (hn : n ≤ 8) :
    Calls Try.prog 100 #[.pointer (some ⟨g, 0, none⟩), .int .u64 (v : Int), .int .i64 (n : Int)] w fun e w' => e = .returned (.tuple #[]) ∧ WrAt w' B g (l ++ NumM.be n v) ∧ Only g w w' := by
  obtain ⟨A, c, h0, h1, h2, h3, h4⟩ := h.parts
  have hg := World.block_lt_of_cell? w _ h0
  have HP := Lib.hid (put_any A c l v n w (own_rd h2) (by omega) hv hn)
  have H2 := Lib.hid h2
  have hbl : (bvals l).length = l.length := bvals_length l
  have hlen : (l ++ NumM.be n v).length = l.length + n := by rw [List.length_append, NumM.be_length]
  have HL := Lib.hid hlen
  clear h2 hlen hbl h3
  go_enter Try.func100, Try.ntmps100
  go_wp2_with fail
  refine HP.out.mono ?_
  rintro e w1 ⟨rfl, ho, hb⟩
  have c0 := cell_keep h0 hb
  have c1 : w1.frozen? ⟨g, 0, none⟩ = false := (hb.frozen (p := ⟨g, 0, none⟩) hg).trans h1
  have HO := Lib.hid ho
  have hon := (Only.of_below (g := g) hb)
  have HB := Lib.hid ((hb.block g hg).trans h4)
  clear HP h0 h1 h4
  go_wp2_with fail
  go_end0
  refine ⟨rfl, ⟨some ⟨w.heap.size, 0, none⟩, l.length + n, ?_, ?_⟩, hon.set 0 _⟩
  · rw [HL.out]; exact blk_set HB.out _
  · rw [HL.out]
    have := HO.out
    unfold OwnB at this
    rw [HL.out] at this
    exact own_low (ownsRow_setCell_below this hg _) hB

theorem WrAt.kept {w w' : World} {B g : Nat} {l : List UInt8} (h : WrAt w B g l) (hb : Below w.heap.size w w') : WrAt w' B g l := by
  obtain ⟨A, c, h0, ⟨h2, h2'⟩⟩ := h
  refine ⟨A, c, (hb.block g (blk_lt h0)).trans h0, ⟨h2, ?_⟩⟩
  rcases h2' with ha | ⟨k, cap, cur, a1, a2, a3, a4⟩
  · exact .inl ha
  · exact .inr ⟨k, cap, cur, a1, a2, (hb.block k (blk_lt a3)).trans a3, a4⟩
/-- what a writing call leaves: bytes grown, or a panic. -/
def WOut (B g : Nat) (w : World) (l : List UInt8) (r : Out) (e : Ending) (w' : World) : Prop :=
  match r with
  | .ok b => e = .returned (.tuple #[]) ∧ WrAt w' B g (l ++ b) ∧ Only g w w'
  | .error c => e = .panicked [pv c] ∧ Only g w w'

set_option maxHeartbeats 400000 in
theorem bad_no (c : Int) (w : World) : Calls Try.prog 91 #[.int .i64 c, .bool false] w fun e w' => e = .returned (.tuple #[]) ∧ w = w' := by
  go_enter Try.func91, Try.ntmps91
  go_wp2
  go_end0
  exact ⟨rfl, rfl⟩
set_option maxHeartbeats 400000 in
theorem bad_yes (c : Int) (w : World) : Calls Try.prog 91 #[.int .i64 c, .bool true] w fun e w' => e = .panicked [pv c] ∧ w = w' := by
  go_enter Try.func91, Try.ntmps91
  go_wp2
  exact ⟨rfl, rfl, rfl⟩

set_option maxHeartbeats 400000 in
theorem wproc_any (B g : Nat) (l : List UInt8) (p : Int) (w : World) (h : WrAt w B g l) (hB : B ≤ w.heap.size) (hl : l.length ≤ 900000) :
    Calls Try.prog 102 #[.pointer (some ⟨g, 0, none⟩), .int .i64 p] w (WOut B g w l (procW p)) := by
  by_cases h0 : p < 0
  · have he : procW p = .error 1 := by unfold procW; rw [if_pos (.inl h0)]
    rw [he]
    have hd : decide (p < 0) = true := by simpa using h0
    go_enter Try.func102, Try.ntmps102
    go_wp2_with fail
    refine (bad_yes _ _).mono ?_
    rintro e w1 ⟨rfl, rfl⟩
    go_wp2_with fail
    exact ⟨rfl, rfl, Only.refl _ _⟩
  · have hd : decide (p < 0) = false := by simpa using h0
    by_cases h1 : 64 ≤ p
    · have he : procW p = .error 1 := by unfold procW; rw [if_pos (.inr h1)]
      rw [he]
      have hd1 : decide (64 ≤ p) = true := by simpa using h1
      go_enter Try.func102, Try.ntmps102
      go_wp2_with fail
      refine (bad_yes _ _).mono ?_
      rintro e w1 ⟨rfl, rfl⟩
      go_wp2_with fail
      exact ⟨rfl, rfl, Only.refl _ _⟩
    · have hd1 : decide (64 ≤ p) = false := by simpa using h1
      have he : procW p = .ok (NumM.be 1 p.toNat) := by unfold procW; rw [if_neg (by omega)]
      rw [he]
      obtain ⟨n, rfl⟩ : ∃ n : Nat, p = (n : Int) := ⟨p.toNat, by omega⟩
      have hw : IntKind.u64.wrap (n : Int) = (n : Int) := by rw [IntKind.wrap_u64]; omega
      have hU : U64 n := by unfold U64; omega
      go_enter Try.func102, Try.ntmps102
      go_wp2_with fail
      refine (bad_no _ _).mono ?_
      rintro e w1 ⟨rfl, rfl⟩
      go_wp2_with fail
      refine (wnum_any B g l n 1 w h hB hl hU (by omega)).mono ?_
      rintro e w1 ⟨rfl, hw1, ho1⟩
      go_wp2_with fail
      go_end0
      exact ⟨rfl, hw1, ho1⟩

theorem WOut.ret {B g : Nat} {w w' : World} {l b : List UInt8} (hw : WrAt w' B g (l ++ b)) (ho : Only g w w') : WOut B g w l (.ok b) (.returned (.tuple #[])) w' := ⟨rfl, hw, ho⟩
theorem Only.size {g : Nat} {a b : World} (h : Only g a b) : a.heap.size ≤ b.heap.size := World.grownBy.size h
theorem Only.cell' {g : Nat} {a b : World} (h : Only g a b) {k j : Nat} {v : Value} (hc : a.cell? ⟨k, j, none⟩ = some v) (hk : k ≠ g) : b.cell? ⟨k, j, none⟩ = some v :=
  World.grownBy.cell h hc (by simpa using hk)

set_option maxHeartbeats 800000 in
theorem wconf_any (B g : Nat) (l : List UInt8) (c : Cf) (w : World) (h : WrAt w B g l) (hB : B ≤ w.heap.size) (hl : l.length ≤ 800000) (hc : U64 c.e) :
    Calls Try.prog 98 #[.pointer (some ⟨g, 0, none⟩), .agg #[.int .u64 (c.e : Int), .int .i64 c.r]] w (WOut B g w l (confW c)) := by
  obtain ⟨e, r⟩ := c
  have hb0 : Below w.heap.size w (w.alloc (.cells #[.int .u64 (e : Int), .int .i64 r] 67)) := below_alloc (Below.refl _ _) _
  have h1 := h.kept hb0
  have hg : g < w.heap.size := h.lt
  have ho0 := Only.of_below (g := g) hb0
  have c1 : (w.alloc (.cells #[.int .u64 (e : Int), .int .i64 r] 67)).cell? ⟨w.heap.size, 1, none⟩ = some (.int .i64 r) := cell_top rfl rfl
  have HN := Lib.hid (fun W (hW : WrAt W B g l) (hs : B ≤ W.heap.size) => wnum_any B g l e 8 W hW hs (by omega) hc (by omega))
  have HP := Lib.hid (fun W (hW : WrAt W B g (l ++ NumM.be 8 e)) (hs : B ≤ W.heap.size) => wproc_any B g (l ++ NumM.be 8 e) r W hW hs (by rw [List.length_append, NumM.be_length]; omega))
  have hr : confW ⟨e, r⟩ = cat (.ok (NumM.be 8 e)) (procW r) := rfl
  rw [hr]
  clear hr hb0
  cases hp : procW r with
  | error x =>
    rw [hp] at HP
    go_enter Try.func98, Try.ntmps98
    go_wp2_with fail
    refine (HN.out _ h1 (by simp; omega)).mono ?_
    rintro e w1 ⟨rfl, hw1, ho1⟩
    have d1 := ho1.cell' c1 (by omega)
    have ho := ho0.trans ho1
    clear c1 ho0 ho1
    go_wp2_with fail
    refine (HP.out _ hw1 (Nat.le_trans hB ho.size)).mono ?_
    rintro e w2 ⟨rfl, ho2⟩
    go_wp2_with fail
    exact ⟨rfl, rfl, ho.trans ho2⟩
  | ok b =>
    rw [hp] at HP
    go_enter Try.func98, Try.ntmps98
    go_wp2_with fail
    refine (HN.out _ h1 (by simp; omega)).mono ?_
    rintro e w1 ⟨rfl, hw1, ho1⟩
    have d1 := ho1.cell' c1 (by omega)
    have ho := ho0.trans ho1
    clear c1 ho0 ho1
    go_wp2_with fail
    refine (HP.out _ hw1 (Nat.le_trans hB ho.size)).mono ?_
    rintro e w2 ⟨rfl, hw2, ho2⟩
    go_wp2_with fail
    go_end0
    rw [List.append_assoc] at hw2
    exact ⟨rfl, hw2, ho.trans ho2⟩
end Go.Proofs.Ythkfgjdbgnbjkaa
namespace Go.Proofs.Ythkfgjdbgnbjkaa
open Go.RowKit
set_option linter.unusedSimpArgs false
set_option linter.unusedVariables false

/-- a reader, and the bytes that are left. -/
def RdL (w : World) (g : Nat) (s : ByteArray) (l : List UInt8) : Prop := ∃ p, p ≤ s.size ∧ s.data.toList.drop p = l ∧ RdAt w g s p
theorem RdL.kept {w w' : World} {g : Nat} {s : ByteArray} {l : List UInt8} (h : RdL w g s l) (hb : Below w.heap.size w w') : RdL w' g s l := by
  obtain ⟨p, h1, h2, h3⟩ := h
  exact ⟨p, h1, h2, h3.kept hb⟩
theorem RdL.lt {w : World} {g : Nat} {s : ByteArray} {l : List UInt8} (h : RdL w g s l) : g < w.heap.size := by
  obtain ⟨p, h1, h2, h3⟩ := h
  exact World.block_lt_of_cell? w _ h3.1
/-- what a reading call leaves. -/
def ROut {α : Type} (enc : α → Value) (g : Nat) (w : World) (s : ByteArray) (r : In α) (e : Ending) (w' : World) : Prop :=
  match r with
  | .ok (v, l) => e = .returned (enc v) ∧ RdL w' g s l ∧ Only g w w'
  | .error c => e = .panicked [pv c] ∧ Only g w w'

theorem Only.drewN' {g : Nat} {a b : World} (h : Only g a b) (n : Nat) : Only g a (b.drewN n) := h.drewN n

set_option maxHeartbeats 400000 in
theorem text_short (g : Nat) (s : ByteArray) (p n : Nat) (w : World) (h : RdAt w g s p) (hs : s.size ≤ maxLen) (hp : p ≤ s.size) (hn : s.size < p + n) :
    Calls Try.prog 60 #[.pointer (some ⟨g, 0, none⟩), .int .i64 (n : Int)] w fun e w' => e = .panicked [pv 2] ∧ Only g w w' := by
  have hd : decide (((s.size - p : Nat) : Int) < (n : Int)) = true := by simp; omega
  go_enter Try.func60, Try.ntmps60
  go_wp2_with fail
  refine (left_any g s p w h hs hp).mono ?_
  rintro e w' ⟨rfl, m, rfl⟩
  go_wp2_with fail
  exact ⟨rfl, rfl, (Only.refl _ _).drewN m⟩
set_option maxHeartbeats 400000 in
theorem num_short (g : Nat) (s : ByteArray) (p n : Nat) (w : World) (h : RdAt w g s p) (hs : s.size ≤ maxLen) (h8 : n ≤ 8) (hp : p ≤ s.size) (hn : s.size < p + n) :
    Calls Try.prog 59 #[.pointer (some ⟨g, 0, none⟩), .int .i64 (n : Int)] w fun e w' => e = .panicked [pv 2] ∧ Only g w w' := by
  go_enter Try.func59, Try.ntmps59
  go_wp2_with fail
  refine (size_any _ _ (by omega) (by omega)).mono ?_
  rintro e w' ⟨rfl, rfl⟩
  go_wp2_with fail
  refine (text_short g s p n w h hs hp hn).mono ?_
  rintro e w' ⟨rfl, ho⟩
  go_wp2_with fail
  exact ⟨rfl, rfl, ho⟩

theorem rnum_any (g : Nat) (s : ByteArray) (l : List UInt8) (n : Nat) (w : World) (h : RdL w g s l) (hs : s.size ≤ 1000000) (h8 : n ≤ 8) :
    Calls Try.prog 59 #[.pointer (some ⟨g, 0, none⟩), .int .i64 (n : Int)] w (ROut (fun v : Nat => .int .u64 (v : Int)) g w s (numP n l)) := by
  obtain ⟨p, hp, rfl, hr⟩ := h
  have hm : s.size ≤ maxLen := by unfold maxLen; omega
  have hl : (s.data.toList.drop p).length = s.size - p := by rw [List.length_drop, size_data]
  unfold numP
  by_cases hn : s.size - p < n
  · rw [if_pos (by rw [hl]; exact hn)]
    exact num_short g s p n w hr hm h8 hp (by omega)
  · rw [if_neg (by rw [hl]; exact hn)]
    refine (num_ok g s p n w hr hm h8 (by omega)).mono ?_
    rintro e w' ⟨rfl, hr', ho⟩
    exact ⟨rfl, ⟨p + n, by omega, by rw [List.drop_drop], hr'⟩, ho⟩
theorem rtext_any (g : Nat) (s : ByteArray) (l : List UInt8) (n : Nat) (w : World) (h : RdL w g s l) (hs : s.size ≤ 1000000) :
    Calls Try.prog 60 #[.pointer (some ⟨g, 0, none⟩), .int .i64 (n : Int)] w (ROut (fun v : ByteArray => .string v) g w s (textP n l)) := by
  obtain ⟨p, hp, rfl, hr⟩ := h
  have hm : s.size ≤ maxLen := by unfold maxLen; omega
  have hl : (s.data.toList.drop p).length = s.size - p := by rw [List.length_drop, size_data]
  unfold textP
  by_cases hn : s.size - p < n
  · rw [if_pos (by rw [hl]; exact hn)]
    exact text_short g s p n w hr hm hp (by omega)
  · rw [if_neg (by rw [hl]; exact hn)]
    refine (text_ok g s p n w hr hm (by omega)).mono ?_
    rintro e w' ⟨rfl, hr', ho⟩
    refine ⟨congrArg (fun b => Ending.returned (Value.string b)) ?_, ⟨p + n, by omega, by rw [List.drop_drop], hr'⟩, ho⟩
    apply WideShapes.bytes_inj
    rw [Lib.extract_data]
    simp [Nat.add_sub_cancel_left]
end Go.Proofs.Ythkfgjdbgnbjkaa
namespace Go.Proofs.Ythkfgjdbgnbjkaa
open Go.RowKit
set_option linter.unusedSimpArgs false
set_option linter.unusedVariables false

theorem numP_ok {n : Nat} {l r : List UInt8} {v : Nat} (h : numP n l = .ok (v, r)) : v < 256 ^ n ∧ n ≤ l.length ∧ r = l.drop n ∧ v = NumM.val (l.take n) := by
  unfold numP at h
  split at h
  · cases h
  · rename_i hn
    cases h
    exact ⟨NumM.val_take_lt _ n (by rw [List.length_take]; omega), by omega, rfl, rfl⟩
theorem set_other {w : World} {k j K m : Nat} {v u : Value} (h : w.cell? ⟨k, j, none⟩ = some v) (hne : k ≠ K) : (w.setCell ⟨K, m, none⟩ u).cell? ⟨k, j, none⟩ = some v :=
  (World.cell?_setCell_other _ _ _ _ (by
    intro e
    injection e with e
    exact hne e.symm)).trans h

/-- a way that is closed leaves a walk of no operations: go_region_with bears one goal, no less. -/
theorem shut_way {G : Prop} (w : World) (h : G) (_ : wpAny Try.prog Region.Mode.any #[] (fun _ _ _ => True) 0 #[] { tmps := #[], defers := [] } w) : G := h

set_option maxHeartbeats 800000 in
theorem rproc_any' (g : Nat) (s : ByteArray) (l : List UInt8) (w : World) (h : RdL w g s l) (hs : s.size ≤ 1000000) :
    Calls Try.prog 89 #[.agg #[.pointer (some ⟨g, 0, none⟩)]] w (ROut (fun v : Int => .int .i64 v) g w s (procP l)) := by
  have hb0 : Below w.heap.size w (w.alloc (.cells #[.pointer (some ⟨g, 0, none⟩)] 110)) := below_alloc (Below.refl _ _) _
  have ho0 := Only.of_below (g := g) hb0
  have H1 := Lib.hid (rnum_any g s l 1 _ (h.kept hb0) hs (by omega))
  unfold procP
  cases hn : numP 1 l with
  | error c =>
    rw [hn] at H1
    go_enter Try.func89, Try.ntmps89
    go_wp2_with fail
    refine H1.out.mono ?_
    rintro e w1 ⟨rfl, ho1⟩
    go_wp2_with fail
    exact ⟨rfl, rfl, ho0.trans ho1⟩
  | ok x =>
    obtain ⟨v, r⟩ := x
    have hv' : v < 256 := (numP_ok hn).1
    rw [hn] at H1
    have ew : IntKind.i64.wrap (v : Int) = (v : Int) := IntWalk.i64_in _ (by omega)
    by_cases h64 : 64 ≤ v
    · have hd : decide ((64 : Int) ≤ (v : Int)) = true := by simp; omega
      have hdn : decide (64 ≤ v) = true := by simpa using h64
      have hr : andP (.ok (v, r)) (fun v r => if 64 ≤ v then (.error 1 : In Int) else .ok ((v : Int), r)) = .error 1 := by unfold andP; simp only [if_pos h64]
      rw [hr]
      go_enter Try.func89, Try.ntmps89
      go_wp2_with fail
      refine H1.out.mono ?_
      rintro e w1 ⟨rfl, hr1, ho1⟩
      go_wp2_with fail
      refine (bad_yes _ _).mono ?_
      rintro e w2 ⟨rfl, rfl⟩
      go_wp2_with fail
      exact ⟨rfl, rfl, ho0.trans ho1⟩
    · have hd : decide ((64 : Int) ≤ (v : Int)) = false := by simp; omega
      have hdn : decide (64 ≤ v) = false := by simpa using h64
      have hr : andP (.ok (v, r)) (fun v r => if 64 ≤ v then (.error 1 : In Int) else .ok ((v : Int), r)) = .ok ((v : Int), r) := by unfold andP; simp only [if_neg h64]
      rw [hr]
      go_enter Try.func89, Try.ntmps89
      go_wp2_with fail
      refine H1.out.mono ?_
      rintro e w1 ⟨rfl, hr1, ho1⟩
      go_wp2_with fail
      refine (bad_no _ _).mono ?_
      rintro e w2 ⟨rfl, rfl⟩
      go_wp2_with fail
      go_ret
      exact ⟨rfl, hr1, ho0.trans ho1⟩

end Go.Proofs.Ythkfgjdbgnbjkaa
namespace Go.Proofs.Ythkfgjdbgnbjkaa
open Go.RowKit
set_option linter.unusedSimpArgs false
set_option linter.unusedVariables false

set_option maxHeartbeats 800000 in
theorem wkey_any (B g : Nat) (l : List UInt8) (c : Ky) (w : World) (h : WrAt w B g l) (hB : B ≤ w.heap.size) (hl : l.length ≤ 800000) (hc : U64 c.s) :
    Calls Try.prog 106 #[.pointer (some ⟨g, 0, none⟩), .agg #[.int .u64 (c.s : Int), .int .i64 c.f]] w (WOut B g w l (keyW c)) := by
  obtain ⟨e, r⟩ := c
  have hb0 : Below w.heap.size w (w.alloc (.cells #[.int .u64 (e : Int), .int .i64 r] 84)) := below_alloc (Below.refl _ _) _
  have h1 := h.kept hb0
  have hg : g < w.heap.size := h.lt
  have ho0 := Only.of_below (g := g) hb0
  have c1 : (w.alloc (.cells #[.int .u64 (e : Int), .int .i64 r] 84)).cell? ⟨w.heap.size, 1, none⟩ = some (.int .i64 r) := cell_top rfl rfl
  have HN := Lib.hid (fun W (hW : WrAt W B g l) (hs : B ≤ W.heap.size) => wnum_any B g l e 8 W hW hs (by omega) hc (by omega))
  have HP := Lib.hid (fun W (hW : WrAt W B g (l ++ NumM.be 8 e)) (hs : B ≤ W.heap.size) => wproc_any B g (l ++ NumM.be 8 e) r W hW hs (by rw [List.length_append, NumM.be_length]; omega))
  have hr : keyW ⟨e, r⟩ = cat (.ok (NumM.be 8 e)) (procW r) := rfl
  rw [hr]
  clear hr hb0
  cases hp : procW r with
  | error x =>
    rw [hp] at HP
    go_enter Try.func106, Try.ntmps106
    go_wp2_with fail
    refine (HN.out _ h1 (by simp; omega)).mono ?_
    rintro e w1 ⟨rfl, hw1, ho1⟩
    have d1 := ho1.cell' c1 (by omega)
    have ho := ho0.trans ho1
    clear c1 ho0 ho1
    go_wp2_with fail
    refine (HP.out _ hw1 (Nat.le_trans hB ho.size)).mono ?_
    rintro e w2 ⟨rfl, ho2⟩
    go_wp2_with fail
    exact ⟨rfl, rfl, ho.trans ho2⟩
  | ok b =>
    rw [hp] at HP
    go_enter Try.func106, Try.ntmps106
    go_wp2_with fail
    refine (HN.out _ h1 (by simp; omega)).mono ?_
    rintro e w1 ⟨rfl, hw1, ho1⟩
    have d1 := ho1.cell' c1 (by omega)
    have ho := ho0.trans ho1
    clear c1 ho0 ho1
    go_wp2_with fail
    refine (HP.out _ hw1 (Nat.le_trans hB ho.size)).mono ?_
    rintro e w2 ⟨rfl, hw2, ho2⟩
    go_wp2_with fail
    go_end0
    rw [List.append_assoc] at hw2
    exact ⟨rfl, hw2, ho.trans ho2⟩

/-- a row of uint32 values. -/
def RdU (w : World) (A : Option Addr) (l : List Nat) : Prop := ∀ i, i < l.length → ∃ ad, A = some ad ∧ w.cell? (ad.add i) = some (.int .u32 (l.getD i 0 : Int))
/-- it stays, whatever is done to the writer. -/
def EverU (g : Nat) (w : World) (A : Option Addr) (l : List Nat) : Prop := ∀ w', Only g w w' → RdU w' A l
theorem EverU.on {g : Nat} {w w1 : World} {A : Option Addr} {l : List Nat} (h : EverU g w A l) (ho : Only g w w1) : EverU g w1 A l := fun w' h' => h w' (ho.trans h')
theorem fours_snoc (l : List Nat) (v : Nat) : fours (l ++ [v]) = fours l ++ NumM.be 4 v := by
  induction l with
  | nil => simp [fours]
  | cons a l ih => rw [List.cons_append, fours, fours, ih, List.append_assoc]
theorem fours_take (l : List Nat) (k : Nat) (h : k < l.length) : fours (l.take (k + 1)) = fours (l.take k) ++ NumM.be 4 (l.getD k 0) := by
  rw [List.take_succ_eq_append_getElem h, fours_snoc]
  simp [List.getD, List.getElem?_eq_getElem h]
theorem fours_length (l : List Nat) : (fours l).length = 4 * l.length := by
  induction l with
  | nil => rfl
  | cons a l ih => rw [fours, List.length_append, NumM.be_length, ih, List.length_cons]; omega

set_option maxHeartbeats 800000 in
theorem wvec_any (B g : Nat) (l : List UInt8) (A : Option Addr) (c : Nat) (us : List Nat) (w : World) (h : WrAt w B g l) (hB : B ≤ w.heap.size) (hl : l.length ≤ 800000) (hu : ∀ v ∈ us, v < 4294967296) (hA : EverU g w A us) :
    Calls Try.prog 101 #[.pointer (some ⟨g, 0, none⟩), .slice A us.length c] w (WOut B g w l (vecW us)) := by
  by_cases h64 : 64 < us.length
  · have he : vecW us = .error 3 := by unfold vecW; rw [if_pos h64]
    rw [he]
    have hd : decide (64 < (us.length : Int)) = true := by simp; omega
    go_enter Try.func101, Try.ntmps101
    go_wp2_with fail
    refine (bad_yes _ _).mono ?_
    rintro e w1 ⟨rfl, rfl⟩
    go_wp2_with fail
    exact ⟨rfl, rfl, Only.refl _ _⟩
  · have he : vecW us = .ok (NumM.be 1 us.length ++ fours us) := by unfold vecW; rw [if_neg h64]
    rw [he]
    clear he
    have hd : decide (64 < (us.length : Int)) = false := by simp; omega
    have HN := Lib.hid (wnum_any B g l us.length 1 w h hB (by omega) (by unfold U64; omega) (by omega))
    have HU := Lib.hid hu
    have HA := Lib.hid hA
    have ew : IntKind.u64.wrap (us.length : Int) = (us.length : Int) := by rw [IntKind.wrap_u64]; omega
    clear hu hA h
    generalize hn : us.length = n at *
    have HL := Lib.hid hn
    clear hn
    go_enter Try.func101, Try.ntmps101
    go_wp2_with fail
    refine (bad_no _ _).mono ?_
    rintro e w1 ⟨rfl, rfl⟩
    go_wp2_with fail
    refine HN.out.mono ?_
    rintro e w1 ⟨rfl, hw1, ho1⟩
    have HW := Lib.hid hw1
    clear HN hw1
    go_wp2_with fail
    go_loopw [17] (fun i wr => ∃ k : Nat, k ≤ n ∧ i = .int .i64 k ∧ Hid (WrAt wr B g (l ++ NumM.be 1 n ++ fours (us.take k))) ∧ Only g w wr) (fun i _ => n - (intOf i).toNat)
    case atStart => exact ⟨0, by omega, rfl, by simpa [fours] using HW, ho1⟩
    case round =>
      clear HW ho1
      obtain ⟨k, hk, rfl, HW, ho⟩ := hrel
      by_cases hlt : k < n
      · obtain ⟨ad, rfl, hc⟩ := HA.out wr ho k (by rw [HL.out]; exact hlt)
        have hv : us.getD k 0 < 4294967296 := by
          have hk' : k < us.length := by rw [HL.out]; exact hlt
          simp only [List.getD, List.getElem?_eq_getElem hk', Option.getD_some]
          exact HU.out _ (List.getElem_mem _)
        have HT := Lib.hid (fours_take us k (by rw [HL.out]; exact hlt))
        have hfl := fours_length (us.take k)
        have htl : (us.take k).length = k := by rw [List.length_take, HL.out]; omega
        generalize us.getD k 0 = v at *
        have HN := Lib.hid (wnum_any B g _ v 4 wr HW.out (Nat.le_trans hB ho.size) (by rw [List.length_append, List.length_append, NumM.be_length, hfl]; omega) (by unfold U64; omega) (by omega))
        have ev : IntKind.u64.wrap (v : Int) = (v : Int) := by rw [IntKind.wrap_u64]; omega
        clear hfl htl
        go_wp2_with fail
        refine HN.out.mono ?_
        rintro e w2 ⟨rfl, hw2, ho2⟩
        have HW2 := Lib.hid hw2
        clear HN hw2
        go_wp2_with fail
        go_roundw
        case rel => exact ⟨k + 1, by omega, by go_num, by rw [HT.out, ← List.append_assoc]; exact HW2, ho.trans ho2⟩
        case measure => simp [intOf]; omega
      · obtain rfl : k = n := by omega
        have HE := Lib.hid (show us.take k = us from List.take_of_length_le (by rw [HL.out]; omega))
        go_wp2_with fail
        go_end0
        refine ⟨rfl, ?_, ho⟩
        have := HW.out
        rw [HE.out, List.append_assoc] at this
        exact this

/-- an exchange's six values; its vector lies at A. -/
def exV (x : Ex) (A : Option Addr) (c : Nat) : Value := .agg #[.int .i64 x.who, .int .u64 (x.old.e : Int), .int .i64 x.old.r, .slice A x.cnt.length c, .int .u64 (x.last.s : Int), .int .i64 x.last.f]
/-- numbers within their kinds. -/
structure Ex.fits (x : Ex) : Prop where
  old : U64 x.old.e
  cnt : ∀ v ∈ x.cnt, v < 4294967296
  last : U64 x.last.s

theorem out_len {r : Out} {b : List UInt8} {n : Nat} (h : r = .ok b) (hn : ∀ b, r = .ok b → b.length ≤ n) : b.length ≤ n := hn b h
theorem procW_len {p : Int} {b : List UInt8} (h : procW p = .ok b) : b.length = 1 := by
  unfold procW at h
  split at h
  · cases h
  · cases h; exact NumM.be_length _ _
theorem cat_ok {a b : Out} {l : List UInt8} (h : cat a b = .ok l) : ∃ x y, a = .ok x ∧ b = .ok y ∧ l = x ++ y := by
  unfold cat at h
  split at h
  · cases h
  · split at h
    · cases h
    · cases h; exact ⟨_, _, rfl, rfl, rfl⟩
theorem confW_len {c : Cf} {b : List UInt8} (h : confW c = .ok b) : b.length = 9 := by
  obtain ⟨x, y, hx, hy, rfl⟩ := cat_ok h
  cases hx
  rw [List.length_append, NumM.be_length, procW_len hy]
theorem keyW_len {c : Ky} {b : List UInt8} (h : keyW c = .ok b) : b.length = 9 := by
  obtain ⟨x, y, hx, hy, rfl⟩ := cat_ok h
  cases hx
  rw [List.length_append, NumM.be_length, procW_len hy]
theorem vecW_len {us : List Nat} {b : List UInt8} (h : vecW us = .ok b) : b.length ≤ 257 := by
  unfold vecW at h
  split at h
  · cases h
  · cases h
    rw [List.length_append, NumM.be_length, fours_length]
    omega
theorem exW_len {x : Ex} {b : List UInt8} (h : exW x = .ok b) : b.length ≤ 276 := by
  obtain ⟨b1, r1, h1, k1, rfl⟩ := cat_ok h
  obtain ⟨b2, r2, h2, k2, rfl⟩ := cat_ok k1
  obtain ⟨b3, r3, h3, k3, rfl⟩ := cat_ok k2
  have := procW_len h1
  have := confW_len h2
  have := vecW_len h3
  have := keyW_len k3
  simp only [List.length_append]
  omega

set_option maxHeartbeats 1600000 in
theorem wex_any (B g : Nat) (l : List UInt8) (x : Ex) (A : Option Addr) (c : Nat) (w : World) (h : WrAt w B g l) (hB : B ≤ w.heap.size) (hl : l.length ≤ 700000) (hf : x.fits) (hA : EverU g w A x.cnt) :
    Calls Try.prog 103 #[.pointer (some ⟨g, 0, none⟩), exV x A c] w (WOut B g w l (exW x)) := by
  obtain ⟨who, ⟨oe, orr⟩, cnt, ⟨ls, lf⟩⟩ := x
  obtain ⟨f1, f2, f3⟩ := hf
  unfold exV
  have hb0 : Below w.heap.size w (w.alloc (.cells #[.int .i64 who, .int .u64 (oe : Int), .int .i64 orr, .slice A cnt.length c, .int .u64 (ls : Int), .int .i64 lf] 86)) := below_alloc (Below.refl _ _) _
  have h1 := h.kept hb0
  have hg : g < w.heap.size := h.lt
  have ho0 := Only.of_below (g := g) hb0
  have hA1 := hA.on ho0
  have c1 : (w.alloc (.cells #[.int .i64 who, .int .u64 (oe : Int), .int .i64 orr, .slice A cnt.length c, .int .u64 (ls : Int), .int .i64 lf] 86)).cell? ⟨w.heap.size, 1, none⟩ = some (.int .u64 (oe : Int)) := cell_top rfl rfl
  have c2 : (w.alloc (.cells #[.int .i64 who, .int .u64 (oe : Int), .int .i64 orr, .slice A cnt.length c, .int .u64 (ls : Int), .int .i64 lf] 86)).cell? ⟨w.heap.size, 2, none⟩ = some (.int .i64 orr) := cell_top rfl rfl
  have c3 : (w.alloc (.cells #[.int .i64 who, .int .u64 (oe : Int), .int .i64 orr, .slice A cnt.length c, .int .u64 (ls : Int), .int .i64 lf] 86)).cell? ⟨w.heap.size, 3, none⟩ = some (.slice A cnt.length c) := cell_top rfl rfl
  have c4 : (w.alloc (.cells #[.int .i64 who, .int .u64 (oe : Int), .int .i64 orr, .slice A cnt.length c, .int .u64 (ls : Int), .int .i64 lf] 86)).cell? ⟨w.heap.size, 4, none⟩ = some (.int .u64 (ls : Int)) := cell_top rfl rfl
  have c5 : (w.alloc (.cells #[.int .i64 who, .int .u64 (oe : Int), .int .i64 orr, .slice A cnt.length c, .int .u64 (ls : Int), .int .i64 lf] 86)).cell? ⟨w.heap.size, 5, none⟩ = some (.int .i64 lf) := cell_top rfl rfl
  have H1 := Lib.hid (fun W (hW : WrAt W B g l) (hs : B ≤ W.heap.size) => wproc_any B g l who W hW hs (by omega))
  have hr : exW ⟨who, ⟨oe, orr⟩, cnt, ⟨ls, lf⟩⟩ = cat (procW who) (cat (confW ⟨oe, orr⟩) (cat (vecW cnt) (keyW ⟨ls, lf⟩))) := rfl
  rw [hr]
  clear hr hb0 hA h
  have HA := Lib.hid hA1
  clear hA1
  go_enter Try.func103, Try.ntmps103
  go_wp2_with fail
  refine (H1.out _ h1 (by simp; omega)).mono ?_
  cases hp1 : procW who with
  | error x =>
    rintro e w1 ⟨rfl, ho1⟩
    go_wp2_with fail
    exact ⟨rfl, rfl, ho0.trans ho1⟩
  | ok b1 =>
  rintro e w1 ⟨rfl, hw1, ho1⟩
  have n1 := procW_len hp1
  have d1 := ho1.cell' c1 (by omega)
  have d2 := ho1.cell' c2 (by omega)
  have d3 := ho1.cell' c3 (by omega)
  have d4 := ho1.cell' c4 (by omega)
  have d5 := ho1.cell' c5 (by omega)
  have HA1 := Lib.hid (HA.out.on ho1)
  have ho := ho0.trans ho1
  clear c1 c2 c3 c4 c5 ho0 ho1 HA H1
  have H2 := Lib.hid (wconf_any B g (l ++ b1) ⟨oe, orr⟩ w1 hw1 (Nat.le_trans hB ho.size) (by rw [List.length_append]; omega) f1)
  clear hw1
  go_wp2_with fail
  refine H2.out.mono ?_
  cases hp2 : confW ⟨oe, orr⟩ with
  | error x =>
    rintro e w2 ⟨rfl, ho2⟩
    go_wp2_with fail
    exact ⟨rfl, rfl, ho.trans ho2⟩
  | ok b2 =>
  rintro e w2 ⟨rfl, hw2, ho2⟩
  have n2 := confW_len hp2
  have e3 := ho2.cell' d3 (by omega)
  have e4 := ho2.cell' d4 (by omega)
  have e5 := ho2.cell' d5 (by omega)
  have HA2 := Lib.hid (HA1.out.on ho2)
  have hoo := ho.trans ho2
  clear d1 d2 d3 d4 d5 ho ho2 HA1 H2
  have H3 := Lib.hid (wvec_any B g (l ++ b1 ++ b2) A c cnt w2 hw2 (Nat.le_trans hB hoo.size) (by rw [List.length_append, List.length_append]; omega) f2 HA2.out)
  clear hw2
  go_wp2_with fail
  refine H3.out.mono ?_
  cases hp3 : vecW cnt with
  | error x =>
    rintro e w3 ⟨rfl, ho3⟩
    go_wp2_with fail
    exact ⟨rfl, rfl, hoo.trans ho3⟩
  | ok b3 =>
  rintro e w3 ⟨rfl, hw3, ho3⟩
  have n3 := vecW_len hp3
  have i4 := ho3.cell' e4 (by omega)
  have i5 := ho3.cell' e5 (by omega)
  have ho := hoo.trans ho3
  clear e3 e4 e5 hoo ho3 HA2 H3
  have H4 := Lib.hid (wkey_any B g (l ++ b1 ++ b2 ++ b3) ⟨ls, lf⟩ w3 hw3 (Nat.le_trans hB ho.size) (by rw [List.length_append, List.length_append, List.length_append]; omega) f3)
  clear hw3
  go_wp2_with fail
  refine H4.out.mono ?_
  cases hp4 : keyW ⟨ls, lf⟩ with
  | error x =>
    rintro e w4 ⟨rfl, ho4⟩
    go_wp2_with fail
    exact ⟨rfl, rfl, ho.trans ho4⟩
  | ok b4 =>
  rintro e w4 ⟨rfl, hw4, ho4⟩
  go_wp2_with fail
  go_end0
  rw [hp1, hp2, hp3, hp4]
  refine ⟨rfl, ?_, ho.trans ho4⟩
  simpa only [List.append_assoc] using hw4
end Go.Proofs.Ythkfgjdbgnbjkaa
namespace Go.Proofs.Ythkfgjdbgnbjkaa
open Go.RowKit
set_option linter.unusedSimpArgs false
set_option linter.unusedVariables false

/-- append of a string's bytes to a row of the call's own, as one step of a region that draws. -/
theorem step_append_text {P : Program} {ops : Array Oper} {o : Oper} {a : Act} {w : World} {K : Act → World → Prop} {Q : Exit → Act → World → Prop} {E : Prop}
    (hg : o.guard = none) (s x : Operand) (t u : TypeId) (hop : o.op = Op.call { callee := Callee.builtin Builtin.append, args := #[s, x], argTypes := #[t, u] })
    (base : Nat) (e : TypeId) (i : TypeInfo) (h1 : P.underlying t = some (.slice e)) (h2 : P.underlying u = some .string) (h3 : P.info? e = some i) (h4 : i.zero = some (.int .u8 0)) (h5 : i.size = 1) (h6 : i.bytes = 1)
    (v : Value) (n : Nat) (xs : List Value) (hs : a.eval s = v) (hown : w.ownsRow base e 1 v n xs) (str : ByteArray) (hx : a.eval x = .string str)
    (b1 : n + str.size ≤ maxLen) (b2 : n + str.size ≤ 140737488355328) (b3 : base ≤ w.heap.size)
    (hK : ∀ v' w', w'.ownsRow base e 1 v' (n + str.size) (xs ++ Lib.strCells str) → w.grownBy w' v.ownBlock → K (a.put o.dst v') w') :
    if Region.wanted o (yielded ops a.tmps) = true then Oper.wp P o a w K Q else E := by
  have hw : Region.wanted o (yielded ops a.tmps) = true := by simp [Region.wanted, hg]
  rw [if_pos hw]
  obtain ⟨v', w', hrun, r1, r2, _⟩ := Lib.run_append_own_string (P := P) w base t u o.type e i h1 h2 h3 h4 h5 h6 v n xs hown str b1 b2 b3
  unfold Oper.wp
  simp [execOp, hop, resolve, invoke, builtin, hs, hx, hrun, Result.andThen]
  exact hK v' w' r1 r2
theorem strCells_bvals (s : ByteArray) : Lib.strCells s = bvals s.data.toList := by
  unfold Lib.strCells bvals
  simp
theorem own_base {w : World} {base : Nat} {v : Value} {n k : Nat} {xs : List Value} (h : w.ownsRow base 5 1 v n xs) (hk : v.ownBlock = some k) : base ≤ k := by
  rcases h.2 with ⟨rfl, rfl⟩ | ⟨g, cap, cur, rfl, hb, _⟩
  · cases hk
  · have : g = k := by simpa [Value.ownBlock] using hk
    omega
theorem own_set {w : World} {base : Nat} {v : Value} {n g : Nat} {xs : List Value} (h : w.ownsRow base 5 1 v n xs) (hne : v.ownBlock ≠ some g) (u : Value) : (w.setCell ⟨g, 0, none⟩ u).ownsRow base 5 1 v n xs := by
  refine h.kept (row := some g) ⟨rfl, rfl, rfl, by simp [World.setCell], fun k hk hkg => Below.heap_setCell w _ u k (by simpa using hkg)⟩ (.inr hne)
theorem own_form {w : World} {base : Nat} {v : Value} {n : Nat} {xs : List Value} (h : w.ownsRow base 5 1 v n xs) : ∃ A c, v = .slice A n c := by
  rcases h.2 with ⟨rfl, rfl⟩ | ⟨g, cap, cur, rfl, _⟩
  · exact ⟨none, 0, rfl⟩
  · exact ⟨_, cap, rfl⟩

/-- a message's six values; its vector lies at A. -/
def msV (m : Ms) (A : Option Addr) (c : Nat) : Value := .agg #[.int .i64 m.src, .int .u32 (m.seq : Int), .int .u64 (m.stamp : Int), .int .i64 m.svc, .slice A m.deps.length c, .string m.pay]
structure Ms.fits (m : Ms) : Prop where
  seq : m.seq < 4294967296
  stamp : U64 m.stamp
  deps : ∀ v ∈ m.deps, v < 4294967296
/-- as WOut, the writer's own rows too may have turned. -/
def WOutB (B g : Nat) (w : World) (l : List UInt8) (r : Out) (e : Ending) (w' : World) : Prop :=
  match r with
  | .ok b => e = .returned (.tuple #[]) ∧ WrAt w' B g (l ++ b) ∧ Below B w w'
  | .error c => e = .panicked [pv c] ∧ Below B w w'
theorem Only.to_below {B g : Nat} {w w' : World} (h : Only g w w') (hB : B ≤ w.heap.size) (hg : B ≤ g) : Below B w w' := Only.below (Below.refl B w) h hB hg

set_option maxHeartbeats 3200000 in
theorem wmsg_any (B g : Nat) (l : List UInt8) (m : Ms) (A : Option Addr) (c : Nat) (w : World) (h : WrAt w B g l) (hB : B ≤ w.heap.size) (hBg : B ≤ g) (hl : l.length ≤ 700000) (hf : m.fits) (hA : EverU g w A m.deps) :
    Calls Try.prog 99 #[.pointer (some ⟨g, 0, none⟩), msV m A c] w (WOutB B g w l (msgW m)) := by
  obtain ⟨src, seq, stamp, svc, deps, pay⟩ := m
  have f1 : seq < 4294967296 := hf.seq
  have f2 : U64 stamp := hf.stamp
  have f3 : ∀ v ∈ deps, v < 4294967296 := hf.deps
  clear hf
  unfold msV
  have hb0 : Below w.heap.size w (w.alloc (.cells #[.int .i64 src, .int .u32 (seq : Int), .int .u64 (stamp : Int), .int .i64 svc, .slice A deps.length c, .string pay] 70)) := below_alloc (Below.refl _ _) _
  have h1 := h.kept hb0
  have hg : g < w.heap.size := h.lt
  have ho0 := Only.of_below (g := g) hb0
  have hA1 := hA.on ho0
  have c1 : (w.alloc (.cells #[.int .i64 src, .int .u32 (seq : Int), .int .u64 (stamp : Int), .int .i64 svc, .slice A deps.length c, .string pay] 70)).cell? ⟨w.heap.size, 1, none⟩ = some (.int .u32 (seq : Int)) := cell_top rfl rfl
  have c2 : (w.alloc (.cells #[.int .i64 src, .int .u32 (seq : Int), .int .u64 (stamp : Int), .int .i64 svc, .slice A deps.length c, .string pay] 70)).cell? ⟨w.heap.size, 2, none⟩ = some (.int .u64 (stamp : Int)) := cell_top rfl rfl
  have c3 : (w.alloc (.cells #[.int .i64 src, .int .u32 (seq : Int), .int .u64 (stamp : Int), .int .i64 svc, .slice A deps.length c, .string pay] 70)).cell? ⟨w.heap.size, 3, none⟩ = some (.int .i64 svc) := cell_top rfl rfl
  have c4 : (w.alloc (.cells #[.int .i64 src, .int .u32 (seq : Int), .int .u64 (stamp : Int), .int .i64 svc, .slice A deps.length c, .string pay] 70)).cell? ⟨w.heap.size, 4, none⟩ = some (.slice A deps.length c) := cell_top rfl rfl
  have c5 : (w.alloc (.cells #[.int .i64 src, .int .u32 (seq : Int), .int .u64 (stamp : Int), .int .i64 svc, .slice A deps.length c, .string pay] 70)).cell? ⟨w.heap.size, 5, none⟩ = some (.string pay) := cell_top rfl rfl
  clear h hA
  by_cases hs0 : svc < 0
  · have he : msgW ⟨src, seq, stamp, svc, deps, pay⟩ = .error 1 := by unfold msgW; rw [if_pos (.inl hs0)]
    rw [he]
    have hd : decide (svc < 0) = true := by simpa using hs0
    go_enter Try.func99, Try.ntmps99
    go_wp2_with fail
    refine (bad_yes _ _).mono ?_
    rintro e w1 ⟨rfl, rfl⟩
    go_wp2_with fail
    exact ⟨rfl, rfl, ho0.to_below hB hBg⟩
  have hd0 : decide (svc < 0) = false := by simpa using hs0
  by_cases hs1 : 2 < svc
  · have he : msgW ⟨src, seq, stamp, svc, deps, pay⟩ = .error 1 := by unfold msgW; rw [if_pos (.inr hs1)]
    rw [he]
    have hd : decide (2 < svc) = true := by simpa using hs1
    go_enter Try.func99, Try.ntmps99
    go_wp2_with fail
    refine (bad_yes _ _).mono ?_
    rintro e w1 ⟨rfl, rfl⟩
    go_wp2_with fail
    exact ⟨rfl, rfl, ho0.to_below hB hBg⟩
  have hd1 : decide (2 < svc) = false := by simpa using hs1
  by_cases hp : 1024 < pay.size
  · have he : msgW ⟨src, seq, stamp, svc, deps, pay⟩ = .error 3 := by unfold msgW; rw [if_neg (by simp only; omega), if_pos hp]
    rw [he]
    have hd : decide (1024 < (pay.size : Int)) = true := by simp; omega
    go_enter Try.func99, Try.ntmps99
    go_wp2_with fail
    refine (bad_no _ _).mono ?_
    rintro e w1 ⟨rfl, rfl⟩
    go_wp2_with fail
    refine (bad_yes _ _).mono ?_
    rintro e w1 ⟨rfl, rfl⟩
    go_wp2_with fail
    exact ⟨rfl, rfl, ho0.to_below hB hBg⟩
  have hd2 : decide (1024 < (pay.size : Int)) = false := by simp; omega
  obtain ⟨sv, rfl⟩ : ∃ n : Nat, svc = (n : Int) := ⟨svc.toNat, by omega⟩
  have he : msgW ⟨src, seq, stamp, (sv : Int), deps, pay⟩ = cat (.ok (NumM.be 4 seq ++ NumM.be 8 stamp ++ NumM.be 1 sv)) (cat (vecW deps) (.ok (NumM.be 2 pay.size ++ pay.data.toList))) := by
    unfold msgW; rw [if_neg (by simp only; omega), if_neg (by simp only; omega)]; rfl
  rw [he]
  have hsv : sv ≤ 2 := by omega
  clear he hs0 hs1
  have HA := Lib.hid hA1
  have w1q : IntKind.u64.wrap (seq : Int) = (seq : Int) := by rw [IntKind.wrap_u64]; omega
  have w2q : IntKind.u64.wrap (sv : Int) = (sv : Int) := by rw [IntKind.wrap_u64]; omega
  have w3q : IntKind.u64.wrap (pay.size : Int) = (pay.size : Int) := by rw [IntKind.wrap_u64]; omega
  have F3 := Lib.hid f3
  have Lseq : U64 seq := by unfold U64; omega
  have Lsv : U64 sv := by unfold U64; omega
  have Lpay : U64 pay.size := by unfold U64; omega
  have hpp : pay.size ≤ 1024 := by omega
  have H1 := Lib.hid (fun W (hW : WrAt W B g l) (hs : B ≤ W.heap.size) => wnum_any B g l seq 4 W hW hs (by omega) Lseq (by omega))
  clear hA1 f3 hp
  go_enter Try.func99, Try.ntmps99
  go_wp2_with fail
  refine (bad_no _ _).mono ?_
  rintro e w1 ⟨rfl, rfl⟩
  go_wp2_with fail
  refine (bad_no _ _).mono ?_
  rintro e w1 ⟨rfl, rfl⟩
  go_wp2_with fail
  refine (H1.out _ h1 (by simp; omega)).mono ?_
  rintro e w1 ⟨rfl, hw1, ho1⟩
  have d2 := ho1.cell' c2 (by omega)
  have d3 := ho1.cell' c3 (by omega)
  have d4 := ho1.cell' c4 (by omega)
  have d5 := ho1.cell' c5 (by omega)
  have HA1 := Lib.hid (HA.out.on ho1)
  have ho := ho0.trans ho1
  clear c1 c2 c3 c4 c5 ho0 ho1 HA H1
  have H2 := Lib.hid (wnum_any B g _ stamp 8 w1 hw1 (Nat.le_trans hB ho.size) (by rw [List.length_append, NumM.be_length]; omega) f2 (by omega))
  clear hw1
  go_wp2_with fail
  refine H2.out.mono ?_
  rintro e w2 ⟨rfl, hw2, ho2⟩
  have e3 := ho2.cell' d3 (by omega)
  have e4 := ho2.cell' d4 (by omega)
  have e5 := ho2.cell' d5 (by omega)
  have HA2 := Lib.hid (HA1.out.on ho2)
  have hoo := ho.trans ho2
  clear d2 d3 d4 d5 ho ho2 HA1 H2
  have H3 := Lib.hid (wnum_any B g _ sv 1 w2 hw2 (Nat.le_trans hB hoo.size) (by simp only [List.length_append, NumM.be_length]; omega) Lsv (by omega))
  clear hw2
  go_wp2_with fail
  refine H3.out.mono ?_
  rintro e w3 ⟨rfl, hw3, ho3⟩
  have i4 := ho3.cell' e4 (by omega)
  have i5 := ho3.cell' e5 (by omega)
  have HA3 := Lib.hid (HA2.out.on ho3)
  have ho := hoo.trans ho3
  clear e3 e4 e5 hoo ho3 HA2 H3
  have H4 := Lib.hid (wvec_any B g _ A c deps w3 hw3 (Nat.le_trans hB ho.size) (by simp only [List.length_append, NumM.be_length]; omega) F3.out HA3.out)
  clear hw3
  go_wp2_with fail
  refine H4.out.mono ?_
  cases hv : vecW deps with
  | error x =>
    rintro e w4 ⟨rfl, ho4⟩
    go_wp2_with fail
    exact ⟨rfl, rfl, (ho.trans ho4).to_below hB hBg⟩
  | ok b4 =>
  rintro e w4 ⟨rfl, hw4, ho4⟩
  have n4 := vecW_len hv
  have j5 := ho4.cell' i5 (by omega)
  have hoo := ho.trans ho4
  clear i4 i5 ho ho4 HA3 H4
  have H5 := Lib.hid (wnum_any B g _ pay.size 2 w4 hw4 (Nat.le_trans hB hoo.size) (by simp only [List.length_append, NumM.be_length]; omega) Lpay (by omega))
  clear hw4
  go_wp2_with fail
  refine H5.out.mono ?_
  rintro e w5 ⟨rfl, hw5, ho5⟩
  have k5 := ho5.cell' j5 (by omega)
  have ho := hoo.trans ho5
  clear j5 hoo ho5 H5
  have hlen : (l ++ NumM.be 4 seq ++ NumM.be 8 stamp ++ NumM.be 1 sv ++ b4 ++ NumM.be 2 pay.size).length ≤ 800000 := by simp only [List.length_append, NumM.be_length]; omega
  have HLL := Lib.hid (show l ++ NumM.be 4 seq ++ NumM.be 8 stamp ++ NumM.be 1 sv ++ b4 ++ NumM.be 2 pay.size ++ pay.data.toList = l ++ (NumM.be 4 seq ++ NumM.be 8 stamp ++ NumM.be 1 sv ++ (b4 ++ (NumM.be 2 pay.size ++ pay.data.toList))) by simp only [List.append_assoc])
  generalize l ++ NumM.be 4 seq ++ NumM.be 8 stamp ++ NumM.be 1 sv ++ b4 ++ NumM.be 2 pay.size = L at *
  obtain ⟨A5, C5, q0, q1, q2, q3, q4⟩ := hw5.parts
  have HQ := Lib.hid q2
  clear q2
  have Q4 := Lib.hid q4
  clear q4
  have q3' : some g ≠ (Value.slice A5 L.length C5).ownBlock := fun e => q3 e.symm
  obtain ⟨i0, hi, hz0, hz1, hz2⟩ := info_parts info5
  have hsz := ho.size
  go_wp2_with fail
  go_region_law (refine step_append_text rfl (.tmp 46) (.tmp 48) 30 9 rfl B 5 i0 Try.underlying30 Try.underlying9 hi hz0 hz1 hz2 _ _ _ (by simp [Act.eval, Act.put]) HQ.out pay (by simp [Act.eval, Act.put]) (by unfold maxLen; omega) (by omega) (by simp; omega) ?_; intro v' w6 hown hgrow; obtain ⟨A6, C6, rfl⟩ := own_form hown; have r0 : w6.cell? ⟨g, 0, none⟩ = some (.slice A5 L.length C5) := hgrow.cell q0 q3'; have r1 : w6.frozen? ⟨g, 0, none⟩ = false := (World.frozen?_of_block (w := w5) (hgrow.block g (Nat.lt_of_lt_of_le hg hsz) q3')).trans q1)
  all_goals
    have hb6 : w6.heap[g]? = some (.cells #[.slice A5 L.length C5] 123 (0, 0)) := (hgrow.block g (Nat.lt_of_lt_of_le hg hsz) q3').trans Q4.out
    have hap := own_apart hb6 hown (by decide)
    have hb56 : Below B w w6 := (below_drew (ho.to_below hB hBg)).grown hgrow (Nat.le_trans hB hsz) (fun k hk => own_base HQ.out hk)
    rw [strCells_bvals, ← bvals_append] at hown
    have hll : (L ++ pay.data.toList).length = L.length + pay.size := by rw [List.length_append, size_data]
    go_wp2_with fail
    go_end0
    rw [hv]
    refine ⟨rfl, ?_, hb56.setCell hBg _⟩
    rw [← HLL.out]
    refine ⟨A6, C6, ?_, ?_⟩
    · rw [hll]; exact blk_set hb6 _
    · rw [hll]; exact own_set hown hap _
end Go.Proofs.Ythkfgjdbgnbjkaa
