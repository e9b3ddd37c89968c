/- Plain mathematics of sums, second part: what opens is told by one residue; a turned byte, and turned bits within 32 neighbours, change it. -/
import Derived.Test.YthkfgjdbgnbjkaaCrcL
namespace Go.Proofs.Ythkfgjdbgnbjkaa.CrcM
open Go.Proofs.Ythkfgjdbgnbjkaa
set_option linter.unusedSimpArgs false
set_option linter.unusedVariables false

theorem A_shl (x : BitVec 32) (h : x.toNat < 2147483648) : A (x <<< 1) = x := by
  unfold A
  have h0 : (x <<< 1).getLsbD 0 = false := by simp
  rw [h0]
  simp only [Bool.false_eq_true, if_false, BitVec.xor_zero]
  apply BitVec.eq_of_toNat_eq
  rw [BitVec.toNat_ushiftRight, BitVec.toNat_shiftLeft, Nat.shiftRight_eq_div_pow, Nat.shiftLeft_eq, Nat.mod_eq_of_lt (by omega)]
  omega
theorem An_shl (k : Nat) (x : BitVec 32) (h : x.toNat * 2 ^ k < 4294967296) : An k (x <<< k) = x := by
  induction k with
  | zero => simp [An]
  | succ k ih =>
    have hk : x.toNat * 2 ^ k < 2147483648 := by rw [Nat.pow_succ, ← Nat.mul_assoc] at h; omega
    have hm : (x <<< k).toNat = x.toNat * 2 ^ k := by
      rw [BitVec.toNat_shiftLeft, Nat.shiftLeft_eq, Nat.mod_eq_of_lt (by omega)]
    show An k (A (x <<< (k + 1))) = x
    rw [BitVec.shiftLeft_add, A_shl _ (by rw [hm]; exact hk)]
    exact ih (by omega)

/-- a byte among 32 bits. -/
def b32 (b : UInt8) : BitVec 32 := b.toBitVec.setWidth 32
theorem b32_lt (b : UInt8) : (b32 b).toNat < 256 := by
  unfold b32
  rw [BitVec.toNat_setWidth]
  have := b.toBitVec.isLt
  omega
/-- four bytes, the lowest one first. -/
def word (b0 b1 b2 b3 : UInt8) : BitVec 32 := b32 b0 ^^^ (b32 b1 <<< 8) ^^^ (b32 b2 <<< 16) ^^^ (b32 b3 <<< 24)
theorem fold4 (c : BitVec 32) (b0 b1 b2 b3 : UInt8) : fold c [b0, b1, b2, b3] = An 32 (c ^^^ word b0 b1 b2 b3) := by
  have e1 : b32 b1 = An 8 (b32 b1 <<< 8) := (An_shl 8 _ (by have := b32_lt b1; omega)).symm
  have e2 : b32 b2 = An 16 (b32 b2 <<< 16) := (An_shl 16 _ (by have := b32_lt b2; omega)).symm
  have e3 : b32 b3 = An 24 (b32 b3 <<< 24) := (An_shl 24 _ (by have := b32_lt b3; omega)).symm
  show An 8 (An 8 (An 8 (An 8 (c ^^^ b32 b0) ^^^ b32 b1) ^^^ b32 b2) ^^^ b32 b3) = _
  rw [e1, ← An_xor, ← An_add, e2, ← An_xor, ← An_add, e3, ← An_xor, ← An_add]
  congr 1
  unfold word
  simp only [BitVec.xor_assoc]
theorem word_le4 (c : BitVec 32) (b0 b1 b2 b3 : UInt8) (h : le4 c = [b0, b1, b2, b3]) : word b0 b1 b2 b3 = c := by
  unfold le4 at h
  simp only [List.cons.injEq, and_true] at h
  obtain ⟨rfl, rfl, rfl, rfl⟩ := h
  unfold word b32
  apply BitVec.eq_of_getLsbD_eq
  intro i hi
  simp only [BitVec.getLsbD_xor, BitVec.getLsbD_setWidth, BitVec.getLsbD_shiftLeft, BitVec.getLsbD_ushiftRight]
  by_cases h1 : i < 8
  · simp [h1, hi, show i < 16 by omega, show i < 24 by omega]
  · by_cases h2 : i < 16
    · rw [show 8 + (i - 8) = i by omega]
      simp [h1, h2, hi, show i < 24 by omega, show i - 8 < 8 by omega, show i - 8 < 32 by omega]
    · by_cases h3 : i < 24
      · rw [show 16 + (i - 16) = i by omega]
        simp [h1, h2, h3, hi, show ¬ i - 8 < 8 by omega, show i - 16 < 8 by omega, show i - 16 < 32 by omega]
      · rw [show 24 + (i - 24) = i by omega]
        simp [h1, h2, h3, hi, show ¬ i - 8 < 8 by omega, show ¬ i - 16 < 8 by omega, show i - 24 < 8 by omega, show i - 24 < 32 by omega]
theorem word_0 (v0 v1 v2 v3 : BitVec 8) : (v0.setWidth 32 ^^^ (v1.setWidth 32 <<< 8) ^^^ (v2.setWidth 32 <<< 16) ^^^ (v3.setWidth 32 <<< 24)).setWidth 8 = v0 := by
  apply BitVec.eq_of_getLsbD_eq
  intro i hi
  simp only [BitVec.getLsbD_xor, BitVec.getLsbD_setWidth, BitVec.getLsbD_shiftLeft]
  simp [hi, show i < 16 by omega, show i < 24 by omega, show i < 32 by omega]
theorem word_1 (v0 v1 v2 v3 : BitVec 8) : ((v0.setWidth 32 ^^^ (v1.setWidth 32 <<< 8) ^^^ (v2.setWidth 32 <<< 16) ^^^ (v3.setWidth 32 <<< 24)) >>> 8).setWidth 8 = v1 := by
  apply BitVec.eq_of_getLsbD_eq
  intro i hi
  simp only [BitVec.getLsbD_xor, BitVec.getLsbD_setWidth, BitVec.getLsbD_shiftLeft, BitVec.getLsbD_ushiftRight]
  have e0 : v0.getLsbD (8 + i) = false := BitVec.getLsbD_of_ge _ _ (by omega)
  rw [e0, show 8 + i - 8 = i by omega]
  simp [hi, show 8 + i < 16 by omega, show 8 + i < 24 by omega, show 8 + i < 32 by omega, show i < 32 by omega]
theorem word_2 (v0 v1 v2 v3 : BitVec 8) : ((v0.setWidth 32 ^^^ (v1.setWidth 32 <<< 8) ^^^ (v2.setWidth 32 <<< 16) ^^^ (v3.setWidth 32 <<< 24)) >>> 16).setWidth 8 = v2 := by
  apply BitVec.eq_of_getLsbD_eq
  intro i hi
  simp only [BitVec.getLsbD_xor, BitVec.getLsbD_setWidth, BitVec.getLsbD_shiftLeft, BitVec.getLsbD_ushiftRight]
  have e0 : v0.getLsbD (16 + i) = false := BitVec.getLsbD_of_ge _ _ (by omega)
  have e1 : v1.getLsbD (16 + i - 8) = false := BitVec.getLsbD_of_ge _ _ (by omega)
  rw [e0, e1, show 16 + i - 16 = i by omega]
  simp [hi, show ¬ 16 + i < 16 by omega, show ¬ 16 + i < 8 by omega, show 16 + i < 24 by omega, show 16 + i < 32 by omega, show i < 32 by omega]
theorem word_3 (v0 v1 v2 v3 : BitVec 8) : ((v0.setWidth 32 ^^^ (v1.setWidth 32 <<< 8) ^^^ (v2.setWidth 32 <<< 16) ^^^ (v3.setWidth 32 <<< 24)) >>> 24).setWidth 8 = v3 := by
  apply BitVec.eq_of_getLsbD_eq
  intro i hi
  simp only [BitVec.getLsbD_xor, BitVec.getLsbD_setWidth, BitVec.getLsbD_shiftLeft, BitVec.getLsbD_ushiftRight]
  have e0 : v0.getLsbD (24 + i) = false := BitVec.getLsbD_of_ge _ _ (by omega)
  have e1 : v1.getLsbD (24 + i - 8) = false := BitVec.getLsbD_of_ge _ _ (by omega)
  have e2 : v2.getLsbD (24 + i - 16) = false := BitVec.getLsbD_of_ge _ _ (by omega)
  rw [e0, e1, e2, show 24 + i - 24 = i by omega]
  simp [hi, show ¬ 24 + i < 16 by omega, show ¬ 24 + i < 8 by omega, show ¬ 24 + i < 24 by omega, show 24 + i < 32 by omega, show i < 32 by omega]
theorem le4_word (b0 b1 b2 b3 : UInt8) : le4 (word b0 b1 b2 b3) = [b0, b1, b2, b3] := by
  unfold le4 word b32
  rw [word_0, word_1, word_2, word_3]

/-- the residue of what opens. -/
def K : BitVec 32 := An 32 4294967295#32
theorem of_four (l : List UInt8) (h : l.length = 4) : ∃ b0 b1 b2 b3, l = [b0, b1, b2, b3] := by
  match l, h with
  | [b0, b1, b2, b3], _ => exact ⟨_, _, _, _, rfl⟩
theorem opens_iff (l m : List UInt8) (hm : m.length = 4) : le4 (sum l) = m ↔ fold 4294967295#32 (l ++ m) = K := by
  obtain ⟨b0, b1, b2, b3, rfl⟩ := of_four m hm
  rw [fold_append, fold4]
  unfold sum
  generalize fold 4294967295#32 l = c
  constructor
  · intro h
    rw [word_le4 _ b0 b1 b2 b3 h]
    unfold K
    congr 1
    rw [← BitVec.xor_assoc, BitVec.xor_self, BitVec.zero_xor]
  · intro h
    have h1 := An_inj 32 h
    have h2 : word b0 b1 b2 b3 = c ^^^ 4294967295#32 := by
      rw [← h1, ← BitVec.xor_assoc, BitVec.xor_self, BitVec.zero_xor]
    rw [← h2, le4_word]

theorem openOk_iff (s : ByteArray) : openOk s = true ↔ 4 ≤ s.size ∧ fold 4294967295#32 s.data.toList = K := by
  unfold openOk
  rw [Bool.and_eq_true, decide_eq_true_iff, beq_iff_eq]
  constructor
  · rintro ⟨h4, h⟩
    refine ⟨h4, ?_⟩
    rw [opens_iff _ _ (by rw [List.length_drop, size_data]; omega), List.take_append_drop] at h
    exact h
  · rintro ⟨h4, h⟩
    refine ⟨h4, ?_⟩
    rw [opens_iff _ _ (by rw [List.length_drop, size_data]; omega), List.take_append_drop]
    exact h

theorem xor_cancel (x e : BitVec 32) (h : x ^^^ e = x) : e = 0#32 := by
  have := congrArg (x ^^^ ·) h
  simpa [← BitVec.xor_assoc] using this
theorem b32_xor (b m : UInt8) : b32 (b ^^^ m) = b32 b ^^^ b32 m := by
  unfold b32
  apply BitVec.eq_of_getLsbD_eq
  intro i hi
  simp only [BitVec.getLsbD_xor, BitVec.getLsbD_setWidth, UInt8.toBitVec_xor]
  simp [hi]
/-- a byte that is turned. -/
theorem fold_turn (c : BitVec 32) (p q : List UInt8) (b m : UInt8) : fold c (p ++ (b ^^^ m) :: q) = fold c (p ++ b :: q) ^^^ An (8 * (q.length + 1)) (b32 m) := by
  rw [fold_append, fold_append]
  generalize fold c p = c
  show fold (up c (b ^^^ m)) q = fold (up c b) q ^^^ _
  have h : up c (b ^^^ m) = up c b ^^^ An 8 (b32 m) := by
    unfold up
    rw [← An_xor]
    congr 1
    have := b32_xor b m
    unfold b32 at this
    rw [this, ← BitVec.xor_assoc]
    rfl
  rw [h, fold_xor, ← An_add]
  congr 2
  omega
theorem b32_zero {m : UInt8} (h : b32 m = 0#32) : m = 0 := by
  apply UInt8.toNat_inj.1
  have := congrArg BitVec.toNat h
  unfold b32 at this
  rw [BitVec.toNat_setWidth] at this
  have hl := m.toBitVec.isLt
  rw [Nat.mod_eq_of_lt (by omega)] at this
  simpa using this
end Go.Proofs.Ythkfgjdbgnbjkaa.CrcM
