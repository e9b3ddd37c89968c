/- Plain laws of frames: what is printed is parsed as it was; what is parsed is printed to the same bytes; a turned byte is seen. -/
import Derived.Test.YthkfgjdbgnbjkaaFrmR
namespace Go.Proofs.Ythkfgjdbgnbjkaa
open Go.RowKit
set_option linter.unusedSimpArgs false
set_option linter.unusedVariables false

theorem headL_length (k f t : Int) (n : Nat) : (headL k f t n).length = 7 := by unfold headL; simp [NumM.be_length]
/-- what is sealed. -/
def inner (k f t : Int) (b : ByteArray) : ByteArray := ⟨(headL k f t b.size).toArray⟩ ++ b
theorem inner_data (k f t : Int) (b : ByteArray) : (inner k f t b).data.toList = headL k f t b.size ++ b.data.toList := by unfold inner; simp
theorem inner_size (k f t : Int) (b : ByteArray) : (inner k f t b).size = 7 + b.size := by rw [← size_data, inner_data, List.length_append, headL_length, size_data]
theorem frameB_eq (k f t : Int) (b : ByteArray) : frameB k f t b = sealB (inner k f t b) := rfl
theorem frameB_size (k f t : Int) (b : ByteArray) : (frameB k f t b).size = 11 + b.size := by rw [frameB_eq, sealB_size, inner_size]; omega
theorem byteOf_nat {n : Int} (h0 : 0 ≤ n) (h1 : n < 256) : ((byteOf n).toNat : Int) = n := by rw [← byteOf_int]; omega
theorem printE_zero {k f t : Int} {b : ByteArray} (h : printE k f t b = 0) : (1 ≤ k ∧ k ≤ 11) ∧ (0 ≤ f ∧ f ≤ 63) ∧ (0 ≤ t ∧ t ≤ 63) ∧ b.size ≤ 32768 := by
  by_cases h1 : k < 1 ∨ 11 < k
  · rw [printE_kind h1] at h; omega
  · by_cases h2 : f < 0 ∨ 63 < f ∨ t < 0 ∨ 63 < t
    · rw [printE_range (by omega) (by omega) h2] at h; omega
    · rw [printE_rest (by omega) (by omega) (by omega) (by omega) (by omega) (by omega)] at h
      split at h
      · omega
      · omega
theorem byAt_inner (k f t : Int) (b : ByteArray) (i : Nat) (h : i < 7) : byAt (inner k f t b) i = ((headL k f t b.size).getD i 0).toNat := by
  unfold byAt
  rw [inner_data]
  have hl : i < (headL k f t b.size).length := by rw [headL_length]; exact h
  simp [List.getD, List.getElem?_append_left hl]

/-- what was printed is parsed as it was. -/
theorem parse_print {k f t : Int} {b : ByteArray} (h : printE k f t b = 0) : parseF (frameB k f t b) = ⟨k, f, t, b, 0⟩ := by
  obtain ⟨⟨k1, k2⟩, ⟨f1, f2⟩, ⟨t1, t2⟩, hb⟩ := printE_zero h
  unfold parseF
  rw [frameB_size, if_neg (by omega), frameB_eq, openOk_sealB, if_neg (by simp), openB_sealB]
  unfold parseT
  have e0 : byAt (inner k f t b) 0 = 197 := by rw [byAt_inner _ _ _ _ _ (by omega)]; rfl
  have e1 : byAt (inner k f t b) 1 = 1 := by rw [byAt_inner _ _ _ _ _ (by omega)]; rfl
  have e2 : ((byAt (inner k f t b) 2 : Nat) : Int) = k := by rw [byAt_inner _ _ _ _ _ (by omega)]; exact byteOf_nat (by omega) (by omega)
  have e3 : ((byAt (inner k f t b) 3 : Nat) : Int) = f := by rw [byAt_inner _ _ _ _ _ (by omega)]; exact byteOf_nat (by omega) (by omega)
  have e4 : ((byAt (inner k f t b) 4 : Nat) : Int) = t := by rw [byAt_inner _ _ _ _ _ (by omega)]; exact byteOf_nat (by omega) (by omega)
  have e5 : NumM.val (((inner k f t b).data.toList.drop 5).take 2) = b.size := by
    have : ((inner k f t b).data.toList.drop 5).take 2 = NumM.be 2 b.size := by
      rw [inner_data]
      unfold headL
      rw [List.append_assoc, List.drop_left' (by rfl), List.take_left' (NumM.be_length 2 _)]
    rw [this, NumM.val_be]
    omega
  have e6 : (inner k f t b).extract 7 (inner k f t b).size = b := by
    apply WideShapes.bytes_inj
    rw [Lib.extract_to_end, inner_data, List.drop_left' (headL_length k f t b.size)]
  rw [e5, e6, inner_size, pc0 e0 e1 (by omega) (by omega) (by omega), e2, e3, e4]

theorem seven_split (l : List UInt8) (n : Nat) (h : 7 ≤ l.length) (h0 : (l.getD 0 0).toNat = 197) (h1 : (l.getD 1 0).toNat = 1) (hn : NumM.val ((l.drop 5).take 2) = n) :
    l = headL ((l.getD 2 0).toNat : Int) ((l.getD 3 0).toNat : Int) ((l.getD 4 0).toNat : Int) n ++ l.drop 7 := by
  match l, h with
  | a0 :: a1 :: a2 :: a3 :: a4 :: a5 :: a6 :: r, _ =>
    simp only [List.getD_cons_zero, List.getD_cons_succ, List.drop_succ_cons, List.drop_zero, List.take_succ_cons, List.take_zero] at *
    have hb : ∀ x : UInt8, byteOf ((x.toNat : Nat) : Int) = x := fun x => by
      apply UInt8.toNat_inj.1
      have := byteOf_nat (n := ((x.toNat : Nat) : Int)) (by omega) (by have := x.toNat_lt; omega)
      omega
    have hbe : NumM.be 2 n = [a5, a6] := by rw [← hn]; exact NumM.be_val [a5, a6]
    unfold headL
    rw [hb, hb, hb, hbe]
    have e0 : a0 = 197 := UInt8.toNat_inj.1 h0
    have e1 : a1 = 1 := UInt8.toNat_inj.1 h1
    subst e0 e1
    rfl
theorem sealB_openB' (s : ByteArray) (h : openOk s = true) : sealB (openB s) = s := by
  have h' := h
  unfold openOk at h'
  rw [Bool.and_eq_true, decide_eq_true_iff, beq_iff_eq] at h'
  obtain ⟨h4, h⟩ := h'
  apply WideShapes.bytes_inj
  have e : openB s = s.extract 0 (s.size - 4) := by unfold openB; rw [if_pos (by assumption)]
  rw [e, sealB_data, Lib.extract_data]
  simp only [List.drop_zero, Nat.sub_zero]
  rw [h, List.take_append_drop]

/-- whatever is parsed, or an error. -/
theorem parseC_cases (b0 b1 b2 b3 b4 n m : Nat) (body : ByteArray) : (∃ e, parseC b0 b1 b2 b3 b4 n m body = .bad e ∧ e ≠ 0) ∨
    (parseC b0 b1 b2 b3 b4 n m body = ⟨b2, b3, b4, body, 0⟩ ∧ b0 = 197 ∧ b1 = 1 ∧ (1 ≤ b2 ∧ b2 ≤ 11) ∧ (b3 ≤ 63 ∧ b4 ≤ 63) ∧ m ≤ 32768 ∧ m = n) := by
  by_cases a0 : b0 = 197
  · by_cases a1 : b1 = 1
    · by_cases a2 : 1 ≤ b2 ∧ b2 ≤ 11
      · by_cases a3 : b3 ≤ 63 ∧ b4 ≤ 63
        · by_cases a5 : m ≤ 32768 ∧ m = n
          · exact .inr ⟨pc0 a0 a1 a2 a3 a5, a0, a1, a2, a3, a5⟩
          · exact .inl ⟨3, pc3 a0 a1 a2 a3 (by omega), by decide⟩
        · exact .inl ⟨1, pc1 a0 a1 a2 (by omega), by decide⟩
      · exact .inl ⟨10, pc10 a0 a1 (by omega), by decide⟩
    · exact .inl ⟨9, pc9 a0 a1, by decide⟩
  · exact .inl ⟨4, pc4 a0, by decide⟩
theorem parseF_cases (s : ByteArray) : (∃ e, parseF s = .bad e ∧ e ≠ 0) ∨ ((parseF s).e = 0 ∧ printE (parseF s).k (parseF s).f (parseF s).t (parseF s).b = 0 ∧ frameB (parseF s).k (parseF s).f (parseF s).t (parseF s).b = s ∧ (parseF s).b.size ≤ 32768) := by
  unfold parseF
  by_cases h : s.size < 11
  · rw [if_pos h]; exact .inl ⟨2, rfl, by decide⟩
  · rw [if_neg h]
    by_cases ho : openOk s = true
    · rw [ho, if_neg (by simp)]
      unfold parseT
      have hsz := openB_size s ho
      rcases parseC_cases (byAt (openB s) 0) (byAt (openB s) 1) (byAt (openB s) 2) (byAt (openB s) 3) (byAt (openB s) 4) (NumM.val (((openB s).data.toList.drop 5).take 2)) ((openB s).size - 7) ((openB s).extract 7 (openB s).size) with hc | ⟨hc, a0, a1, a2, a3, a5, a6⟩
      · exact .inl hc
      · rw [hc]
        have hbs : ((openB s).extract 7 (openB s).size).size = (openB s).size - 7 := by rw [ByteArray.size_extract]; omega
        have hl : 7 ≤ (openB s).data.toList.length := by rw [size_data]; omega
        have hsp := seven_split (openB s).data.toList ((openB s).size - 7) hl a0 a1 a6.symm
        refine .inr ⟨rfl, ?_, ?_, ?_⟩
        · show printE (byAt (openB s) 2 : Nat) (byAt (openB s) 3 : Nat) (byAt (openB s) 4 : Nat) ((openB s).extract 7 (openB s).size) = 0
          rw [printE_rest (by omega) (by omega) (by omega) (by omega) (by omega) (by omega), hbs, if_neg (by omega)]
        · show frameB (byAt (openB s) 2 : Nat) (byAt (openB s) 3 : Nat) (byAt (openB s) 4 : Nat) ((openB s).extract 7 (openB s).size) = s
          rw [frameB_eq]
          have : inner (byAt (openB s) 2 : Nat) (byAt (openB s) 3 : Nat) (byAt (openB s) 4 : Nat) ((openB s).extract 7 (openB s).size) = openB s := by
            apply WideShapes.bytes_inj
            rw [inner_data, hbs, Lib.extract_to_end]
            exact hsp.symm
          rw [this, sealB_openB' s ho]
        · show ((openB s).extract 7 (openB s).size).size ≤ 32768
          rw [hbs]; exact a5
    · rw [Bool.eq_false_iff.2 ho, if_pos rfl]; exact .inl ⟨8, rfl, by decide⟩
theorem parseF_size (s : ByteArray) : (parseF s).b.size ≤ 32768 := by
  rcases parseF_cases s with ⟨e, h, _⟩ | ⟨_, _, _, h⟩
  · rw [h]; exact Nat.zero_le _
  · exact h
theorem parseF_turn {k f t : Int} {b : ByteArray} (n : Nat) (m : UInt8) (h : n < (frameB k f t b).size) (hm : m ≠ 0) : parseF (turnB (frameB k f t b) n m) = .bad 8 := by
  have hs := turnB_size (frameB k f t b) n m h
  have hno : openOk (turnB (sealB (inner k f t b)) n m) = false := turn_not_open (inner k f t b) n m h hm
  unfold parseF
  rw [hs, frameB_size, if_neg (by omega), frameB_eq, hno, if_pos rfl]
end Go.Proofs.Ythkfgjdbgnbjkaa
