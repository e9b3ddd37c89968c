/- The walks of package disk: bytes, Write, Tear. -/
import Derived.Test.YthkfgjdbgnbjkaaDskA
import Derived.Test.YthkfgjdbgnbjkaaNumR
namespace Go.Proofs.Ythkfgjdbgnbjkaa
open Go.RowKit
set_option linter.unusedSimpArgs false
set_option linter.unusedVariables false

theorem wN_lt (s : ByteArray) : wN s < 18446744073709551616 := by
  unfold wN
  split
  · next h =>
    unfold wOpen at h
    rw [Bool.and_eq_true, decide_eq_true_iff] at h
    exact NumM.val_take_lt _ 8 (by rw [List.length_take]; omega)
  · omega
theorem nN_lt (x y : ByteArray) : nN x y < 18446744073709551616 := by
  have := wN_lt x
  have := wN_lt y
  unfold nN
  split
  · omega
  · split <;> omega
/-- the slot where is written. -/
def slotOf (x y : ByteArray) : Int := if first x y then 0 else 1
theorem slotOf_of {x y : ByteArray} : ((nAt x y = -1 ∨ nAt x y = 1) ∧ slotOf x y = 0) ∨ (nAt x y = 0 ∧ slotOf x y = 1) := by
  unfold slotOf first
  rcases nAt_range x y with h | h | h <;> rw [h] <;> simp

theorem put_nil (v n : Nat) (w : World) (hv : v < 18446744073709551616) (hn : n ≤ 8) :
    Calls Try.prog 56 #[.slice none 0 0, .int .u64 (v : Int), .int .i64 (n : Int)] w fun e w' =>
      ∃ k, e = .returned (.slice (some ⟨k, 0, none⟩) n n) ∧ RdB w' (some ⟨k, 0, none⟩) n (NumM.be n v) ∧ Below w.heap.size w w' := by
  refine (put_any none 0 [] v n w (RdB.nil w) (by simp) hv hn).mono ?_
  rintro e w' ⟨rfl, ho, hb⟩
  refine ⟨w.heap.size, by simp, ?_, hb⟩
  have := ho.rd
  simpa using this
theorem put_more (g : Nat) (l : List UInt8) (v n m : Nat) (w : World) (hm : l.length = m) (hR : RdB w (some ⟨g, 0, none⟩) m l) (hl : l.length ≤ 1000000) (hv : v < 18446744073709551616) (hn : n ≤ 8) (r : Nat) (hr : r = m + n) :
    Calls Try.prog 56 #[.slice (some ⟨g, 0, none⟩) m m, .int .u64 (v : Int), .int .i64 (n : Int)] w fun e w' =>
      ∃ k, e = .returned (.slice (some ⟨k, 0, none⟩) r r) ∧ RdB w' (some ⟨k, 0, none⟩) r (l ++ NumM.be n v) ∧ Below w.heap.size w w' := by
  subst hm hr
  refine (put_any (some ⟨g, 0, none⟩) l.length l v n w hR hl hv hn).mono ?_
  rintro e w' ⟨rfl, ho, hb⟩
  exact ⟨w.heap.size, rfl, ho.rd, hb⟩

set_option maxHeartbeats 800000 in
theorem bytes_case (a b : Int) (hab : (a = -1 ∧ b = 0) ∨ (a = 0 ∧ b = 1) ∨ (a = 1 ∧ b = 0)) (g : Nat) (x y s : ByteArray) (w : World) (h : DskAt w g x y) (hx : x.size ≤ 1000004) (hy : y.size ≤ 1000004) (hs : s.size ≤ 8192) (ha : nAt x y = a) :
    Calls Try.prog 83 #[.pointer (some ⟨g, 0, none⟩), .string s] w fun e w' => e = .returned (.tuple #[.string (recB (nextN x y) s), .int .i64 b]) ∧ Below w.heap.size w w' := by
  obtain ⟨h0, h1, h2, h3⟩ := h
  have hnew := newest_any x y w hx hy
  rw [ha] at hnew
  have HN := Lib.hid hnew
  have hwr : IntKind.u64.wrap ((nN x y : Int) + 1) = ((nextN x y : Nat) : Int) := by
    rw [IntKind.wrap_u64]; unfold nextN; omega
  have hnx : U64 (nextN x y) := Nat.mod_lt _ (by omega)
  have hrec : recB (nextN x y) s = sealB (⟨(NumM.be 8 (nextN x y) ++ NumM.be 2 s.size).toArray⟩ ++ s) := rfl
  have HR := Lib.hid hrec
  clear hnew ha hrec
  generalize nextN x y = m at *
  generalize nN x y = n at *
  have HW := Lib.hid hwr
  generalize recB m s = R at *
  clear hwr
  rcases hab with ⟨rfl, rfl⟩ | ⟨rfl, rfl⟩ | ⟨rfl, rfl⟩
  all_goals
    go_enter Try.func83, Try.ntmps83
    go_wp2_with fail
    refine HN.out.mono ?_
    rintro e w1 ⟨rfl, hb1⟩
    clear HN
    go_wp2_with fail
    first | rw [HW.out] | skip
    refine (put_nil m 8 _ hnx (by omega)).mono ?_
    rintro e w2 ⟨k, rfl, hr2, hb2⟩
    have hbl2 := below_step hb1 hb2
    clear hb1 hb2
    go_wp2_with fail
    refine (put_more k _ s.size 2 8 _ (NumM.be_length _ _) hr2 (by rw [NumM.be_length]; omega) (by omega) (by omega) 10 rfl).mono ?_
    rintro e w3 ⟨k3, rfl, hr3, hb3⟩
    have hbl3 := below_step hbl2 hb3
    clear hbl2 hb3 hr2
    have hcv := hr3.convert 10 (by simp [NumM.be_length])
    have hsz : (⟨(NumM.be 8 m ++ NumM.be 2 s.size).toArray⟩ : ByteArray).size = 10 := by rw [← size_data]; simp [NumM.be_length]
    generalize (⟨(NumM.be 8 m ++ NumM.be 2 s.size).toArray⟩ : ByteArray) = hh at *
    have hln : ¬ 9223372036854775807 < 10 + s.size := by omega
    clear hr3
    go_wp2_with fail
    refine (seal_any _ _ (by rw [ByteArray.size_append]; omega)).mono ?_
    rw [← HR.out]
    rintro e w4 ⟨rfl, hb4⟩
    go_wp2_with fail
    go_ret2
    exact ⟨rfl, below_step hbl3 hb4⟩
end Go.Proofs.Ythkfgjdbgnbjkaa
