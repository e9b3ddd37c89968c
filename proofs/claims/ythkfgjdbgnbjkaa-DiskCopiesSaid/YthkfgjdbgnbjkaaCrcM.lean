/- Plain mathematics of the 32-bit sum: a step by a bit is linear and has no kernel but 0. No program in sight. -/
import Derived.Laws.BitsAllLaws
namespace Go.Proofs.Ythkfgjdbgnbjkaa.CrcM
set_option linter.unusedSimpArgs false
set_option linter.unusedVariables false

/-- a sum goes on by a bit. -/
def A (x : BitVec 32) : BitVec 32 := (x >>> 1) ^^^ (if x.getLsbD 0 then 3988292384#32 else 0#32)
/-- n times. -/
def An : Nat → BitVec 32 → BitVec 32
  | 0, x => x
  | n + 1, x => An n (A x)

theorem A_xor (x y : BitVec 32) : A (x ^^^ y) = A x ^^^ A y := by
  unfold A
  rw [BitVec.ushiftRight_xor_distrib, BitVec.getLsbD_xor]
  cases x.getLsbD 0 <;> cases y.getLsbD 0 <;> simp only [Bool.xor_false, Bool.xor_true, Bool.not_false, Bool.not_true, Bool.false_eq_true, if_true, if_false]
  · simp
  · simp; ac_rfl
  · simp; ac_rfl
  · generalize 3988292384#32 = p
    apply BitVec.eq_of_getLsbD_eq
    intro i hi
    simp only [BitVec.getLsbD_xor]
    cases (x >>> 1).getLsbD i <;> cases (y >>> 1).getLsbD i <;> cases p.getLsbD i <;> simp

theorem A_zero : A 0#32 = 0#32 := by decide

theorem A_ker (x : BitVec 32) (h : A x = 0#32) : x = 0#32 := by
  unfold A at h
  cases hb : x.getLsbD 0 with
  | true =>
    rw [hb] at h
    simp only [if_true] at h
    have h31 := congrArg (fun v : BitVec 32 => v.getLsbD 31) h
    simp at h31
  | false =>
    rw [hb] at h
    simp only [Bool.false_eq_true, if_false, BitVec.xor_zero] at h
    apply BitVec.eq_of_getLsbD_eq
    intro i hi
    rcases i with _ | i
    · simpa using hb
    · have := congrArg (fun v : BitVec 32 => v.getLsbD i) h
      simp [BitVec.getLsbD_ushiftRight] at this
      simpa [Nat.add_comm] using this

theorem A_inj {x y : BitVec 32} (h : A x = A y) : x = y := by
  have h2 : A (x ^^^ y) = 0#32 := by rw [A_xor, h, BitVec.xor_self]
  have h3 := A_ker _ h2
  calc x = x ^^^ (y ^^^ y) := by simp
    _ = (x ^^^ y) ^^^ y := by rw [BitVec.xor_assoc]
    _ = y := by rw [h3]; simp

theorem An_succ' (n : Nat) (x : BitVec 32) : An (n + 1) x = A (An n x) := by
  induction n generalizing x with
  | zero => rfl
  | succ n ih => show An (n + 1) (A x) = _; rw [ih]; rfl
theorem An_add (m n : Nat) (x : BitVec 32) : An (m + n) x = An n (An m x) := by
  induction m generalizing x with
  | zero => simp [An]
  | succ m ih => rw [Nat.succ_add]; show An (m + n) (A x) = _; rw [ih]; rfl
theorem An_xor (n : Nat) (x y : BitVec 32) : An n (x ^^^ y) = An n x ^^^ An n y := by
  induction n generalizing x y with
  | zero => rfl
  | succ n ih => show An n (A _) = _; rw [A_xor, ih]; rfl
theorem An_zero (n : Nat) : An n 0#32 = 0#32 := by
  induction n with
  | zero => rfl
  | succ n ih => show An n (A _) = _; rw [A_zero, ih]
theorem An_inj (n : Nat) {x y : BitVec 32} (h : An n x = An n y) : x = y := by
  induction n generalizing x y with
  | zero => exact h
  | succ n ih => exact A_inj (ih h)
theorem An_ker (n : Nat) {x : BitVec 32} (h : An n x = 0#32) : x = 0#32 := An_inj n (h.trans (An_zero n).symm)

/-- a sum goes on by a byte. -/
def up (c : BitVec 32) (b : UInt8) : BitVec 32 := An 8 (c ^^^ b.toBitVec.setWidth 32)
/-- .. by bytes. -/
def fold (c : BitVec 32) (l : List UInt8) : BitVec 32 := l.foldl up c
/-- the sum of bytes. -/
def sum (l : List UInt8) : BitVec 32 := fold 4294967295#32 l ^^^ 4294967295#32
/-- a sum's four bytes, the lowest one first. -/
def le4 (c : BitVec 32) : List UInt8 := [⟨c.setWidth 8⟩, ⟨(c >>> 8).setWidth 8⟩, ⟨(c >>> 16).setWidth 8⟩, ⟨(c >>> 24).setWidth 8⟩]

theorem up_inj {c d : BitVec 32} {b : UInt8} (h : up c b = up d b) : c = d := by
  have h1 := An_inj 8 h
  have h2 := congrArg (· ^^^ b.toBitVec.setWidth 32) h1
  simpa [BitVec.xor_assoc] using h2
theorem fold_inj {c d : BitVec 32} (l : List UInt8) (h : fold c l = fold d l) : c = d := by
  induction l generalizing c d with
  | nil => exact h
  | cons b l ih => exact up_inj (ih h)
theorem fold_append (c : BitVec 32) (l m : List UInt8) : fold c (l ++ m) = fold (fold c l) m := List.foldl_append
theorem fold_snoc (c : BitVec 32) (l : List UInt8) (b : UInt8) : fold c (l ++ [b]) = up (fold c l) b := by rw [fold_append]; rfl
theorem fold_xor (c e : BitVec 32) (l : List UInt8) : fold (c ^^^ e) l = fold c l ^^^ An (8 * l.length) e := by
  induction l generalizing c e with
  | nil => rfl
  | cons b l ih =>
    show fold (up (c ^^^ e) b) l = fold (up c b) l ^^^ _
    have h : up (c ^^^ e) b = up c b ^^^ An 8 e := by
      unfold up
      rw [← An_xor]
      congr 1
      rw [BitVec.xor_assoc, BitVec.xor_comm e, ← BitVec.xor_assoc]
    rw [h, ih, ← An_add]
    congr 2
    simp; omega

end Go.Proofs.Ythkfgjdbgnbjkaa.CrcM
