/- Plain mathematics of numbers as bytes, the highest one first. No program in sight. -/
import Derived.Laws.BitsAllLaws
namespace Go.Proofs.Ythkfgjdbgnbjkaa.NumM
set_option linter.unusedSimpArgs false
set_option linter.unusedVariables false

/-- the last n bytes of a number, the highest one first. -/
def be (n v : Nat) : List UInt8 := (List.range n).map fun i => UInt8.ofNat (v / 256 ^ (n - 1 - i))
/-- the number of bytes. -/
def val (l : List UInt8) : Nat := l.foldl (fun v b => v * 256 + b.toNat) 0

theorem be_length (n v : Nat) : (be n v).length = n := by simp [be]
theorem be_zero (v : Nat) : be 0 v = [] := rfl
theorem be_succ (n v : Nat) : be (n + 1) v = UInt8.ofNat (v / 256 ^ n) :: be n v := by
  unfold be
  rw [List.range_succ_eq_map, List.map_cons, List.map_map]
  congr 1
  apply List.map_congr_left
  intro i hi
  simp at hi
  show UInt8.ofNat (v / 256 ^ (n + 1 - 1 - (i + 1))) = _
  congr 3
  omega
theorem be_take (n v i : Nat) (h : i < n) : (be n v).take (i + 1) = (be n v).take i ++ [UInt8.ofNat (v / 256 ^ (n - 1 - i))] := by
  have hl : i < (be n v).length := by rw [be_length]; exact h
  rw [List.take_succ_eq_append_getElem hl]
  simp [be]
theorem be_take_all (n v : Nat) : (be n v).take n = be n v := List.take_of_length_le (by rw [be_length]; omega)

theorem val_snoc (l : List UInt8) (b : UInt8) : val (l ++ [b]) = val l * 256 + b.toNat := by simp [val]
theorem val_from (l : List UInt8) (a : Nat) : l.foldl (fun v b => v * 256 + b.toNat) a = a * 256 ^ l.length + val l := by
  induction l generalizing a with
  | nil => simp [val]
  | cons b l ih =>
    unfold val
    rw [List.foldl_cons, List.foldl_cons, ih, ih (0 * 256 + b.toNat)]
    simp only [List.length_cons, Nat.pow_succ, Nat.add_mul, Nat.zero_mul, Nat.zero_add]
    rw [Nat.mul_assoc, Nat.mul_comm 256, Nat.add_assoc]
theorem val_cons (b : UInt8) (l : List UInt8) : val (b :: l) = b.toNat * 256 ^ l.length + val l := by
  show l.foldl _ (0 * 256 + b.toNat) = _
  rw [val_from]
  simp
theorem val_lt (l : List UInt8) : val l < 256 ^ l.length := by
  induction l with
  | nil => simp [val]
  | cons b l ih =>
    rw [val_cons, List.length_cons, Nat.pow_succ]
    have hb : b.toNat ≤ 255 := by have := b.toNat_lt; omega
    have : b.toNat * 256 ^ l.length ≤ 255 * 256 ^ l.length := Nat.mul_le_mul_right _ hb
    omega
theorem val_be (n v : Nat) : val (be n v) = v % 256 ^ n := by
  induction n generalizing v with
  | zero => simp [be, val, Nat.mod_one]
  | succ n ih =>
    rw [be_succ, val_cons, be_length, ih, UInt8.toNat_ofNat']
    have h := Nat.mod_pow_succ (x := v) (b := 256) (k := n)
    show (v / 256 ^ n) % 256 * 256 ^ n + v % 256 ^ n = v % 256 ^ (n + 1)
    rw [h, Nat.mul_comm, Nat.add_comm]
theorem be_val (l : List UInt8) : be l.length (val l) = l := by
  induction l with
  | nil => rfl
  | cons b l ih =>
    rw [List.length_cons, be_succ]
    have hb := b.toNat_lt
    have hv := val_lt l
    have h1 : val (b :: l) / 256 ^ l.length = b.toNat := by
      rw [val_cons, Nat.add_comm, Nat.add_mul_div_right _ _ (Nat.pow_pos (by omega)), Nat.div_eq_of_lt hv, Nat.zero_add]
    have h2 : be l.length (val (b :: l)) = be l.length (val l) := by
      unfold be
      apply List.map_congr_left
      intro i hi
      simp at hi
      rw [val_cons]
      apply UInt8.toNat_inj.1
      rw [UInt8.toNat_ofNat', UInt8.toNat_ofNat']
      have e : l.length = (l.length - 1 - i) + 1 + i := by omega
      have e2 : b.toNat * 256 ^ l.length = (b.toNat * 256 ^ i) * 256 * 256 ^ (l.length - 1 - i) := by
        conv => lhs; rw [e]
        rw [Nat.pow_add, Nat.pow_succ]
        ac_rfl
      rw [e2, Nat.add_comm, Nat.add_mul_div_right _ _ (Nat.pow_pos (by omega))]
      show (_ + b.toNat * 256 ^ i * 256) % 256 = _ % 256
      omega
    rw [h1, h2, ih]
    congr 1
    apply UInt8.toNat_inj.1
    rw [UInt8.toNat_ofNat']
    omega
theorem val_take_lt (l : List UInt8) (n : Nat) (h : l.length ≤ n) : val l < 256 ^ n :=
  Nat.lt_of_lt_of_le (val_lt l) (Nat.pow_le_pow_right (by omega) h)
/-- a byte on. -/
theorem or_byte (v b : Nat) (hb : b < 256) : v * 256 ||| b = v * 256 + b := nat_join 8 (v * 256) b (by simp) hb
end Go.Proofs.Ythkfgjdbgnbjkaa.NumM
