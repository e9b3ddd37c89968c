/- The walk of the law CrcBursts. -/
import Derived.Test.YthkfgjdbgnbjkaaCrcN
import Derived.Test.YthkfgjdbgnbjkaaCrcS
import Derived.BigRegion
import Derived.Lib.ConvBytes
import Derived.OpenShut
import Derived.IntWalk
namespace Go.Proofs.Ythkfgjdbgnbjkaa
open Go.RowKit
set_option linter.unusedSimpArgs false
set_option linter.unusedVariables false

/-- a block of bytes of the call's own. -/
def BytesAt (w : World) (k : Nat) (l : List UInt8) : Prop :=
  k < w.heap.size ∧ ∀ i, i < l.length → w.cell? ⟨k, i, none⟩ = some (.int .u8 ((l.getD i 0).toNat : Int)) ∧ w.frozen? ⟨k, i, none⟩ = false

theorem bytesAt_new (w : World) (s : ByteArray) : BytesAt (Lib.bytesWorld w 5 s) w.heap.size s.data.toList := by
  refine ⟨by rw [Lib.bytesWorld_size]; omega, fun i hi => ⟨Lib.bytesWorld_cell w 5 s i (by rw [← size_data]; exact hi), ?_⟩⟩
  rw [size_data] at hi
  have hnew := Lib.bytesWorld_at_new w 5 s
  have hsz : s.size ≤ (Lib.bytesCells w 5 s).size := by simp [Lib.bytesCells]
  simp only [World.frozen?, hnew]
  simp; omega
theorem below_bytes (w : World) (s : ByteArray) : Below w.heap.size w (Lib.bytesWorld w 5 s) :=
  ⟨rfl, rfl, rfl, by rw [Lib.bytesWorld_size]; omega, fun j hj => Lib.bytesWorld_at_old w 5 s j hj⟩
theorem BytesAt.drew {w : World} {k : Nat} {l : List UInt8} (h : BytesAt w k l) : BytesAt w.drew k l := h
theorem BytesAt.set {w : World} {k : Nat} {l : List UInt8} (h : BytesAt w k l) (p : Nat) (u : UInt8) (hp : p < l.length) : BytesAt (w.setCell ⟨k, p, none⟩ (.int .u8 (u.toNat : Int))) k (l.set p u) := by
  refine ⟨by simpa [World.setCell] using h.1, fun i hi => ?_⟩
  rw [List.length_set] at hi
  refine ⟨?_, by rw [World.frozen?_setCell]; exact (h.2 i hi).2⟩
  by_cases e : i = p
  · subst e
    rw [World.cell?_setCell_same (h := (h.2 i hi).1)]
    simp [List.getD, List.getElem?_set, hi]
  · rw [World.cell?_setCell_other]
    · rw [(h.2 i hi).1]
      simp [List.getD, List.getElem?_set, Ne.symm e]
    · simp [Ne.symm e]
/-! the burst, bit by bit: at: where it begins; N: how many bits there are -/
def hit (v : BitVec 32) (at_ N i : Nat) : Bool := v.getLsbD i && decide (at_ + i < N)
def burst (v : BitVec 32) (at_ N : Nat) : Nat → BitVec 32
  | 0 => 0#32
  | i + 1 => if hit v at_ N i then burst v at_ N i ^^^ (1#32 <<< i) else burst v at_ N i
def hits (v : BitVec 32) (at_ N : Nat) : Nat → Bool
  | 0 => false
  | i + 1 => if hit v at_ N i then true else hits v at_ N i
theorem burst_bit (v : BitVec 32) (at_ N i : Nat) (hi : i ≤ 32) (j : Nat) (hj : j < 32) : (burst v at_ N i).getLsbD j = (decide (j < i) && hit v at_ N j) := by
  induction i with
  | zero => simp [burst]
  | succ i ih =>
    have ih := ih (by omega)
    have h1 : (1#32 <<< i).getLsbD j = decide (j = i) := by
      rw [BitVec.getLsbD_shiftLeft]
      by_cases e : j = i
      · subst e; simp [hj]
      · rcases Nat.lt_or_ge j i with h | h
        · simp [h, e]
        · have : j - i ≠ 0 := by omega
          simp [e, this]
    unfold burst
    split
    · rename_i hh
      rw [BitVec.getLsbD_xor, ih, h1]
      by_cases e : j = i
      · subst e; simp [hh]
      · simp [e, show (j < i + 1) = (j < i) from by simp; omega]
    · rename_i hh
      rw [ih]
      by_cases e : j = i
      · subst e; simp [hh]
      · simp [show (j < i + 1) = (j < i) from by simp; omega]
theorem hits_iff (v : BitVec 32) (at_ N i : Nat) : hits v at_ N i = true ↔ ∃ j, j < i ∧ hit v at_ N j = true := by
  induction i with
  | zero => simp [hits]
  | succ i ih =>
    unfold hits
    split
    · rename_i h
      simp only [true_iff]
      exact ⟨i, by omega, h⟩
    · rename_i h
      rw [ih]
      constructor
      · rintro ⟨j, hj, h'⟩; exact ⟨j, by omega, h'⟩
      · rintro ⟨j, hj, h'⟩
        refine ⟨j, ?_, h'⟩
        rcases Nat.lt_or_ge j i with hji | hji
        · exact hji
        · obtain rfl : j = i := by omega
          exact absurd h' h
theorem burst_zero (v : BitVec 32) (at_ N : Nat) : burst v at_ N 32 = 0#32 ↔ hits v at_ N 32 = false := by
  constructor
  · intro h
    rw [Bool.eq_false_iff]
    intro hc
    obtain ⟨j, hj, h'⟩ := (hits_iff v at_ N 32).1 hc
    have h2 := burst_bit v at_ N 32 (by omega) j hj
    rw [h, h'] at h2
    simp [hj] at h2
  · intro h
    apply BitVec.eq_of_getLsbD_eq
    intro j hj
    rw [burst_bit v at_ N 32 (by omega) j hj]
    have : hit v at_ N j = false := by
      rw [Bool.eq_false_iff]
      intro hc
      have := (hits_iff v at_ N 32).2 ⟨j, hj, hc⟩
      rw [h] at this
      cases this
    simp [this]

open CrcM in
/-- one bit that is turned. -/
theorem fold_bit (l : List UInt8) (c : BitVec 32) (at_ i : Nat) (hi : i < 32) (h : at_ + i < 8 * l.length) :
    fold c (l.set ((at_ + i) / 8) (l.getD ((at_ + i) / 8) 0 ^^^ UInt8.ofNat (2 ^ ((at_ + i) % 8)))) = fold c l ^^^ An (8 * l.length - at_) (1#32 <<< i) := by
  generalize hk : at_ + i = k at *
  have hp : k / 8 < l.length := by omega
  have hget : l.getD (k / 8) 0 = l[k / 8] := by simp [List.getD, List.getElem?_eq_getElem hp]
  have e1 : l = l.take (k / 8) ++ l[k / 8] :: l.drop (k / 8 + 1) := by rw [← List.drop_eq_getElem_cons hp, List.take_append_drop]
  have e2 : ∀ u, l.set (k / 8) u = l.take (k / 8) ++ u :: l.drop (k / 8 + 1) := fun u => by rw [List.set_eq_take_append_cons_drop, if_pos hp]
  rw [e2, hget, fold_turn, ← e1]
  congr 1
  have hj : k % 8 < 8 := Nat.mod_lt _ (by omega)
  have hb : b32 (UInt8.ofNat (2 ^ (k % 8))) = 1#32 <<< (k % 8) := by
    generalize k % 8 = j at hj
    match j, hj with
    | 0, _ => decide
    | 1, _ => decide
    | 2, _ => decide
    | 3, _ => decide
    | 4, _ => decide
    | 5, _ => decide
    | 6, _ => decide
    | 7, _ => decide
  have hs : ∀ j, j < 32 → An j (1#32 <<< j) = 1#32 := fun j hj => An_shl j 1#32 (by
    have : 2 ^ j < 2 ^ 32 := Nat.pow_lt_pow_right (by omega) hj
    simpa using this)
  rw [hb]
  have a1 : 8 * ((l.drop (k / 8 + 1)).length + 1) = k % 8 + (8 * l.length - k) := by rw [List.length_drop]; omega
  have a2 : 8 * l.length - at_ = i + (8 * l.length - k) := by omega
  rw [a1, a2, An_add, An_add, hs _ (by omega), hs _ hi]
end Go.Proofs.Ythkfgjdbgnbjkaa
