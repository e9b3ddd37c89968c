/- The walks of package disk: New, Read, Slot, Copy, bytes. -/
import Derived.Test.YthkfgjdbgnbjkaaDskW
namespace Go.Proofs.Ythkfgjdbgnbjkaa
open Go.RowKit
set_option linter.unusedSimpArgs false
set_option linter.unusedVariables false

/-- a disk: its two slots. -/
def DskAt (w : World) (g : Nat) (x y : ByteArray) : Prop :=
  w.cell? ⟨g, 0, none⟩ = some (.string x) ∧ w.cell? ⟨g, 1, none⟩ = some (.string y) ∧ w.frozen? ⟨g, 0, none⟩ = false ∧ w.frozen? ⟨g, 1, none⟩ = false
theorem DskAt.kept {w w' : World} {g : Nat} {x y : ByteArray} (h : DskAt w g x y) (hb : Below w.heap.size w w') : DskAt w' g x y := by
  have hl := World.block_lt_of_cell? w _ h.1
  exact ⟨(hb.cell (p := ⟨g, 0, none⟩) hl).trans h.1, (hb.cell (p := ⟨g, 1, none⟩) hl).trans h.2.1, (hb.frozen (p := ⟨g, 0, none⟩) hl).trans h.2.2.1, (hb.frozen (p := ⟨g, 1, none⟩) hl).trans h.2.2.2⟩
theorem DskAt.set0 {w : World} {g : Nat} {x y : ByteArray} (h : DskAt w g x y) (s : ByteArray) : DskAt (w.setCell ⟨g, 0, none⟩ (.string s)) g s y :=
  ⟨World.cell?_setCell_same _ _ _ h.1, (World.cell?_setCell_other w ⟨g, 0, none⟩ ⟨g, 1, none⟩ _ (by simp)).trans h.2.1, by rw [World.frozen?_setCell]; exact h.2.2.1, by rw [World.frozen?_setCell]; exact h.2.2.2⟩
theorem DskAt.set1 {w : World} {g : Nat} {x y : ByteArray} (h : DskAt w g x y) (s : ByteArray) : DskAt (w.setCell ⟨g, 1, none⟩ (.string s)) g x s :=
  ⟨(World.cell?_setCell_other w ⟨g, 1, none⟩ ⟨g, 0, none⟩ _ (by simp)).trans h.1, World.cell?_setCell_same _ _ _ h.2.1, by rw [World.frozen?_setCell]; exact h.2.2.1, by rw [World.frozen?_setCell]; exact h.2.2.2⟩
theorem DskAt.drewN {w : World} {g : Nat} {x y : ByteArray} (h : DskAt w g x y) (n : Nat) : DskAt (w.drewN n) g x y := h

theorem ret_read {r r' : ByteArray} {a b : Bool} (h1 : r = r') (h2 : a = b) : Ending.returned (.tuple #[.string r, .bool a]) = .returned (.tuple #[.string r', .bool b]) := by rw [h1, h2]

set_option maxHeartbeats 400000 in
theorem dnew_any (w : World) : Calls Try.prog 35 #[] w fun e w' => e = .returned (.pointer (some ⟨w.heap.size, 0, none⟩)) ∧ DskAt w' w.heap.size ⟨#[]⟩ ⟨#[]⟩ ∧ Below w.heap.size w w' := by
  go_enter Try.func35, Try.ntmps35
  go_wp2
  go_ret
  exact ⟨rfl, ⟨cell_top rfl rfl, cell_top rfl rfl, by simp, by simp⟩, below_alloc (Below.refl _ _) _⟩

set_option maxHeartbeats 400000 in
theorem dread_any (g : Nat) (x y : ByteArray) (w : World) (h : DskAt w g x y) (hx : x.size ≤ 1000004) (hy : y.size ≤ 1000004) :
    Calls Try.prog 39 #[.pointer (some ⟨g, 0, none⟩)] w fun e w' => e = .returned (.tuple #[.string (nR x y), .bool (decide (0 ≤ nAt x y))]) ∧ Below w.heap.size w w' := by
  obtain ⟨h0, h1, h2, h3⟩ := h
  go_enter Try.func39, Try.ntmps39
  go_wp2_with fail
  refine (newest_any x y w hx hy).mono ?_
  rintro e w1 ⟨rfl, hb1⟩
  go_wp2_with fail
  go_ret2
  exact ⟨rfl, hb1⟩

set_option maxHeartbeats 400000 in
theorem slot0_any (g : Nat) (x y : ByteArray) (w : World) (h : DskAt w g x y) :
    Calls Try.prog 41 #[.pointer (some ⟨g, 0, none⟩), .int .i64 0] w fun e w' => e = .returned (.string x) ∧ w = w' := by
  obtain ⟨h0, h1, h2, h3⟩ := h
  go_enter Try.func41, Try.ntmps41
  go_wp2
  go_ret
  exact ⟨rfl, rfl⟩
set_option maxHeartbeats 400000 in
theorem slot1_any (g : Nat) (x y : ByteArray) (w : World) (h : DskAt w g x y) :
    Calls Try.prog 41 #[.pointer (some ⟨g, 0, none⟩), .int .i64 1] w fun e w' => e = .returned (.string y) ∧ w = w' := by
  obtain ⟨h0, h1, h2, h3⟩ := h
  go_enter Try.func41, Try.ntmps41
  go_wp2
  go_ret
  exact ⟨rfl, rfl⟩
set_option maxHeartbeats 400000 in
theorem slotN_any (g : Nat) (i : Int) (w : World) (h : i < 0 ∨ 2 ≤ i) :
    Calls Try.prog 41 #[.pointer (some ⟨g, 0, none⟩), .int .i64 i] w fun e w' => e = .returned (.string ⟨#[]⟩) ∧ w = w' := by
  rcases h with h | h
  · have hd : decide (i < 0) = true := by simpa using h
    go_enter Try.func41, Try.ntmps41
    go_wp2
    go_ret
    exact ⟨rfl, rfl⟩
  · have hd : decide (i < 0) = false := by simp; omega
    have hd2 : decide (2 ≤ i) = true := by simpa using h
    go_enter Try.func41, Try.ntmps41
    go_wp2
    go_ret
    exact ⟨rfl, rfl⟩

set_option maxHeartbeats 400000 in
theorem dcopy_any (g : Nat) (x y : ByteArray) (w : World) (h : DskAt w g x y) :
    Calls Try.prog 42 #[.pointer (some ⟨g, 0, none⟩)] w fun e w' => e = .returned (.pointer (some ⟨w.heap.size, 0, none⟩)) ∧ DskAt w' w.heap.size x y ∧ Below w.heap.size w w' := by
  obtain ⟨h0, h1, h2, h3⟩ := h
  go_enter Try.func42, Try.ntmps42
  go_wp2
  go_ret
  exact ⟨rfl, ⟨cell_top rfl rfl, cell_top rfl rfl, by simp, by simp⟩, below_alloc (Below.refl _ _) _⟩
end Go.Proofs.Ythkfgjdbgnbjkaa
