/- The walks of consortref08: newest, Read. -/
import Derived.Test.YthkfgjdbgnbjkaaDskD
import Derived.Test.YthkfgjdbgnbjkaaFrmW
import Derived.Test.YthkfgjdbgnbjkaaDskA
namespace Go.Proofs.Ythkfgjdbgnbjkaa
open Go.RowKit
set_option linter.unusedSimpArgs false
set_option linter.unusedVariables false

theorem vN_on {s : ByteArray} (h : wOk s = true) : vN s = wN s := by unfold vN; rw [h]; rfl
theorem vR_on {s : ByteArray} (h : wOk s = true) : vR s = wR s := by unfold vR; rw [h]; rfl
theorem new_pick1 {x y : ByteArray} {a b : Int} {n : Nat} {r : ByteArray} {w w' : World} (hab : b = a + 1) (h : nAt x y = a ∧ nR x y = r ∧ nN x y = n) (hb : Below w.heap.size w w') :
    Ending.returned (.tuple #[.int .i64 b, .int .u64 (n : Int), .string r]) = .returned (.tuple #[.int .i64 (nAt x y + 1), .int .u64 (nN x y : Int), .string (nR x y)]) ∧ Below w.heap.size w w' := by
  obtain ⟨h1, h2, h3⟩ := h
  rw [h1, h2, h3, hab]
  exact ⟨rfl, hb⟩

set_option maxHeartbeats 800000 in
theorem rnewest_ff (x y : ByteArray) (w : World) (hx : x.size ≤ 1000004) (hy : y.size ≤ 1000004) (hX : wOk x = false) (hY : wOk y = false) :
    Calls Try.prog 67 #[.agg #[.string x, .string y]] w fun e w' => e = .returned (.tuple #[.int .i64 (nAt x y + 1), .int .u64 (nN x y : Int), .string (nR x y)]) ∧ Below w.heap.size w w' := by
  have hpx := fun W => rwhole_any x W hx
  have hpy := fun W => rwhole_any y W hy
  rw [hX] at hpx
  rw [hY] at hpy
  have HPX := Lib.hid hpx
  have HPY := Lib.hid hpy
  clear hpx hpy
  have hb0 : Below w.heap.size w (w.alloc (.cells #[.string x, .string y] 54)) := below_alloc (Below.refl _ _) _
  have c0 : (w.alloc (.cells #[.string x, .string y] 54)).cell? ⟨w.heap.size, 0, none⟩ = some (.string x) := cell_top rfl rfl
  have c1 : (w.alloc (.cells #[.string x, .string y] 54)).cell? ⟨w.heap.size, 1, none⟩ = some (.string y) := cell_top rfl rfl
  go_enter Try.func67, Try.ntmps67
  go_wp2_with fail
  refine (HPX.out _).mono ?_
  rintro e w1 ⟨rfl, hb1⟩
  have hbl1 := below_step hb0 hb1
  have d1 := cell_keep c1 hb1
  clear c0 c1 hb0 hb1
  go_wp2_with fail
  refine (HPY.out _).mono ?_
  rintro e w2 ⟨rfl, hb2⟩
  go_wp2_with fail
  go_ret3
  refine new_pick1 (a := -1) (b := 0) (n := 0) (r := ⟨#[]⟩) (by rfl) (pickN hX hY) ?_
  exact below_step hbl1 hb2

set_option maxHeartbeats 800000 in
theorem rnewest_ft (x y : ByteArray) (w : World) (hx : x.size ≤ 1000004) (hy : y.size ≤ 1000004) (hX : wOk x = false) (hY : wOk y = true) :
    Calls Try.prog 67 #[.agg #[.string x, .string y]] w fun e w' => e = .returned (.tuple #[.int .i64 (nAt x y + 1), .int .u64 (nN x y : Int), .string (nR x y)]) ∧ Below w.heap.size w w' := by
  have hpx := fun W => rwhole_any x W hx
  have hpy := fun W => rwhole_any y W hy
  rw [hX] at hpx
  rw [vN_on hY, vR_on hY, hY] at hpy
  have HPX := Lib.hid hpx
  have HPY := Lib.hid hpy
  clear hpx hpy
  have hb0 : Below w.heap.size w (w.alloc (.cells #[.string x, .string y] 54)) := below_alloc (Below.refl _ _) _
  have c0 : (w.alloc (.cells #[.string x, .string y] 54)).cell? ⟨w.heap.size, 0, none⟩ = some (.string x) := cell_top rfl rfl
  have c1 : (w.alloc (.cells #[.string x, .string y] 54)).cell? ⟨w.heap.size, 1, none⟩ = some (.string y) := cell_top rfl rfl
  go_enter Try.func67, Try.ntmps67
  go_wp2_with fail
  refine (HPX.out _).mono ?_
  rintro e w1 ⟨rfl, hb1⟩
  have hbl1 := below_step hb0 hb1
  have d1 := cell_keep c1 hb1
  clear c0 c1 hb0 hb1
  go_wp2_with fail
  refine (HPY.out _).mono ?_
  rintro e w2 ⟨rfl, hb2⟩
  go_wp2_with fail
  go_ret3
  refine new_pick1 (a := 1) (b := 2) (by rfl) (pick1 hY (fun h => by rw [hX] at h; cases h)) ?_
  exact below_step hbl1 hb2

set_option maxHeartbeats 800000 in
theorem rnewest_tf (x y : ByteArray) (w : World) (hx : x.size ≤ 1000004) (hy : y.size ≤ 1000004) (hX : wOk x = true) (hY : wOk y = false) :
    Calls Try.prog 67 #[.agg #[.string x, .string y]] w fun e w' => e = .returned (.tuple #[.int .i64 (nAt x y + 1), .int .u64 (nN x y : Int), .string (nR x y)]) ∧ Below w.heap.size w w' := by
  have hpx := fun W => rwhole_any x W hx
  have hpy := fun W => rwhole_any y W hy
  rw [vN_on hX, vR_on hX, hX] at hpx
  rw [hY] at hpy
  have HPX := Lib.hid hpx
  have HPY := Lib.hid hpy
  clear hpx hpy
  have hb0 : Below w.heap.size w (w.alloc (.cells #[.string x, .string y] 54)) := below_alloc (Below.refl _ _) _
  have c0 : (w.alloc (.cells #[.string x, .string y] 54)).cell? ⟨w.heap.size, 0, none⟩ = some (.string x) := cell_top rfl rfl
  have c1 : (w.alloc (.cells #[.string x, .string y] 54)).cell? ⟨w.heap.size, 1, none⟩ = some (.string y) := cell_top rfl rfl
  go_enter Try.func67, Try.ntmps67
  go_wp2_with fail
  refine (HPX.out _).mono ?_
  rintro e w1 ⟨rfl, hb1⟩
  have hbl1 := below_step hb0 hb1
  have d1 := cell_keep c1 hb1
  clear c0 c1 hb0 hb1
  go_wp2_with fail
  refine (HPY.out _).mono ?_
  rintro e w2 ⟨rfl, hb2⟩
  go_wp2_with fail
  go_ret3
  refine new_pick1 (a := 0) (b := 1) (by rfl) (pick0 hX (fun h => by rw [hY] at h; cases h)) ?_
  exact below_step hbl1 hb2

set_option maxHeartbeats 800000 in
theorem rnewest_ttl (x y : ByteArray) (w : World) (hx : x.size ≤ 1000004) (hy : y.size ≤ 1000004) (hX : wOk x = true) (hY : wOk y = true) (hL : wN x < wN y) :
    Calls Try.prog 67 #[.agg #[.string x, .string y]] w fun e w' => e = .returned (.tuple #[.int .i64 (nAt x y + 1), .int .u64 (nN x y : Int), .string (nR x y)]) ∧ Below w.heap.size w w' := by
  have hpx := fun W => rwhole_any x W hx
  have hpy := fun W => rwhole_any y W hy
  rw [vN_on hX, vR_on hX, hX] at hpx
  rw [vN_on hY, vR_on hY, hY] at hpy
  have HPX := Lib.hid hpx
  have HPY := Lib.hid hpy
  clear hpx hpy
  have hgt : decide (wN y ≤ wN x) = false := by simp; omega
  have HL := Lib.hid hL
  clear hL
  have hb0 : Below w.heap.size w (w.alloc (.cells #[.string x, .string y] 54)) := below_alloc (Below.refl _ _) _
  have c0 : (w.alloc (.cells #[.string x, .string y] 54)).cell? ⟨w.heap.size, 0, none⟩ = some (.string x) := cell_top rfl rfl
  have c1 : (w.alloc (.cells #[.string x, .string y] 54)).cell? ⟨w.heap.size, 1, none⟩ = some (.string y) := cell_top rfl rfl
  go_enter Try.func67, Try.ntmps67
  go_wp2_with fail
  refine (HPX.out _).mono ?_
  rintro e w1 ⟨rfl, hb1⟩
  have hbl1 := below_step hb0 hb1
  have d1 := cell_keep c1 hb1
  clear c0 c1 hb0 hb1
  go_wp2_with fail
  refine (HPY.out _).mono ?_
  rintro e w2 ⟨rfl, hb2⟩
  go_wp2_with fail
  go_ret3
  refine new_pick1 (a := 1) (b := 2) (by rfl) (pick1 hY (fun _ => HL.out)) ?_
  exact below_step hbl1 hb2

set_option maxHeartbeats 800000 in
theorem rnewest_ttg (x y : ByteArray) (w : World) (hx : x.size ≤ 1000004) (hy : y.size ≤ 1000004) (hX : wOk x = true) (hY : wOk y = true) (hL : ¬ wN x < wN y) :
    Calls Try.prog 67 #[.agg #[.string x, .string y]] w fun e w' => e = .returned (.tuple #[.int .i64 (nAt x y + 1), .int .u64 (nN x y : Int), .string (nR x y)]) ∧ Below w.heap.size w w' := by
  have hpx := fun W => rwhole_any x W hx
  have hpy := fun W => rwhole_any y W hy
  rw [vN_on hX, vR_on hX, hX] at hpx
  rw [vN_on hY, vR_on hY, hY] at hpy
  have HPX := Lib.hid hpx
  have HPY := Lib.hid hpy
  clear hpx hpy
  have hgt : decide (wN y ≤ wN x) = true := by simp; omega
  have HL := Lib.hid hL
  clear hL
  have hb0 : Below w.heap.size w (w.alloc (.cells #[.string x, .string y] 54)) := below_alloc (Below.refl _ _) _
  have c0 : (w.alloc (.cells #[.string x, .string y] 54)).cell? ⟨w.heap.size, 0, none⟩ = some (.string x) := cell_top rfl rfl
  have c1 : (w.alloc (.cells #[.string x, .string y] 54)).cell? ⟨w.heap.size, 1, none⟩ = some (.string y) := cell_top rfl rfl
  go_enter Try.func67, Try.ntmps67
  go_wp2_with fail
  refine (HPX.out _).mono ?_
  rintro e w1 ⟨rfl, hb1⟩
  have hbl1 := below_step hb0 hb1
  have d1 := cell_keep c1 hb1
  clear c0 c1 hb0 hb1
  go_wp2_with fail
  refine (HPY.out _).mono ?_
  rintro e w2 ⟨rfl, hb2⟩
  go_wp2_with fail
  go_ret3
  refine new_pick1 (a := 0) (b := 1) (by rfl) (pick0 hX (fun _ => by have := HL.out; omega)) ?_
  exact below_step hbl1 hb2

theorem rnewest_any (x y : ByteArray) (w : World) (hx : x.size ≤ 1000004) (hy : y.size ≤ 1000004) :
    Calls Try.prog 67 #[.agg #[.string x, .string y]] w fun e w' => e = .returned (.tuple #[.int .i64 (nAt x y + 1), .int .u64 (nN x y : Int), .string (nR x y)]) ∧ Below w.heap.size w w' := by
  cases hX : wOk x <;> cases hY : wOk y
  · exact rnewest_ff x y w hx hy hX hY
  · exact rnewest_ft x y w hx hy hX hY
  · exact rnewest_tf x y w hx hy hX hY
  · by_cases hL : wN x < wN y
    · exact rnewest_ttl x y w hx hy hX hY hL
    · exact rnewest_ttg x y w hx hy hX hY hL

theorem gt_nAt (x y : ByteArray) : decide (0 < nAt x y + 1) = decide (0 ≤ nAt x y) := by rw [Bool.eq_iff_iff]; simp; omega
set_option maxHeartbeats 400000 in
theorem rread_any (x y : ByteArray) (w : World) (hx : x.size ≤ 1000004) (hy : y.size ≤ 1000004) :
    Calls Try.prog 40 #[.agg #[.string x, .string y]] w fun e w' => e = .returned (.tuple #[.string (nR x y), .bool (decide (0 ≤ nAt x y))]) ∧ Below w.heap.size w w' := by
  have hb0 : Below w.heap.size w (w.alloc (.cells #[.string x, .string y] 54)) := below_alloc (Below.refl _ _) _
  have hg := gt_nAt x y
  go_enter Try.func40, Try.ntmps40
  go_wp2_with fail
  refine (rnewest_any x y _ hx hy).mono ?_
  rintro e w1 ⟨rfl, hb1⟩
  go_wp2_with fail
  go_ret2
  exact ⟨ret_read rfl (by first | rfl | exact hg), below_step hb0 hb1⟩
end Go.Proofs.Ythkfgjdbgnbjkaa
