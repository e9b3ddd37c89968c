/- The walks of package disk: whole, newest, bytes. -/
import Derived.Test.YthkfgjdbgnbjkaaDskM
import Derived.Handy
namespace Go.Proofs.Ythkfgjdbgnbjkaa
open Go.RowKit
set_option linter.unusedSimpArgs false
set_option linter.unusedVariables false

set_option maxHeartbeats 400000 in
theorem whole_no (s : ByteArray) (w : World) (hm : s.size ≤ 1000004) (ho : wOpen s = false) :
    Calls Try.prog 84 #[.string s] w fun e w' => e = .returned (.tuple #[.int .u64 (wN s : Int), .string (wR s), .bool (wOk s)]) ∧ Below w.heap.size w w' := by
  have h1 : wN s = 0 := by unfold wN; rw [ho]; rfl
  have h2 : wR s = ⟨#[]⟩ := by unfold wR; rw [ho]; rfl
  have h3 : wOk s = false := by unfold wOk; rw [ho]; rfl
  rw [h1, h2, h3]
  clear h1 h2 h3
  cases hok : openOk s with
  | false =>
    go_enter Try.func84, Try.ntmps84
    go_wp2_with fail
    refine (open_any _ _ hm).mono ?_
    rw [hok]
    rintro e w1 ⟨rfl, hb1⟩
    go_wp2_with fail
    go_ret3
    exact ⟨rfl, hb1⟩
  | true =>
    have hsz : (openB s).size < 10 := by
      unfold wOpen at ho
      rw [hok] at ho
      simpa using ho
    have hd : decide (((openB s).size : Int) < 10) = true := by simp; omega
    clear ho
    go_enter Try.func84, Try.ntmps84
    go_wp2_with fail
    refine (open_any _ _ hm).mono ?_
    rw [hok]
    rintro e w1 ⟨rfl, hb1⟩
    go_wp2_with fail
    go_ret3
    exact ⟨rfl, hb1⟩

set_option maxHeartbeats 800000 in
theorem whole_yes (s : ByteArray) (w : World) (hm : s.size ≤ 1000004) (ho : wOpen s = true) :
    Calls Try.prog 84 #[.string s] w fun e w' => e = .returned (.tuple #[.int .u64 (wN s : Int), .string (wR s), .bool (wOk s)]) ∧ Below w.heap.size w w' := by
  have h1 : wN s = NumM.val (((openB s).data.toList.drop 0).take 8) := by unfold wN; rw [ho]; rfl
  have h2 : wR s = (openB s).extract 10 (openB s).size := by unfold wR; rw [ho]; rfl
  have h3 : wOk s = decide ((openB s).size = 10 + wLen s) := by unfold wOk; rw [ho]; rfl
  have h4 : wLen s = NumM.val (((openB s).data.toList.drop 8).take 2) := rfl
  have ho' := ho
  unfold wOpen at ho'
  rw [Bool.and_eq_true, decide_eq_true_iff] at ho'
  obtain ⟨hok, h10⟩ := ho'
  have hts := openB_size s hok
  rw [h1, h2, h3, h4]
  clear h1 h2 h3 h4 ho
  have hn : NumM.val (((openB s).data.toList.drop 8).take 2) < 65536 := NumM.val_take_lt _ 2 (by rw [List.length_take]; omega)
  have hnum1 := fun g W (h : RdAt W g (openB s) 0) => num_ok g (openB s) 0 8 W h (by unfold maxLen; omega) (by omega) (by omega)
  have hnum2 := fun g W (h : RdAt W g (openB s) 8) => num_ok g (openB s) 8 2 W h (by unfold maxLen; omega) (by omega) (by omega)
  have hd : decide (((openB s).size : Int) < 10) = false := by simp; omega
  have hsz : ((openB s).extract 10 (openB s).size).size = (openB s).size - 10 := by rw [ByteArray.size_extract]; omega
  generalize hT : openB s = t at *
  have HT := Lib.hid hT
  clear hT
  generalize NumM.val ((t.data.toList.drop 0).take 8) = a at *
  generalize NumM.val ((t.data.toList.drop 8).take 2) = n at *
  generalize hr : t.extract 10 t.size = r at *
  have HR := Lib.hid hr
  have H1 := Lib.hid hnum1
  have H2 := Lib.hid hnum2
  have htm : t.size ≤ maxLen := by unfold maxLen; omega
  have hfin : ((((t.size : Nat) : Int) == 10 + (n : Int))) = decide (t.size = 10 + n) := by
    rw [Bool.eq_iff_iff]; simp; omega
  clear hr hnum1 hnum2
  go_enter Try.func84, Try.ntmps84
  go_wp2_with fail
  refine (open_any _ _ hm).mono ?_
  rw [hok, HT.out]
  rintro e w1 ⟨rfl, hb1⟩
  go_wp2_with fail
  refine (new_any t w1).mono ?_
  rintro e w2 ⟨rfl, hr2, hb2⟩
  have hbl2 := below_step hb1 hb2
  have hle := hb1.size
  generalize w1.heap.size = g at *
  have hg2 := World.block_lt_of_cell? w2 _ hr2.1
  clear hb1 hb2 w1
  go_wp2_with fail
  refine (H1.out g _ hr2).mono ?_
  rintro e w3 ⟨rfl, hr3, ho3⟩
  have hbl3 := ho3.below hbl2 hbl2.size hle
  clear hr2 ho3 hbl2 hg2 w2
  go_wp2_with fail
  refine (H2.out g _ hr3).mono ?_
  rintro e w4 ⟨rfl, hr4, ho4⟩
  have hbl4 := ho4.below hbl3 hbl3.size hle
  clear hr3 ho4 hbl3 w3
  go_wp2_with fail
  refine (left_any g t 10 _ hr4 htm h10).mono ?_
  rintro e w5 ⟨rfl, nd, rfl⟩
  go_wp2_with fail
  refine (text_ok g t 10 (t.size - 10) _ (hr4.drewN nd) htm (by omega)).mono ?_
  rw [show 10 + (t.size - 10) = t.size from by omega, HR.out]
  rintro e w6 ⟨rfl, hr6, ho6⟩
  have hbl6 := ho6.below (below_drewN hbl4 nd) (below_drewN hbl4 nd).size hle
  clear hr4 ho6 hbl4 hr6 w4
  go_wp2_with fail
  go_ret3
  exact ⟨rfl, hbl6⟩

theorem whole_any (s : ByteArray) (w : World) (hm : s.size ≤ 1000004) :
    Calls Try.prog 84 #[.string s] w fun e w' => e = .returned (.tuple #[.int .u64 (wN s : Int), .string (wR s), .bool (wOk s)]) ∧ Below w.heap.size w w' := by
  cases ho : wOpen s with
  | false => exact whole_no s w hm ho
  | true => exact whole_yes s w hm ho

theorem ret_new {a a' : Int} {n n' : Nat} {r r' : ByteArray} (h1 : a = a') (h2 : n = n') (h3 : r = r') : Ending.returned (.tuple #[.int .i64 a, .int .u64 (n : Int), .string r]) = .returned (.tuple #[.int .i64 a', .int .u64 (n' : Int), .string r']) := by rw [h1, h2, h3]

theorem new_pick {x y : ByteArray} {a : Int} {n : Nat} {r : ByteArray} {w w' : World} (h : nAt x y = a ∧ nR x y = r ∧ nN x y = n) (hb : Below w.heap.size w w') :
    Ending.returned (.tuple #[.int .i64 a, .int .u64 (n : Int), .string r]) = .returned (.tuple #[.int .i64 (nAt x y), .int .u64 (nN x y : Int), .string (nR x y)]) ∧ Below w.heap.size w w' := by
  obtain ⟨h1, h2, h3⟩ := h
  rw [h1, h2, h3]
  exact ⟨rfl, hb⟩

set_option maxHeartbeats 800000 in
theorem newest_ff (x y : ByteArray) (w : World) (hx : x.size ≤ 1000004) (hy : y.size ≤ 1000004) (hX : wOk x = false) (hY : wOk y = false) :
    Calls Try.prog 66 #[.agg #[.string x, .string y]] w fun e w' => e = .returned (.tuple #[.int .i64 (nAt x y), .int .u64 (nN x y : Int), .string (nR x y)]) ∧ Below w.heap.size w w' := by
  have hpx := fun W => whole_any x W hx
  have hpy := fun W => whole_any y W hy
  rw [hX] at hpx
  rw [hY] at hpy
  have HPX := Lib.hid hpx
  have HPY := Lib.hid hpy
  clear hpx hpy
  have hb0 : Below w.heap.size w (w.alloc (.cells #[.string x, .string y] 103)) := below_alloc (Below.refl _ _) _
  have i0 : ∀ w : World, (Instr.index 34 (.agg #[.string x, .string y]) (.int .i64 0)).run Try.prog w = .ok (.string x) w := fun _ => by kernel_rfl
  have i1 : ∀ w : World, (Instr.index 34 (.agg #[.string x, .string y]) (.int .i64 1)).run Try.prog w = .ok (.string y) w := fun _ => by kernel_rfl
  go_enter Try.func66, Try.ntmps66
  go_wp2
  generalize w.alloc _ = w0 at *
  refine wp_loop_rounds 3 ?_
  rw [rounds_succ]
  go_wp2_with fail
  refine (HPX.out _).mono ?_
  rintro e w1 ⟨rfl, hb1⟩
  go_wp2_with fail
  rw [rounds_succ]
  go_wp2_with fail
  refine (HPY.out _).mono ?_
  rintro e w2 ⟨rfl, hb2⟩
  go_wp2_with fail
  rw [rounds_succ]
  go_wp2_with fail
  go_ret3
  refine new_pick (a := -1) (n := 0) (r := ⟨#[]⟩) (pickN hX hY) ?_
  exact below_step (below_step hb0 hb1) hb2

set_option maxHeartbeats 800000 in
theorem newest_ft (x y : ByteArray) (w : World) (hx : x.size ≤ 1000004) (hy : y.size ≤ 1000004) (hX : wOk x = false) (hY : wOk y = true) :
    Calls Try.prog 66 #[.agg #[.string x, .string y]] w fun e w' => e = .returned (.tuple #[.int .i64 (nAt x y), .int .u64 (nN x y : Int), .string (nR x y)]) ∧ Below w.heap.size w w' := by
  have hpx := fun W => whole_any x W hx
  have hpy := fun W => whole_any y W hy
  rw [hX] at hpx
  rw [hY] at hpy
  have HPX := Lib.hid hpx
  have HPY := Lib.hid hpy
  clear hpx hpy
  have hb0 : Below w.heap.size w (w.alloc (.cells #[.string x, .string y] 103)) := below_alloc (Below.refl _ _) _
  have i0 : ∀ w : World, (Instr.index 34 (.agg #[.string x, .string y]) (.int .i64 0)).run Try.prog w = .ok (.string x) w := fun _ => by kernel_rfl
  have i1 : ∀ w : World, (Instr.index 34 (.agg #[.string x, .string y]) (.int .i64 1)).run Try.prog w = .ok (.string y) w := fun _ => by kernel_rfl
  go_enter Try.func66, Try.ntmps66
  go_wp2
  generalize w.alloc _ = w0 at *
  refine wp_loop_rounds 3 ?_
  rw [rounds_succ]
  go_wp2_with fail
  refine (HPX.out _).mono ?_
  rintro e w1 ⟨rfl, hb1⟩
  go_wp2_with fail
  rw [rounds_succ]
  go_wp2_with fail
  refine (HPY.out _).mono ?_
  rintro e w2 ⟨rfl, hb2⟩
  go_wp2_with fail
  rw [rounds_succ]
  go_wp2_with fail
  go_ret3
  refine new_pick (a := 1) (pick1 hY (fun h => by rw [hX] at h; cases h)) ?_
  exact below_step (below_step hb0 hb1) hb2

set_option maxHeartbeats 800000 in
theorem newest_tf (x y : ByteArray) (w : World) (hx : x.size ≤ 1000004) (hy : y.size ≤ 1000004) (hX : wOk x = true) (hY : wOk y = false) :
    Calls Try.prog 66 #[.agg #[.string x, .string y]] w fun e w' => e = .returned (.tuple #[.int .i64 (nAt x y), .int .u64 (nN x y : Int), .string (nR x y)]) ∧ Below w.heap.size w w' := by
  have hpx := fun W => whole_any x W hx
  have hpy := fun W => whole_any y W hy
  rw [hX] at hpx
  rw [hY] at hpy
  have HPX := Lib.hid hpx
  have HPY := Lib.hid hpy
  clear hpx hpy
  have hb0 : Below w.heap.size w (w.alloc (.cells #[.string x, .string y] 103)) := below_alloc (Below.refl _ _) _
  have i0 : ∀ w : World, (Instr.index 34 (.agg #[.string x, .string y]) (.int .i64 0)).run Try.prog w = .ok (.string x) w := fun _ => by kernel_rfl
  have i1 : ∀ w : World, (Instr.index 34 (.agg #[.string x, .string y]) (.int .i64 1)).run Try.prog w = .ok (.string y) w := fun _ => by kernel_rfl
  go_enter Try.func66, Try.ntmps66
  go_wp2
  generalize w.alloc _ = w0 at *
  refine wp_loop_rounds 3 ?_
  rw [rounds_succ]
  go_wp2_with fail
  refine (HPX.out _).mono ?_
  rintro e w1 ⟨rfl, hb1⟩
  go_wp2_with fail
  rw [rounds_succ]
  go_wp2_with fail
  refine (HPY.out _).mono ?_
  rintro e w2 ⟨rfl, hb2⟩
  go_wp2_with fail
  rw [rounds_succ]
  go_wp2_with fail
  go_ret3
  refine new_pick (a := 0) (pick0 hX (fun h => by rw [hY] at h; cases h)) ?_
  exact below_step (below_step hb0 hb1) hb2

set_option maxHeartbeats 800000 in
theorem newest_ttl (x y : ByteArray) (w : World) (hx : x.size ≤ 1000004) (hy : y.size ≤ 1000004) (hX : wOk x = true) (hY : wOk y = true) (hL : wN x < wN y) :
    Calls Try.prog 66 #[.agg #[.string x, .string y]] w fun e w' => e = .returned (.tuple #[.int .i64 (nAt x y), .int .u64 (nN x y : Int), .string (nR x y)]) ∧ Below w.heap.size w w' := by
  have hpx := fun W => whole_any x W hx
  have hpy := fun W => whole_any y W hy
  rw [hX] at hpx
  rw [hY] at hpy
  have HPX := Lib.hid hpx
  have HPY := Lib.hid hpy
  clear hpx hpy
  have hgt : decide ((wN y : Int) > (wN x : Int)) = true := by simp; omega
  have HL := Lib.hid hL
  clear hL
  have hb0 : Below w.heap.size w (w.alloc (.cells #[.string x, .string y] 103)) := below_alloc (Below.refl _ _) _
  have i0 : ∀ w : World, (Instr.index 34 (.agg #[.string x, .string y]) (.int .i64 0)).run Try.prog w = .ok (.string x) w := fun _ => by kernel_rfl
  have i1 : ∀ w : World, (Instr.index 34 (.agg #[.string x, .string y]) (.int .i64 1)).run Try.prog w = .ok (.string y) w := fun _ => by kernel_rfl
  go_enter Try.func66, Try.ntmps66
  go_wp2
  generalize w.alloc _ = w0 at *
  refine wp_loop_rounds 3 ?_
  rw [rounds_succ]
  go_wp2_with fail
  refine (HPX.out _).mono ?_
  rintro e w1 ⟨rfl, hb1⟩
  go_wp2_with fail
  rw [rounds_succ]
  go_wp2_with fail
  refine (HPY.out _).mono ?_
  rintro e w2 ⟨rfl, hb2⟩
  go_wp2_with fail
  rw [rounds_succ]
  go_wp2_with fail
  go_ret3
  refine new_pick (a := 1) (pick1 hY (fun _ => HL.out)) ?_
  exact below_step (below_step hb0 hb1) hb2

set_option maxHeartbeats 800000 in
theorem newest_ttg (x y : ByteArray) (w : World) (hx : x.size ≤ 1000004) (hy : y.size ≤ 1000004) (hX : wOk x = true) (hY : wOk y = true) (hL : ¬ wN x < wN y) :
    Calls Try.prog 66 #[.agg #[.string x, .string y]] w fun e w' => e = .returned (.tuple #[.int .i64 (nAt x y), .int .u64 (nN x y : Int), .string (nR x y)]) ∧ Below w.heap.size w w' := by
  have hpx := fun W => whole_any x W hx
  have hpy := fun W => whole_any y W hy
  rw [hX] at hpx
  rw [hY] at hpy
  have HPX := Lib.hid hpx
  have HPY := Lib.hid hpy
  clear hpx hpy
  have hgt : decide ((wN y : Int) > (wN x : Int)) = false := by simp; omega
  have HL := Lib.hid hL
  clear hL
  have hb0 : Below w.heap.size w (w.alloc (.cells #[.string x, .string y] 103)) := below_alloc (Below.refl _ _) _
  have i0 : ∀ w : World, (Instr.index 34 (.agg #[.string x, .string y]) (.int .i64 0)).run Try.prog w = .ok (.string x) w := fun _ => by kernel_rfl
  have i1 : ∀ w : World, (Instr.index 34 (.agg #[.string x, .string y]) (.int .i64 1)).run Try.prog w = .ok (.string y) w := fun _ => by kernel_rfl
  go_enter Try.func66, Try.ntmps66
  go_wp2
  generalize w.alloc _ = w0 at *
  refine wp_loop_rounds 3 ?_
  rw [rounds_succ]
  go_wp2_with fail
  refine (HPX.out _).mono ?_
  rintro e w1 ⟨rfl, hb1⟩
  go_wp2_with fail
  rw [rounds_succ]
  go_wp2_with fail
  refine (HPY.out _).mono ?_
  rintro e w2 ⟨rfl, hb2⟩
  go_wp2_with fail
  rw [rounds_succ]
  go_wp2_with fail
  go_ret3
  refine new_pick (a := 0) (pick0 hX (fun _ => by have := HL.out; omega)) ?_
  exact below_step (below_step hb0 hb1) hb2

theorem newest_any (x y : ByteArray) (w : World) (hx : x.size ≤ 1000004) (hy : y.size ≤ 1000004) :
    Calls Try.prog 66 #[.agg #[.string x, .string y]] w fun e w' => e = .returned (.tuple #[.int .i64 (nAt x y), .int .u64 (nN x y : Int), .string (nR x y)]) ∧ Below w.heap.size w w' := by
  cases hX : wOk x <;> cases hY : wOk y
  · exact newest_ff x y w hx hy hX hY
  · exact newest_ft x y w hx hy hX hY
  · exact newest_tf x y w hx hy hX hY
  · by_cases hL : wN x < wN y
    · exact newest_ttl x y w hx hy hX hY hL
    · exact newest_ttg x y w hx hy hX hY hL
end Go.Proofs.Ythkfgjdbgnbjkaa
