/- The walk of the law FrameParses. -/
import Derived.Test.YthkfgjdbgnbjkaaFrmA
import Derived.Handy
namespace Go.Proofs.Ythkfgjdbgnbjkaa
open Go.RowKit
set_option linter.unusedSimpArgs false
set_option linter.unusedVariables false

set_option maxHeartbeats 1600000 in
theorem parses_walk (s : ByteArray) (ws : s.size ≤ maxLen) (w : World) :
    Calls Try.prog 9 #[.string s] w fun e w' => e = .returned (.bool true) ∧ Below w.heap.size w w' := by
  by_cases h : 40000 < s.size
  · have hd : decide (40000 < (s.size : Int)) = true := by simp; omega
    go_enter Try.func9, Try.ntmps9
    go_wp2_with fail
    refine (awake05 _).mono ?_
    rintro e w1 ⟨rfl, hb1⟩
    go_wp2_with fail
    go_ret
    exact ⟨rfl, hb1⟩
  · have hd : decide (40000 < (s.size : Int)) = false := by simp; omega
    have hus := sealB_size s
    have hp := fun W => parse_any s W (by omega)
    have hq := fun W => rparse_any s W (by omega)
    have hpu := fun W => parse_any (sealB s) W (by omega)
    have hqu := fun W => rparse_any (sealB s) W (by omega)
    generalize hr : parseF s = r at hp hq
    generalize hr' : parseF (sealB s) = r' at hpu hqu
    obtain ⟨rk, rf, rt, rb, re⟩ := r
    obtain ⟨uk, uf, ut, ub, ue⟩ := r'
    unfold FR.vals at hp hpu
    unfold FR.five at hq hqu
    generalize hu : sealB s = u at *
    have HU := Lib.hid hu
    have HP := Lib.hid hp
    have HQ := Lib.hid hq
    have HPU := Lib.hid hpu
    have HQU := Lib.hid hqu
    clear hu hp hq hpu hqu hr hr'
    go_enter Try.func9, Try.ntmps9
    go_wp2_with fail
    refine (awake05 _).mono ?_
    rintro e w1 ⟨rfl, hb1⟩
    go_wp2_with fail
    refine (rseal_any _ _ (by omega)).mono ?_
    rw [HU.out]
    rintro e w2 ⟨rfl, hb2⟩
    go_wp2_with fail
    refine wp_loop_rounds 3 ?_
    rw [rounds_succ]
    go_wp2_with fail
    refine (HP.out _).mono ?_
    rintro e w3 ⟨rfl, hb3⟩
    have c0 : w3.cell? ⟨w2.heap.size, 0, none⟩ = some (.string s) := cell_keep (by simp) hb3
    have c1 : w3.cell? ⟨w2.heap.size, 1, none⟩ = some (.string u) := cell_keep (by simp) hb3
    have hbl3 := below_step (below_alloc (below_step hb1 hb2) _) hb3
    generalize w2.heap.size = K at *
    clear hb1 hb2 hb3 w1
    clear w2
    have k0 := World.block_lt_of_cell? w3 _ c0
    go_wp2_with fail
    refine (HQ.out _).mono ?_
    rintro e w4 ⟨rfl, hb4⟩
    have d0 : w4.cell? ⟨K, 0, none⟩ = some (.string s) := cell_keep (by simpa [World.cell?_alloc_past _ _ _ k0] using c0) hb4
    have d1 : w4.cell? ⟨K, 1, none⟩ = some (.string u) := cell_keep (by simpa [World.cell?_alloc_past _ _ _ k0] using c1) hb4
    have f0 : w4.cell? ⟨w3.heap.size, 0, none⟩ = some (.int .i64 rk) := cell_keep (by simp) hb4
    have f1 : w4.cell? ⟨w3.heap.size, 1, none⟩ = some (.int .i64 rf) := cell_keep (by simp) hb4
    have f2 : w4.cell? ⟨w3.heap.size, 2, none⟩ = some (.int .i64 rt) := cell_keep (by simp) hb4
    have f3 : w4.cell? ⟨w3.heap.size, 3, none⟩ = some (.string rb) := cell_keep (by simp) hb4
    have hbl4 := below_step (below_alloc hbl3 _) hb4
    clear hb4 hbl3 c0 c1 k0
    generalize w3.heap.size = K1 at *
    clear w3
    go_wp2_with fail
    clear f0 f1 f2 f3
    rw [rounds_succ]
    go_wp2_with fail
    refine (HPU.out _).mono ?_
    rintro e w5 ⟨rfl, hb5⟩
    have c0 := cell_keep d0 hb5
    have c1 := cell_keep d1 hb5
    have hbl3 := below_step hbl4 hb5
    clear d0 d1 hb5 hbl4 w4
    have k0 := World.block_lt_of_cell? w5 _ c0
    go_wp2_with fail
    refine (HQU.out _).mono ?_
    rintro e w6 ⟨rfl, hb4⟩
    have d0 : w6.cell? ⟨K, 0, none⟩ = some (.string s) := cell_keep (by simpa [World.cell?_alloc_past _ _ _ k0] using c0) hb4
    have d1 : w6.cell? ⟨K, 1, none⟩ = some (.string u) := cell_keep (by simpa [World.cell?_alloc_past _ _ _ k0] using c1) hb4
    have f0 : w6.cell? ⟨w5.heap.size, 0, none⟩ = some (.int .i64 uk) := cell_keep (by simp) hb4
    have f1 : w6.cell? ⟨w5.heap.size, 1, none⟩ = some (.int .i64 uf) := cell_keep (by simp) hb4
    have f2 : w6.cell? ⟨w5.heap.size, 2, none⟩ = some (.int .i64 ut) := cell_keep (by simp) hb4
    have f3 : w6.cell? ⟨w5.heap.size, 3, none⟩ = some (.string ub) := cell_keep (by simp) hb4
    have hbl4 := below_step (below_alloc hbl3 _) hb4
    clear hb4 hbl3 c0 c1 k0
    generalize w5.heap.size = K1 at *
    clear w5
    go_wp2_with fail
    clear f0 f1 f2 f3
    rw [rounds_succ]
    go_wp2_with fail
    go_ret
    exact ⟨rfl, hbl4⟩
end Go.Proofs.Ythkfgjdbgnbjkaa
