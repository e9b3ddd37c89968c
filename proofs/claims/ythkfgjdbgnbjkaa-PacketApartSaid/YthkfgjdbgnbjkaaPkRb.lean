/- The walk of the reference's Clean. (Printed by pkrefclean.py.) -/
import Derived.Test.YthkfgjdbgnbjkaaPkHas
import Derived.Test.YthkfgjdbgnbjkaaPkS
namespace Go.Proofs.Ythkfgjdbgnbjkaa
open Go.RowKit
set_option linter.unusedSimpArgs false
set_option linter.unusedVariables false

set_option maxHeartbeats 3200000 in
set_option maxRecDepth 8000 in
theorem rclean7 (p : Pk) (Am : Option Addr) (cm : Nat) (Ag : Option Addr) (cg : Nat) (Ax : Option Addr) (cx : Nat) (w : World) (hk : p.kind = 7) :
    Calls Try.prog 50 #[pkV p Am cm Ag cg Ax cx] w fun e w' => e = .returned (pkV (cleanF p) none 0 none 0 Ax cx) ∧ Below w.heap.size w w' := by
  obtain ⟨kind, src, dst, ⟨ce, cr⟩, ⟨mf, ms, mt, mv, md, my⟩, stamp, sent, got, horizon, whom, seq, members, ⟨pe, pr⟩, epoch, x⟩ := p
  dsimp only at *
  obtain rfl : kind = 7 := hk
  have hq : cleanF (⟨7, src, dst, ⟨ce, cr⟩, ⟨mf, ms, mt, mv, md, my⟩, stamp, sent, got, horizon, whom, seq, members, ⟨pe, pr⟩, epoch, x⟩ : Pk) = (⟨7, src, dst, ⟨ce, cr⟩, Ms.zero, 0, 0, [], 0, 0, 0, members, Cf.zero, 0, x⟩ : Pk) := by unfold cleanF; simp
  rw [hq]
  clear hq
  obtain ⟨c, hc⟩ : ∃ c : Array Value, c = #[.int .i64 7, .int .i64 src, .int .i64 dst, .int .u64 (ce : Int), .int .i64 cr, .int .i64 mf, .int .u32 (ms : Int), .int .u64 (mt : Int), .int .i64 mv, .slice Am md.length cm, .string my, .int .u64 (stamp : Int), .int .u32 (sent : Int), .slice Ag got.length cg, .int .u64 (horizon : Int), .int .i64 whom, .int .u32 (seq : Int), .int .u64 (members : Int), .int .u64 (pe : Int), .int .i64 pr, .int .u64 (epoch : Int), .slice Ax x.length cx] := ⟨_, rfl⟩
  rw [show pkV (⟨7, src, dst, ⟨ce, cr⟩, ⟨mf, ms, mt, mv, md, my⟩, stamp, sent, got, horizon, whom, seq, members, ⟨pe, pr⟩, epoch, x⟩ : Pk) Am cm Ag cg Ax cx = .agg c from by rw [hc]; rfl]
  have A2 : Hid ((((w.alloc (.cells c 73)).alloc (.cells #[.int .i64 0, .int .i64 0, .int .i64 0, .int .u64 0, .int .i64 0, .int .i64 0, .int .u32 0, .int .u64 0, .int .i64 0, .slice none 0 0, .string ⟨#[]⟩, .int .u64 0, .int .u32 0, .slice none 0 0, .int .u64 0, .int .i64 0, .int .u32 0, .int .u64 0, .int .u64 0, .int .i64 0, .int .u64 0, .slice none 0 0] 73)).alloc (.cells #[.int .i64 0, .int .i64 0, .int .i64 0, .int .u64 0, .int .i64 0, .int .i64 0, .int .u32 0, .int .u64 0, .int .i64 0, .slice none 0 0, .string ⟨#[]⟩, .int .u64 0, .int .u32 0, .slice none 0 0, .int .u64 0, .int .i64 0, .int .u32 0, .int .u64 0, .int .u64 0, .int .i64 0, .int .u64 0, .slice none 0 0] 73)).heap[w.heap.size + 1 + 1]? = some (.cells #[.int .i64 0, .int .i64 0, .int .i64 0, .int .u64 0, .int .i64 0, .int .i64 0, .int .u32 0, .int .u64 0, .int .i64 0, .slice none 0 0, .string ⟨#[]⟩, .int .u64 0, .int .u32 0, .slice none 0 0, .int .u64 0, .int .i64 0, .int .u32 0, .int .u64 0, .int .u64 0, .int .i64 0, .int .u64 0, .slice none 0 0] 73 (0, 0))) := by
    show (((w.alloc (.cells c 73)).alloc (.cells #[.int .i64 0, .int .i64 0, .int .i64 0, .int .u64 0, .int .i64 0, .int .i64 0, .int .u32 0, .int .u64 0, .int .i64 0, .slice none 0 0, .string ⟨#[]⟩, .int .u64 0, .int .u32 0, .slice none 0 0, .int .u64 0, .int .i64 0, .int .u32 0, .int .u64 0, .int .u64 0, .int .i64 0, .int .u64 0, .slice none 0 0] 73)).alloc (.cells #[.int .i64 0, .int .i64 0, .int .i64 0, .int .u64 0, .int .i64 0, .int .i64 0, .int .u32 0, .int .u64 0, .int .i64 0, .slice none 0 0, .string ⟨#[]⟩, .int .u64 0, .int .u32 0, .slice none 0 0, .int .u64 0, .int .i64 0, .int .u32 0, .int .u64 0, .int .u64 0, .int .i64 0, .int .u64 0, .slice none 0 0] 73)).heap[w.heap.size + 1 + 1]? = _
    rw [show w.heap.size + 1 + 1 = ((w.alloc (.cells c 73)).alloc (.cells #[.int .i64 0, .int .i64 0, .int .i64 0, .int .u64 0, .int .i64 0, .int .i64 0, .int .u32 0, .int .u64 0, .int .i64 0, .slice none 0 0, .string ⟨#[]⟩, .int .u64 0, .int .u32 0, .slice none 0 0, .int .u64 0, .int .i64 0, .int .u32 0, .int .u64 0, .int .u64 0, .int .i64 0, .int .u64 0, .slice none 0 0] 73)).heap.size by simp]
    exact heap_alloc_new _ _
  obtain ⟨w2, hw2⟩ : ∃ w2, w2 = ((((w.alloc (.cells c 73)).alloc (.cells #[.int .i64 0, .int .i64 0, .int .i64 0, .int .u64 0, .int .i64 0, .int .i64 0, .int .u32 0, .int .u64 0, .int .i64 0, .slice none 0 0, .string ⟨#[]⟩, .int .u64 0, .int .u32 0, .slice none 0 0, .int .u64 0, .int .i64 0, .int .u32 0, .int .u64 0, .int .u64 0, .int .i64 0, .int .u64 0, .slice none 0 0] 73)).alloc (.cells #[.int .i64 0, .int .i64 0, .int .i64 0, .int .u64 0, .int .i64 0, .int .i64 0, .int .u32 0, .int .u64 0, .int .i64 0, .slice none 0 0, .string ⟨#[]⟩, .int .u64 0, .int .u32 0, .slice none 0 0, .int .u64 0, .int .i64 0, .int .u32 0, .int .u64 0, .int .u64 0, .int .i64 0, .int .u64 0, .slice none 0 0] 73)).setRow (w.heap.size + 1 + 1) #[.int .i64 7, .int .i64 src, .int .i64 dst, .int .u64 0, .int .i64 0, .int .i64 0, .int .u32 0, .int .u64 0, .int .i64 0, .slice none 0 0, .string ⟨#[]⟩, .int .u64 0, .int .u32 0, .slice none 0 0, .int .u64 0, .int .i64 0, .int .u32 0, .int .u64 0, .int .u64 0, .int .i64 0, .int .u64 0, .slice none 0 0]) := ⟨_, rfl⟩
  have HB2 : Hid (Below w.heap.size w w2) := Lib.hid (by rw [hw2]; exact below_setRow (below_alloc (below_alloc (below_alloc (Below.refl _ _) _) _) _) (by omega) _)
  have H02 : Hid (w2.heap[w.heap.size]? = some (.cells c 73 (0, 0))) := Lib.hid (by rw [hw2]; exact (setRow_other _ _ _ _ (by omega)).trans ((Below.heap_alloc _ _ _ (by simp; omega)).trans ((Below.heap_alloc _ _ _ (by simp)).trans (heap_alloc_new w _))))
  have H12 : Hid (w2.heap[w.heap.size + 1]? = some (.cells zpk 73 (0, 0))) := Lib.hid (by rw [hw2]; exact (setRow_other _ _ _ _ (by omega)).trans ((Below.heap_alloc _ _ _ (by simp)).trans (by rw [show w.heap.size + 1 = (w.alloc (.cells c 73)).heap.size by simp]; exact heap_alloc_new _ _)))
  have H22 : Hid (w2.heap[w.heap.size + 1 + 1]? = some (.cells #[.int .i64 7, .int .i64 src, .int .i64 dst, .int .u64 0, .int .i64 0, .int .i64 0, .int .u32 0, .int .u64 0, .int .i64 0, .slice none 0 0, .string ⟨#[]⟩, .int .u64 0, .int .u32 0, .slice none 0 0, .int .u64 0, .int .i64 0, .int .u32 0, .int .u64 0, .int .u64 0, .int .i64 0, .int .u64 0, .slice none 0 0] 73 (0, 0))) := Lib.hid (by rw [hw2]; exact setRow_heap _ _ #[.int .i64 0, .int .i64 0, .int .i64 0, .int .u64 0, .int .i64 0, .int .i64 0, .int .u32 0, .int .u64 0, .int .i64 0, .slice none 0 0, .string ⟨#[]⟩, .int .u64 0, .int .u32 0, .slice none 0 0, .int .u64 0, .int .i64 0, .int .u32 0, .int .u64 0, .int .u64 0, .int .i64 0, .int .u64 0, .slice none 0 0] _ 73 (0, 0) A2.out)
  have i0 : ((w.alloc (.cells c 73)).alloc (.cells #[.int .i64 0, .int .i64 0, .int .i64 0, .int .u64 0, .int .i64 0, .int .i64 0, .int .u32 0, .int .u64 0, .int .i64 0, .slice none 0 0, .string ⟨#[]⟩, .int .u64 0, .int .u32 0, .slice none 0 0, .int .u64 0, .int .i64 0, .int .u32 0, .int .u64 0, .int .u64 0, .int .i64 0, .int .u64 0, .slice none 0 0] 73)).cell? ⟨w.heap.size, 0, none⟩ = some (.int .i64 7) := (cell_of_row _ _ 0 _ _ _ ((Below.heap_alloc _ _ _ (by simp)).trans (heap_alloc_new w _))).trans (by rw [hc]; rfl)
  have i1 : ((w.alloc (.cells c 73)).alloc (.cells #[.int .i64 0, .int .i64 0, .int .i64 0, .int .u64 0, .int .i64 0, .int .i64 0, .int .u32 0, .int .u64 0, .int .i64 0, .slice none 0 0, .string ⟨#[]⟩, .int .u64 0, .int .u32 0, .slice none 0 0, .int .u64 0, .int .i64 0, .int .u32 0, .int .u64 0, .int .u64 0, .int .i64 0, .int .u64 0, .slice none 0 0] 73)).cell? ⟨w.heap.size, 1, none⟩ = some (.int .i64 src) := (cell_of_row _ _ 1 _ _ _ ((Below.heap_alloc _ _ _ (by simp)).trans (heap_alloc_new w _))).trans (by rw [hc]; rfl)
  have i2 : ((w.alloc (.cells c 73)).alloc (.cells #[.int .i64 0, .int .i64 0, .int .i64 0, .int .u64 0, .int .i64 0, .int .i64 0, .int .u32 0, .int .u64 0, .int .i64 0, .slice none 0 0, .string ⟨#[]⟩, .int .u64 0, .int .u32 0, .slice none 0 0, .int .u64 0, .int .i64 0, .int .u32 0, .int .u64 0, .int .u64 0, .int .i64 0, .int .u64 0, .slice none 0 0] 73)).cell? ⟨w.heap.size, 2, none⟩ = some (.int .i64 dst) := (cell_of_row _ _ 2 _ _ _ ((Below.heap_alloc _ _ _ (by simp)).trans (heap_alloc_new w _))).trans (by rw [hc]; rfl)
  have HW2 := Lib.hid hw2
  have HC := Lib.hid hc
  clear hw2 hc
  have a0 : w2.cell? ⟨w.heap.size, 0, none⟩ = some (.int .i64 7) := (cell_of_row _ _ 0 _ _ _ H02.out).trans (by rw [HC.out]; rfl)
  go_enter Try.func50, Try.ntmps50
  go_wp2_with (refine wpList_store_row rfl 73 (.tmp 3) (.tmp 11) rfl (w.heap.size + 1 + 1) #[.int .i64 7, .int .i64 src, .int .i64 dst, .int .u64 0, .int .i64 0, .int .i64 0, .int .u32 0, .int .u64 0, .int .i64 0, .slice none 0 0, .string ⟨#[]⟩, .int .u64 0, .int .u32 0, .slice none 0 0, .int .u64 0, .int .i64 0, .int .u32 0, .int .u64 0, .int .u64 0, .int .i64 0, .int .u64 0, .slice none 0 0] (by simp [Act.eval, Act.put]) (by simp [Act.eval, Act.put]) 73 #[.int .i64 0, .int .i64 0, .int .i64 0, .int .u64 0, .int .i64 0, .int .i64 0, .int .u32 0, .int .u64 0, .int .i64 0, .slice none 0 0, .string ⟨#[]⟩, .int .u64 0, .int .u32 0, .slice none 0 0, .int .u64 0, .int .i64 0, .int .u32 0, .int .u64 0, .int .u64 0, .int .i64 0, .int .u64 0, .slice none 0 0] A2.out info73 rfl (by kernel_rfl) ?_; rw [← HW2.out]; clear i0 i1 i2 A2 HW2)
  clear a0
  refine (row7 w2).mono ?_
  rintro e w9 ⟨rfl, rfl⟩
  have l0x3 : w2.cell? ⟨w.heap.size, 3, none⟩ = some (.int .u64 (ce : Int)) := (cell_of_row _ _ 3 _ _ _ H02.out).trans (by rw [HC.out]; rfl)
  have l0x4 : w2.cell? ⟨w.heap.size, 4, none⟩ = some (.int .i64 cr) := (cell_of_row _ _ 4 _ _ _ H02.out).trans (by rw [HC.out]; rfl)
  have k0x3 : w2.cell? ⟨w.heap.size + 1 + 1, 3, none⟩ = some (.int .u64 0) := cell_of_row _ _ 3 _ _ _ H22.out
  have f0x3 : w2.frozen? ⟨w.heap.size + 1 + 1, 3, none⟩ = false := by simp only [World.frozen?, H22.out]; rfl
  have k0x4 : w2.cell? ⟨w.heap.size + 1 + 1, 4, none⟩ = some (.int .i64 0) := cell_of_row _ _ 4 _ _ _ H22.out
  have f0x4 : w2.frozen? ⟨w.heap.size + 1 + 1, 4, none⟩ = false := by simp only [World.frozen?, H22.out]; rfl
  have H03 : Hid (((w2.setCell ⟨w.heap.size + 1 + 1, 3, none⟩ (.int .u64 (ce : Int))).setCell ⟨w.heap.size + 1 + 1, 4, none⟩ (.int .i64 cr)).heap[w.heap.size]? = some (.cells c 73 (0, 0))) := ((Below.heap_setCell _ ⟨w.heap.size + 1 + 1, 4, none⟩ (.int .i64 cr) (w.heap.size) (by simp; omega)).trans ((Below.heap_setCell _ ⟨w.heap.size + 1 + 1, 3, none⟩ (.int .u64 (ce : Int)) (w.heap.size) (by simp; omega)).trans H02.out))
  have H13 : Hid (((w2.setCell ⟨w.heap.size + 1 + 1, 3, none⟩ (.int .u64 (ce : Int))).setCell ⟨w.heap.size + 1 + 1, 4, none⟩ (.int .i64 cr)).heap[w.heap.size + 1]? = some (.cells zpk 73 (0, 0))) := ((Below.heap_setCell _ ⟨w.heap.size + 1 + 1, 4, none⟩ (.int .i64 cr) (w.heap.size + 1) (by simp)).trans ((Below.heap_setCell _ ⟨w.heap.size + 1 + 1, 3, none⟩ (.int .u64 (ce : Int)) (w.heap.size + 1) (by simp)).trans H12.out))
  have H23 : Hid (((w2.setCell ⟨w.heap.size + 1 + 1, 3, none⟩ (.int .u64 (ce : Int))).setCell ⟨w.heap.size + 1 + 1, 4, none⟩ (.int .i64 cr)).heap[w.heap.size + 1 + 1]? = some (.cells #[.int .i64 7, .int .i64 src, .int .i64 dst, .int .u64 (ce : Int), .int .i64 cr, .int .i64 0, .int .u32 0, .int .u64 0, .int .i64 0, .slice none 0 0, .string ⟨#[]⟩, .int .u64 0, .int .u32 0, .slice none 0 0, .int .u64 0, .int .i64 0, .int .u32 0, .int .u64 0, .int .u64 0, .int .i64 0, .int .u64 0, .slice none 0 0] 73 (0, 0))) := (blk_setj (blk_setj H22.out 3 (.int .u64 (ce : Int))) 4 (.int .i64 cr))
  have HB3 := Lib.hid ((HB2.out.setCell (p := ⟨w.heap.size + 1 + 1, 3, none⟩) (by simp; omega) (.int .u64 (ce : Int))).setCell (p := ⟨w.heap.size + 1 + 1, 4, none⟩) (by simp; omega) (.int .i64 cr))
  go_wp2_with fail
  clear l0x3 l0x4 k0x3 f0x3 k0x4 f0x4
  clear H02 H12 H22 HB2
  generalize ((w2.setCell ⟨w.heap.size + 1 + 1, 3, none⟩ (.int .u64 (ce : Int))).setCell ⟨w.heap.size + 1 + 1, 4, none⟩ (.int .i64 cr)) = w3 at *
  refine (has_is ⟨#[99, 98, 108]⟩ 109 false (by decide) (by decide) w3).mono ?_
  rintro e w9 ⟨rfl, rfl⟩
  go_wp2_with fail
  refine (has_is ⟨#[99, 98, 108]⟩ 115 false (by decide) (by decide) w3).mono ?_
  rintro e w9 ⟨rfl, rfl⟩
  go_wp2_with fail
  refine (has_is ⟨#[99, 98, 108]⟩ 119 false (by decide) (by decide) w3).mono ?_
  rintro e w9 ⟨rfl, rfl⟩
  go_wp2_with fail
  refine (has_is ⟨#[99, 98, 108]⟩ 113 false (by decide) (by decide) w3).mono ?_
  rintro e w9 ⟨rfl, rfl⟩
  go_wp2_with fail
  refine (has_is ⟨#[99, 98, 108]⟩ 112 false (by decide) (by decide) w3).mono ?_
  rintro e w9 ⟨rfl, rfl⟩
  go_wp2_with fail
  refine (has_is ⟨#[99, 98, 108]⟩ 98 true (by decide) (by decide) w3).mono ?_
  rintro e w9 ⟨rfl, rfl⟩
  have l0x17 : w3.cell? ⟨w.heap.size, 17, none⟩ = some (.int .u64 (members : Int)) := (cell_of_row _ _ 17 _ _ _ H03.out).trans (by rw [HC.out]; rfl)
  have k0x17 : w3.cell? ⟨w.heap.size + 1 + 1, 17, none⟩ = some (.int .u64 0) := cell_of_row _ _ 17 _ _ _ H23.out
  have f0x17 : w3.frozen? ⟨w.heap.size + 1 + 1, 17, none⟩ = false := by simp only [World.frozen?, H23.out]; rfl
  have H04 : Hid ((w3.setCell ⟨w.heap.size + 1 + 1, 17, none⟩ (.int .u64 (members : Int))).heap[w.heap.size]? = some (.cells c 73 (0, 0))) := ((Below.heap_setCell _ ⟨w.heap.size + 1 + 1, 17, none⟩ (.int .u64 (members : Int)) (w.heap.size) (by simp; omega)).trans H03.out)
  have H14 : Hid ((w3.setCell ⟨w.heap.size + 1 + 1, 17, none⟩ (.int .u64 (members : Int))).heap[w.heap.size + 1]? = some (.cells zpk 73 (0, 0))) := ((Below.heap_setCell _ ⟨w.heap.size + 1 + 1, 17, none⟩ (.int .u64 (members : Int)) (w.heap.size + 1) (by simp)).trans H13.out)
  have H24 : Hid ((w3.setCell ⟨w.heap.size + 1 + 1, 17, none⟩ (.int .u64 (members : Int))).heap[w.heap.size + 1 + 1]? = some (.cells #[.int .i64 7, .int .i64 src, .int .i64 dst, .int .u64 (ce : Int), .int .i64 cr, .int .i64 0, .int .u32 0, .int .u64 0, .int .i64 0, .slice none 0 0, .string ⟨#[]⟩, .int .u64 0, .int .u32 0, .slice none 0 0, .int .u64 0, .int .i64 0, .int .u32 0, .int .u64 (members : Int), .int .u64 0, .int .i64 0, .int .u64 0, .slice none 0 0] 73 (0, 0))) := (blk_setj H23.out 17 (.int .u64 (members : Int)))
  have HB4 := Lib.hid (HB3.out.setCell (p := ⟨w.heap.size + 1 + 1, 17, none⟩) (by simp; omega) (.int .u64 (members : Int)))
  go_wp2_with fail
  clear l0x17 k0x17 f0x17
  clear H03 H13 H23 HB3
  generalize (w3.setCell ⟨w.heap.size + 1 + 1, 17, none⟩ (.int .u64 (members : Int))) = w4 at *
  refine (has_is ⟨#[99, 98, 108]⟩ 120 false (by decide) (by decide) w4).mono ?_
  rintro e w9 ⟨rfl, rfl⟩
  go_wp2_with fail
  refine (has_is ⟨#[99, 98, 108]⟩ 108 true (by decide) (by decide) w4).mono ?_
  rintro e w9 ⟨rfl, rfl⟩
  have l0x21 : w4.cell? ⟨w.heap.size, 21, none⟩ = some (.slice Ax x.length cx) := (cell_of_row _ _ 21 _ _ _ H04.out).trans (by rw [HC.out]; rfl)
  have k0x21 : w4.cell? ⟨w.heap.size + 1 + 1, 21, none⟩ = some (.slice none 0 0) := cell_of_row _ _ 21 _ _ _ H24.out
  have f0x21 : w4.frozen? ⟨w.heap.size + 1 + 1, 21, none⟩ = false := by simp only [World.frozen?, H24.out]; rfl
  have H05 : Hid ((w4.setCell ⟨w.heap.size + 1 + 1, 21, none⟩ (.slice Ax x.length cx)).heap[w.heap.size]? = some (.cells c 73 (0, 0))) := ((Below.heap_setCell _ ⟨w.heap.size + 1 + 1, 21, none⟩ (.slice Ax x.length cx) (w.heap.size) (by simp; omega)).trans H04.out)
  have H15 : Hid ((w4.setCell ⟨w.heap.size + 1 + 1, 21, none⟩ (.slice Ax x.length cx)).heap[w.heap.size + 1]? = some (.cells zpk 73 (0, 0))) := ((Below.heap_setCell _ ⟨w.heap.size + 1 + 1, 21, none⟩ (.slice Ax x.length cx) (w.heap.size + 1) (by simp)).trans H14.out)
  have H25 : Hid ((w4.setCell ⟨w.heap.size + 1 + 1, 21, none⟩ (.slice Ax x.length cx)).heap[w.heap.size + 1 + 1]? = some (.cells #[.int .i64 7, .int .i64 src, .int .i64 dst, .int .u64 (ce : Int), .int .i64 cr, .int .i64 0, .int .u32 0, .int .u64 0, .int .i64 0, .slice none 0 0, .string ⟨#[]⟩, .int .u64 0, .int .u32 0, .slice none 0 0, .int .u64 0, .int .i64 0, .int .u32 0, .int .u64 (members : Int), .int .u64 0, .int .i64 0, .int .u64 0, .slice Ax x.length cx] 73 (0, 0))) := (blk_setj H24.out 21 (.slice Ax x.length cx))
  have HB5 := Lib.hid (HB4.out.setCell (p := ⟨w.heap.size + 1 + 1, 21, none⟩) (by simp; omega) (.slice Ax x.length cx))
  go_wp2_with (first | (refine wpList_load_row rfl 73 (.tmp 3) rfl (w.heap.size + 1 + 1) (by simp [Act.eval, Act.put]) 73 _ (0, 0) _ H25.out Try.underlying73 rfl info73 ?_) | (refine wpList_store_row rfl 73 (.tmp 2) (.tmp 88) rfl (w.heap.size + 1) #[.int .i64 7, .int .i64 src, .int .i64 dst, .int .u64 (ce : Int), .int .i64 cr, .int .i64 0, .int .u32 0, .int .u64 0, .int .i64 0, .slice none 0 0, .string ⟨#[]⟩, .int .u64 0, .int .u32 0, .slice none 0 0, .int .u64 0, .int .i64 0, .int .u32 0, .int .u64 (members : Int), .int .u64 0, .int .i64 0, .int .u64 0, .slice Ax x.length cx] (by simp [Act.eval, Act.put]) (by simp [Act.eval, Act.put]) 73 zpk H15.out info73 rfl (by kernel_rfl) ?_))
  clear l0x21 k0x21 f0x21
  clear H04 H14 H24 HB4
  generalize (w4.setCell ⟨w.heap.size + 1 + 1, 21, none⟩ (.slice Ax x.length cx)) = w5 at *
  have hr := setRow_heap w5 (w.heap.size + 1) zpk #[.int .i64 7, .int .i64 src, .int .i64 dst, .int .u64 (ce : Int), .int .i64 cr, .int .i64 0, .int .u32 0, .int .u64 0, .int .i64 0, .slice none 0 0, .string ⟨#[]⟩, .int .u64 0, .int .u32 0, .slice none 0 0, .int .u64 0, .int .i64 0, .int .u32 0, .int .u64 (members : Int), .int .u64 0, .int .i64 0, .int .u64 0, .slice Ax x.length cx] 73 (0, 0) H15.out
  refine bodyPost_ret (results_cell_row Try.results50 _ _ _ _ _ _ _ rfl hr Try.underlying73 rfl info73) rfl ?_
  exact ⟨rfl, below_setRow HB5.out (by omega) _⟩
set_option maxHeartbeats 3200000 in
set_option maxRecDepth 8000 in
theorem rclean8 (p : Pk) (Am : Option Addr) (cm : Nat) (Ag : Option Addr) (cg : Nat) (Ax : Option Addr) (cx : Nat) (w : World) (hk : p.kind = 8) :
    Calls Try.prog 50 #[pkV p Am cm Ag cg Ax cx] w fun e w' => e = .returned (pkV (cleanF p) none 0 none 0 none 0) ∧ Below w.heap.size w w' := by
  obtain ⟨kind, src, dst, ⟨ce, cr⟩, ⟨mf, ms, mt, mv, md, my⟩, stamp, sent, got, horizon, whom, seq, members, ⟨pe, pr⟩, epoch, x⟩ := p
  dsimp only at *
  obtain rfl : kind = 8 := hk
  have hq : cleanF (⟨8, src, dst, ⟨ce, cr⟩, ⟨mf, ms, mt, mv, md, my⟩, stamp, sent, got, horizon, whom, seq, members, ⟨pe, pr⟩, epoch, x⟩ : Pk) = (⟨8, src, dst, ⟨ce, cr⟩, Ms.zero, 0, 0, [], 0, whom, seq, 0, Cf.zero, 0, []⟩ : Pk) := by unfold cleanF; simp
  rw [hq]
  clear hq
  obtain ⟨c, hc⟩ : ∃ c : Array Value, c = #[.int .i64 8, .int .i64 src, .int .i64 dst, .int .u64 (ce : Int), .int .i64 cr, .int .i64 mf, .int .u32 (ms : Int), .int .u64 (mt : Int), .int .i64 mv, .slice Am md.length cm, .string my, .int .u64 (stamp : Int), .int .u32 (sent : Int), .slice Ag got.length cg, .int .u64 (horizon : Int), .int .i64 whom, .int .u32 (seq : Int), .int .u64 (members : Int), .int .u64 (pe : Int), .int .i64 pr, .int .u64 (epoch : Int), .slice Ax x.length cx] := ⟨_, rfl⟩
  rw [show pkV (⟨8, src, dst, ⟨ce, cr⟩, ⟨mf, ms, mt, mv, md, my⟩, stamp, sent, got, horizon, whom, seq, members, ⟨pe, pr⟩, epoch, x⟩ : Pk) Am cm Ag cg Ax cx = .agg c from by rw [hc]; rfl]
  have A2 : Hid ((((w.alloc (.cells c 73)).alloc (.cells #[.int .i64 0, .int .i64 0, .int .i64 0, .int .u64 0, .int .i64 0, .int .i64 0, .int .u32 0, .int .u64 0, .int .i64 0, .slice none 0 0, .string ⟨#[]⟩, .int .u64 0, .int .u32 0, .slice none 0 0, .int .u64 0, .int .i64 0, .int .u32 0, .int .u64 0, .int .u64 0, .int .i64 0, .int .u64 0, .slice none 0 0] 73)).alloc (.cells #[.int .i64 0, .int .i64 0, .int .i64 0, .int .u64 0, .int .i64 0, .int .i64 0, .int .u32 0, .int .u64 0, .int .i64 0, .slice none 0 0, .string ⟨#[]⟩, .int .u64 0, .int .u32 0, .slice none 0 0, .int .u64 0, .int .i64 0, .int .u32 0, .int .u64 0, .int .u64 0, .int .i64 0, .int .u64 0, .slice none 0 0] 73)).heap[w.heap.size + 1 + 1]? = some (.cells #[.int .i64 0, .int .i64 0, .int .i64 0, .int .u64 0, .int .i64 0, .int .i64 0, .int .u32 0, .int .u64 0, .int .i64 0, .slice none 0 0, .string ⟨#[]⟩, .int .u64 0, .int .u32 0, .slice none 0 0, .int .u64 0, .int .i64 0, .int .u32 0, .int .u64 0, .int .u64 0, .int .i64 0, .int .u64 0, .slice none 0 0] 73 (0, 0))) := by
    show (((w.alloc (.cells c 73)).alloc (.cells #[.int .i64 0, .int .i64 0, .int .i64 0, .int .u64 0, .int .i64 0, .int .i64 0, .int .u32 0, .int .u64 0, .int .i64 0, .slice none 0 0, .string ⟨#[]⟩, .int .u64 0, .int .u32 0, .slice none 0 0, .int .u64 0, .int .i64 0, .int .u32 0, .int .u64 0, .int .u64 0, .int .i64 0, .int .u64 0, .slice none 0 0] 73)).alloc (.cells #[.int .i64 0, .int .i64 0, .int .i64 0, .int .u64 0, .int .i64 0, .int .i64 0, .int .u32 0, .int .u64 0, .int .i64 0, .slice none 0 0, .string ⟨#[]⟩, .int .u64 0, .int .u32 0, .slice none 0 0, .int .u64 0, .int .i64 0, .int .u32 0, .int .u64 0, .int .u64 0, .int .i64 0, .int .u64 0, .slice none 0 0] 73)).heap[w.heap.size + 1 + 1]? = _
    rw [show w.heap.size + 1 + 1 = ((w.alloc (.cells c 73)).alloc (.cells #[.int .i64 0, .int .i64 0, .int .i64 0, .int .u64 0, .int .i64 0, .int .i64 0, .int .u32 0, .int .u64 0, .int .i64 0, .slice none 0 0, .string ⟨#[]⟩, .int .u64 0, .int .u32 0, .slice none 0 0, .int .u64 0, .int .i64 0, .int .u32 0, .int .u64 0, .int .u64 0, .int .i64 0, .int .u64 0, .slice none 0 0] 73)).heap.size by simp]
    exact heap_alloc_new _ _
  obtain ⟨w2, hw2⟩ : ∃ w2, w2 = ((((w.alloc (.cells c 73)).alloc (.cells #[.int .i64 0, .int .i64 0, .int .i64 0, .int .u64 0, .int .i64 0, .int .i64 0, .int .u32 0, .int .u64 0, .int .i64 0, .slice none 0 0, .string ⟨#[]⟩, .int .u64 0, .int .u32 0, .slice none 0 0, .int .u64 0, .int .i64 0, .int .u32 0, .int .u64 0, .int .u64 0, .int .i64 0, .int .u64 0, .slice none 0 0] 73)).alloc (.cells #[.int .i64 0, .int .i64 0, .int .i64 0, .int .u64 0, .int .i64 0, .int .i64 0, .int .u32 0, .int .u64 0, .int .i64 0, .slice none 0 0, .string ⟨#[]⟩, .int .u64 0, .int .u32 0, .slice none 0 0, .int .u64 0, .int .i64 0, .int .u32 0, .int .u64 0, .int .u64 0, .int .i64 0, .int .u64 0, .slice none 0 0] 73)).setRow (w.heap.size + 1 + 1) #[.int .i64 8, .int .i64 src, .int .i64 dst, .int .u64 0, .int .i64 0, .int .i64 0, .int .u32 0, .int .u64 0, .int .i64 0, .slice none 0 0, .string ⟨#[]⟩, .int .u64 0, .int .u32 0, .slice none 0 0, .int .u64 0, .int .i64 0, .int .u32 0, .int .u64 0, .int .u64 0, .int .i64 0, .int .u64 0, .slice none 0 0]) := ⟨_, rfl⟩
  have HB2 : Hid (Below w.heap.size w w2) := Lib.hid (by rw [hw2]; exact below_setRow (below_alloc (below_alloc (below_alloc (Below.refl _ _) _) _) _) (by omega) _)
  have H02 : Hid (w2.heap[w.heap.size]? = some (.cells c 73 (0, 0))) := Lib.hid (by rw [hw2]; exact (setRow_other _ _ _ _ (by omega)).trans ((Below.heap_alloc _ _ _ (by simp; omega)).trans ((Below.heap_alloc _ _ _ (by simp)).trans (heap_alloc_new w _))))
  have H12 : Hid (w2.heap[w.heap.size + 1]? = some (.cells zpk 73 (0, 0))) := Lib.hid (by rw [hw2]; exact (setRow_other _ _ _ _ (by omega)).trans ((Below.heap_alloc _ _ _ (by simp)).trans (by rw [show w.heap.size + 1 = (w.alloc (.cells c 73)).heap.size by simp]; exact heap_alloc_new _ _)))
  have H22 : Hid (w2.heap[w.heap.size + 1 + 1]? = some (.cells #[.int .i64 8, .int .i64 src, .int .i64 dst, .int .u64 0, .int .i64 0, .int .i64 0, .int .u32 0, .int .u64 0, .int .i64 0, .slice none 0 0, .string ⟨#[]⟩, .int .u64 0, .int .u32 0, .slice none 0 0, .int .u64 0, .int .i64 0, .int .u32 0, .int .u64 0, .int .u64 0, .int .i64 0, .int .u64 0, .slice none 0 0] 73 (0, 0))) := Lib.hid (by rw [hw2]; exact setRow_heap _ _ #[.int .i64 0, .int .i64 0, .int .i64 0, .int .u64 0, .int .i64 0, .int .i64 0, .int .u32 0, .int .u64 0, .int .i64 0, .slice none 0 0, .string ⟨#[]⟩, .int .u64 0, .int .u32 0, .slice none 0 0, .int .u64 0, .int .i64 0, .int .u32 0, .int .u64 0, .int .u64 0, .int .i64 0, .int .u64 0, .slice none 0 0] _ 73 (0, 0) A2.out)
  have i0 : ((w.alloc (.cells c 73)).alloc (.cells #[.int .i64 0, .int .i64 0, .int .i64 0, .int .u64 0, .int .i64 0, .int .i64 0, .int .u32 0, .int .u64 0, .int .i64 0, .slice none 0 0, .string ⟨#[]⟩, .int .u64 0, .int .u32 0, .slice none 0 0, .int .u64 0, .int .i64 0, .int .u32 0, .int .u64 0, .int .u64 0, .int .i64 0, .int .u64 0, .slice none 0 0] 73)).cell? ⟨w.heap.size, 0, none⟩ = some (.int .i64 8) := (cell_of_row _ _ 0 _ _ _ ((Below.heap_alloc _ _ _ (by simp)).trans (heap_alloc_new w _))).trans (by rw [hc]; rfl)
  have i1 : ((w.alloc (.cells c 73)).alloc (.cells #[.int .i64 0, .int .i64 0, .int .i64 0, .int .u64 0, .int .i64 0, .int .i64 0, .int .u32 0, .int .u64 0, .int .i64 0, .slice none 0 0, .string ⟨#[]⟩, .int .u64 0, .int .u32 0, .slice none 0 0, .int .u64 0, .int .i64 0, .int .u32 0, .int .u64 0, .int .u64 0, .int .i64 0, .int .u64 0, .slice none 0 0] 73)).cell? ⟨w.heap.size, 1, none⟩ = some (.int .i64 src) := (cell_of_row _ _ 1 _ _ _ ((Below.heap_alloc _ _ _ (by simp)).trans (heap_alloc_new w _))).trans (by rw [hc]; rfl)
  have i2 : ((w.alloc (.cells c 73)).alloc (.cells #[.int .i64 0, .int .i64 0, .int .i64 0, .int .u64 0, .int .i64 0, .int .i64 0, .int .u32 0, .int .u64 0, .int .i64 0, .slice none 0 0, .string ⟨#[]⟩, .int .u64 0, .int .u32 0, .slice none 0 0, .int .u64 0, .int .i64 0, .int .u32 0, .int .u64 0, .int .u64 0, .int .i64 0, .int .u64 0, .slice none 0 0] 73)).cell? ⟨w.heap.size, 2, none⟩ = some (.int .i64 dst) := (cell_of_row _ _ 2 _ _ _ ((Below.heap_alloc _ _ _ (by simp)).trans (heap_alloc_new w _))).trans (by rw [hc]; rfl)
  have HW2 := Lib.hid hw2
  have HC := Lib.hid hc
  clear hw2 hc
  have a0 : w2.cell? ⟨w.heap.size, 0, none⟩ = some (.int .i64 8) := (cell_of_row _ _ 0 _ _ _ H02.out).trans (by rw [HC.out]; rfl)
  go_enter Try.func50, Try.ntmps50
  go_wp2_with (refine wpList_store_row rfl 73 (.tmp 3) (.tmp 11) rfl (w.heap.size + 1 + 1) #[.int .i64 8, .int .i64 src, .int .i64 dst, .int .u64 0, .int .i64 0, .int .i64 0, .int .u32 0, .int .u64 0, .int .i64 0, .slice none 0 0, .string ⟨#[]⟩, .int .u64 0, .int .u32 0, .slice none 0 0, .int .u64 0, .int .i64 0, .int .u32 0, .int .u64 0, .int .u64 0, .int .i64 0, .int .u64 0, .slice none 0 0] (by simp [Act.eval, Act.put]) (by simp [Act.eval, Act.put]) 73 #[.int .i64 0, .int .i64 0, .int .i64 0, .int .u64 0, .int .i64 0, .int .i64 0, .int .u32 0, .int .u64 0, .int .i64 0, .slice none 0 0, .string ⟨#[]⟩, .int .u64 0, .int .u32 0, .slice none 0 0, .int .u64 0, .int .i64 0, .int .u32 0, .int .u64 0, .int .u64 0, .int .i64 0, .int .u64 0, .slice none 0 0] A2.out info73 rfl (by kernel_rfl) ?_; rw [← HW2.out]; clear i0 i1 i2 A2 HW2)
  clear a0
  refine (row8 w2).mono ?_
  rintro e w9 ⟨rfl, rfl⟩
  have l0x3 : w2.cell? ⟨w.heap.size, 3, none⟩ = some (.int .u64 (ce : Int)) := (cell_of_row _ _ 3 _ _ _ H02.out).trans (by rw [HC.out]; rfl)
  have l0x4 : w2.cell? ⟨w.heap.size, 4, none⟩ = some (.int .i64 cr) := (cell_of_row _ _ 4 _ _ _ H02.out).trans (by rw [HC.out]; rfl)
  have k0x3 : w2.cell? ⟨w.heap.size + 1 + 1, 3, none⟩ = some (.int .u64 0) := cell_of_row _ _ 3 _ _ _ H22.out
  have f0x3 : w2.frozen? ⟨w.heap.size + 1 + 1, 3, none⟩ = false := by simp only [World.frozen?, H22.out]; rfl
  have k0x4 : w2.cell? ⟨w.heap.size + 1 + 1, 4, none⟩ = some (.int .i64 0) := cell_of_row _ _ 4 _ _ _ H22.out
  have f0x4 : w2.frozen? ⟨w.heap.size + 1 + 1, 4, none⟩ = false := by simp only [World.frozen?, H22.out]; rfl
  have H03 : Hid (((w2.setCell ⟨w.heap.size + 1 + 1, 3, none⟩ (.int .u64 (ce : Int))).setCell ⟨w.heap.size + 1 + 1, 4, none⟩ (.int .i64 cr)).heap[w.heap.size]? = some (.cells c 73 (0, 0))) := ((Below.heap_setCell _ ⟨w.heap.size + 1 + 1, 4, none⟩ (.int .i64 cr) (w.heap.size) (by simp; omega)).trans ((Below.heap_setCell _ ⟨w.heap.size + 1 + 1, 3, none⟩ (.int .u64 (ce : Int)) (w.heap.size) (by simp; omega)).trans H02.out))
  have H13 : Hid (((w2.setCell ⟨w.heap.size + 1 + 1, 3, none⟩ (.int .u64 (ce : Int))).setCell ⟨w.heap.size + 1 + 1, 4, none⟩ (.int .i64 cr)).heap[w.heap.size + 1]? = some (.cells zpk 73 (0, 0))) := ((Below.heap_setCell _ ⟨w.heap.size + 1 + 1, 4, none⟩ (.int .i64 cr) (w.heap.size + 1) (by simp)).trans ((Below.heap_setCell _ ⟨w.heap.size + 1 + 1, 3, none⟩ (.int .u64 (ce : Int)) (w.heap.size + 1) (by simp)).trans H12.out))
  have H23 : Hid (((w2.setCell ⟨w.heap.size + 1 + 1, 3, none⟩ (.int .u64 (ce : Int))).setCell ⟨w.heap.size + 1 + 1, 4, none⟩ (.int .i64 cr)).heap[w.heap.size + 1 + 1]? = some (.cells #[.int .i64 8, .int .i64 src, .int .i64 dst, .int .u64 (ce : Int), .int .i64 cr, .int .i64 0, .int .u32 0, .int .u64 0, .int .i64 0, .slice none 0 0, .string ⟨#[]⟩, .int .u64 0, .int .u32 0, .slice none 0 0, .int .u64 0, .int .i64 0, .int .u32 0, .int .u64 0, .int .u64 0, .int .i64 0, .int .u64 0, .slice none 0 0] 73 (0, 0))) := (blk_setj (blk_setj H22.out 3 (.int .u64 (ce : Int))) 4 (.int .i64 cr))
  have HB3 := Lib.hid ((HB2.out.setCell (p := ⟨w.heap.size + 1 + 1, 3, none⟩) (by simp; omega) (.int .u64 (ce : Int))).setCell (p := ⟨w.heap.size + 1 + 1, 4, none⟩) (by simp; omega) (.int .i64 cr))
  go_wp2_with fail
  clear l0x3 l0x4 k0x3 f0x3 k0x4 f0x4
  clear H02 H12 H22 HB2
  generalize ((w2.setCell ⟨w.heap.size + 1 + 1, 3, none⟩ (.int .u64 (ce : Int))).setCell ⟨w.heap.size + 1 + 1, 4, none⟩ (.int .i64 cr)) = w3 at *
  refine (has_is ⟨#[99, 119, 113]⟩ 109 false (by decide) (by decide) w3).mono ?_
  rintro e w9 ⟨rfl, rfl⟩
  go_wp2_with fail
  refine (has_is ⟨#[99, 119, 113]⟩ 115 false (by decide) (by decide) w3).mono ?_
  rintro e w9 ⟨rfl, rfl⟩
  go_wp2_with fail
  refine (has_is ⟨#[99, 119, 113]⟩ 119 true (by decide) (by decide) w3).mono ?_
  rintro e w9 ⟨rfl, rfl⟩
  have l0x15 : w3.cell? ⟨w.heap.size, 15, none⟩ = some (.int .i64 whom) := (cell_of_row _ _ 15 _ _ _ H03.out).trans (by rw [HC.out]; rfl)
  have k0x15 : w3.cell? ⟨w.heap.size + 1 + 1, 15, none⟩ = some (.int .i64 0) := cell_of_row _ _ 15 _ _ _ H23.out
  have f0x15 : w3.frozen? ⟨w.heap.size + 1 + 1, 15, none⟩ = false := by simp only [World.frozen?, H23.out]; rfl
  have H04 : Hid ((w3.setCell ⟨w.heap.size + 1 + 1, 15, none⟩ (.int .i64 whom)).heap[w.heap.size]? = some (.cells c 73 (0, 0))) := ((Below.heap_setCell _ ⟨w.heap.size + 1 + 1, 15, none⟩ (.int .i64 whom) (w.heap.size) (by simp; omega)).trans H03.out)
  have H14 : Hid ((w3.setCell ⟨w.heap.size + 1 + 1, 15, none⟩ (.int .i64 whom)).heap[w.heap.size + 1]? = some (.cells zpk 73 (0, 0))) := ((Below.heap_setCell _ ⟨w.heap.size + 1 + 1, 15, none⟩ (.int .i64 whom) (w.heap.size + 1) (by simp)).trans H13.out)
  have H24 : Hid ((w3.setCell ⟨w.heap.size + 1 + 1, 15, none⟩ (.int .i64 whom)).heap[w.heap.size + 1 + 1]? = some (.cells #[.int .i64 8, .int .i64 src, .int .i64 dst, .int .u64 (ce : Int), .int .i64 cr, .int .i64 0, .int .u32 0, .int .u64 0, .int .i64 0, .slice none 0 0, .string ⟨#[]⟩, .int .u64 0, .int .u32 0, .slice none 0 0, .int .u64 0, .int .i64 whom, .int .u32 0, .int .u64 0, .int .u64 0, .int .i64 0, .int .u64 0, .slice none 0 0] 73 (0, 0))) := (blk_setj H23.out 15 (.int .i64 whom))
  have HB4 := Lib.hid (HB3.out.setCell (p := ⟨w.heap.size + 1 + 1, 15, none⟩) (by simp; omega) (.int .i64 whom))
  go_wp2_with fail
  clear l0x15 k0x15 f0x15
  clear H03 H13 H23 HB3
  generalize (w3.setCell ⟨w.heap.size + 1 + 1, 15, none⟩ (.int .i64 whom)) = w4 at *
  refine (has_is ⟨#[99, 119, 113]⟩ 109 false (by decide) (by decide) w4).mono ?_
  rintro e w9 ⟨rfl, rfl⟩
  go_wp2_with fail
  refine (has_is ⟨#[99, 119, 113]⟩ 113 true (by decide) (by decide) w4).mono ?_
  rintro e w9 ⟨rfl, rfl⟩
  have l0x16 : w4.cell? ⟨w.heap.size, 16, none⟩ = some (.int .u32 (seq : Int)) := (cell_of_row _ _ 16 _ _ _ H04.out).trans (by rw [HC.out]; rfl)
  have k0x16 : w4.cell? ⟨w.heap.size + 1 + 1, 16, none⟩ = some (.int .u32 0) := cell_of_row _ _ 16 _ _ _ H24.out
  have f0x16 : w4.frozen? ⟨w.heap.size + 1 + 1, 16, none⟩ = false := by simp only [World.frozen?, H24.out]; rfl
  have H05 : Hid ((w4.setCell ⟨w.heap.size + 1 + 1, 16, none⟩ (.int .u32 (seq : Int))).heap[w.heap.size]? = some (.cells c 73 (0, 0))) := ((Below.heap_setCell _ ⟨w.heap.size + 1 + 1, 16, none⟩ (.int .u32 (seq : Int)) (w.heap.size) (by simp; omega)).trans H04.out)
  have H15 : Hid ((w4.setCell ⟨w.heap.size + 1 + 1, 16, none⟩ (.int .u32 (seq : Int))).heap[w.heap.size + 1]? = some (.cells zpk 73 (0, 0))) := ((Below.heap_setCell _ ⟨w.heap.size + 1 + 1, 16, none⟩ (.int .u32 (seq : Int)) (w.heap.size + 1) (by simp)).trans H14.out)
  have H25 : Hid ((w4.setCell ⟨w.heap.size + 1 + 1, 16, none⟩ (.int .u32 (seq : Int))).heap[w.heap.size + 1 + 1]? = some (.cells #[.int .i64 8, .int .i64 src, .int .i64 dst, .int .u64 (ce : Int), .int .i64 cr, .int .i64 0, .int .u32 0, .int .u64 0, .int .i64 0, .slice none 0 0, .string ⟨#[]⟩, .int .u64 0, .int .u32 0, .slice none 0 0, .int .u64 0, .int .i64 whom, .int .u32 (seq : Int), .int .u64 0, .int .u64 0, .int .i64 0, .int .u64 0, .slice none 0 0] 73 (0, 0))) := (blk_setj H24.out 16 (.int .u32 (seq : Int)))
  have HB5 := Lib.hid (HB4.out.setCell (p := ⟨w.heap.size + 1 + 1, 16, none⟩) (by simp; omega) (.int .u32 (seq : Int)))
  go_wp2_with fail
  clear l0x16 k0x16 f0x16
  clear H04 H14 H24 HB4
  generalize (w4.setCell ⟨w.heap.size + 1 + 1, 16, none⟩ (.int .u32 (seq : Int))) = w5 at *
  refine (has_is ⟨#[99, 119, 113]⟩ 112 false (by decide) (by decide) w5).mono ?_
  rintro e w9 ⟨rfl, rfl⟩
  go_wp2_with fail
  refine (has_is ⟨#[99, 119, 113]⟩ 98 false (by decide) (by decide) w5).mono ?_
  rintro e w9 ⟨rfl, rfl⟩
  go_wp2_with fail
  refine (has_is ⟨#[99, 119, 113]⟩ 120 false (by decide) (by decide) w5).mono ?_
  rintro e w9 ⟨rfl, rfl⟩
  go_wp2_with fail
  refine (has_is ⟨#[99, 119, 113]⟩ 108 false (by decide) (by decide) w5).mono ?_
  rintro e w9 ⟨rfl, rfl⟩
  go_wp2_with (first | (refine wpList_load_row rfl 73 (.tmp 3) rfl (w.heap.size + 1 + 1) (by simp [Act.eval, Act.put]) 73 _ (0, 0) _ H25.out Try.underlying73 rfl info73 ?_) | (refine wpList_store_row rfl 73 (.tmp 2) (.tmp 88) rfl (w.heap.size + 1) #[.int .i64 8, .int .i64 src, .int .i64 dst, .int .u64 (ce : Int), .int .i64 cr, .int .i64 0, .int .u32 0, .int .u64 0, .int .i64 0, .slice none 0 0, .string ⟨#[]⟩, .int .u64 0, .int .u32 0, .slice none 0 0, .int .u64 0, .int .i64 whom, .int .u32 (seq : Int), .int .u64 0, .int .u64 0, .int .i64 0, .int .u64 0, .slice none 0 0] (by simp [Act.eval, Act.put]) (by simp [Act.eval, Act.put]) 73 zpk H15.out info73 rfl (by kernel_rfl) ?_))
  have hr := setRow_heap w5 (w.heap.size + 1) zpk #[.int .i64 8, .int .i64 src, .int .i64 dst, .int .u64 (ce : Int), .int .i64 cr, .int .i64 0, .int .u32 0, .int .u64 0, .int .i64 0, .slice none 0 0, .string ⟨#[]⟩, .int .u64 0, .int .u32 0, .slice none 0 0, .int .u64 0, .int .i64 whom, .int .u32 (seq : Int), .int .u64 0, .int .u64 0, .int .i64 0, .int .u64 0, .slice none 0 0] 73 (0, 0) H15.out
  refine bodyPost_ret (results_cell_row Try.results50 _ _ _ _ _ _ _ rfl hr Try.underlying73 rfl info73) rfl ?_
  exact ⟨rfl, below_setRow HB5.out (by omega) _⟩
set_option maxHeartbeats 3200000 in
set_option maxRecDepth 8000 in
theorem rclean9 (p : Pk) (Am : Option Addr) (cm : Nat) (Ag : Option Addr) (cg : Nat) (Ax : Option Addr) (cx : Nat) (w : World) (hk : p.kind = 9) :
    Calls Try.prog 50 #[pkV p Am cm Ag cg Ax cx] w fun e w' => e = .returned (pkV (cleanF p) Am cm none 0 none 0) ∧ Below w.heap.size w w' := by
  obtain ⟨kind, src, dst, ⟨ce, cr⟩, ⟨mf, ms, mt, mv, md, my⟩, stamp, sent, got, horizon, whom, seq, members, ⟨pe, pr⟩, epoch, x⟩ := p
  dsimp only at *
  obtain rfl : kind = 9 := hk
  have hq : cleanF (⟨9, src, dst, ⟨ce, cr⟩, ⟨mf, ms, mt, mv, md, my⟩, stamp, sent, got, horizon, whom, seq, members, ⟨pe, pr⟩, epoch, x⟩ : Pk) = (⟨9, src, dst, ⟨ce, cr⟩, ⟨whom, ms, mt, mv, md, my⟩, 0, 0, [], 0, whom, 0, 0, Cf.zero, 0, []⟩ : Pk) := by unfold cleanF; simp
  rw [hq]
  clear hq
  obtain ⟨c, hc⟩ : ∃ c : Array Value, c = #[.int .i64 9, .int .i64 src, .int .i64 dst, .int .u64 (ce : Int), .int .i64 cr, .int .i64 mf, .int .u32 (ms : Int), .int .u64 (mt : Int), .int .i64 mv, .slice Am md.length cm, .string my, .int .u64 (stamp : Int), .int .u32 (sent : Int), .slice Ag got.length cg, .int .u64 (horizon : Int), .int .i64 whom, .int .u32 (seq : Int), .int .u64 (members : Int), .int .u64 (pe : Int), .int .i64 pr, .int .u64 (epoch : Int), .slice Ax x.length cx] := ⟨_, rfl⟩
  rw [show pkV (⟨9, src, dst, ⟨ce, cr⟩, ⟨mf, ms, mt, mv, md, my⟩, stamp, sent, got, horizon, whom, seq, members, ⟨pe, pr⟩, epoch, x⟩ : Pk) Am cm Ag cg Ax cx = .agg c from by rw [hc]; rfl]
  have A2 : Hid ((((w.alloc (.cells c 73)).alloc (.cells #[.int .i64 0, .int .i64 0, .int .i64 0, .int .u64 0, .int .i64 0, .int .i64 0, .int .u32 0, .int .u64 0, .int .i64 0, .slice none 0 0, .string ⟨#[]⟩, .int .u64 0, .int .u32 0, .slice none 0 0, .int .u64 0, .int .i64 0, .int .u32 0, .int .u64 0, .int .u64 0, .int .i64 0, .int .u64 0, .slice none 0 0] 73)).alloc (.cells #[.int .i64 0, .int .i64 0, .int .i64 0, .int .u64 0, .int .i64 0, .int .i64 0, .int .u32 0, .int .u64 0, .int .i64 0, .slice none 0 0, .string ⟨#[]⟩, .int .u64 0, .int .u32 0, .slice none 0 0, .int .u64 0, .int .i64 0, .int .u32 0, .int .u64 0, .int .u64 0, .int .i64 0, .int .u64 0, .slice none 0 0] 73)).heap[w.heap.size + 1 + 1]? = some (.cells #[.int .i64 0, .int .i64 0, .int .i64 0, .int .u64 0, .int .i64 0, .int .i64 0, .int .u32 0, .int .u64 0, .int .i64 0, .slice none 0 0, .string ⟨#[]⟩, .int .u64 0, .int .u32 0, .slice none 0 0, .int .u64 0, .int .i64 0, .int .u32 0, .int .u64 0, .int .u64 0, .int .i64 0, .int .u64 0, .slice none 0 0] 73 (0, 0))) := by
    show (((w.alloc (.cells c 73)).alloc (.cells #[.int .i64 0, .int .i64 0, .int .i64 0, .int .u64 0, .int .i64 0, .int .i64 0, .int .u32 0, .int .u64 0, .int .i64 0, .slice none 0 0, .string ⟨#[]⟩, .int .u64 0, .int .u32 0, .slice none 0 0, .int .u64 0, .int .i64 0, .int .u32 0, .int .u64 0, .int .u64 0, .int .i64 0, .int .u64 0, .slice none 0 0] 73)).alloc (.cells #[.int .i64 0, .int .i64 0, .int .i64 0, .int .u64 0, .int .i64 0, .int .i64 0, .int .u32 0, .int .u64 0, .int .i64 0, .slice none 0 0, .string ⟨#[]⟩, .int .u64 0, .int .u32 0, .slice none 0 0, .int .u64 0, .int .i64 0, .int .u32 0, .int .u64 0, .int .u64 0, .int .i64 0, .int .u64 0, .slice none 0 0] 73)).heap[w.heap.size + 1 + 1]? = _
    rw [show w.heap.size + 1 + 1 = ((w.alloc (.cells c 73)).alloc (.cells #[.int .i64 0, .int .i64 0, .int .i64 0, .int .u64 0, .int .i64 0, .int .i64 0, .int .u32 0, .int .u64 0, .int .i64 0, .slice none 0 0, .string ⟨#[]⟩, .int .u64 0, .int .u32 0, .slice none 0 0, .int .u64 0, .int .i64 0, .int .u32 0, .int .u64 0, .int .u64 0, .int .i64 0, .int .u64 0, .slice none 0 0] 73)).heap.size by simp]
    exact heap_alloc_new _ _
  obtain ⟨w2, hw2⟩ : ∃ w2, w2 = ((((w.alloc (.cells c 73)).alloc (.cells #[.int .i64 0, .int .i64 0, .int .i64 0, .int .u64 0, .int .i64 0, .int .i64 0, .int .u32 0, .int .u64 0, .int .i64 0, .slice none 0 0, .string ⟨#[]⟩, .int .u64 0, .int .u32 0, .slice none 0 0, .int .u64 0, .int .i64 0, .int .u32 0, .int .u64 0, .int .u64 0, .int .i64 0, .int .u64 0, .slice none 0 0] 73)).alloc (.cells #[.int .i64 0, .int .i64 0, .int .i64 0, .int .u64 0, .int .i64 0, .int .i64 0, .int .u32 0, .int .u64 0, .int .i64 0, .slice none 0 0, .string ⟨#[]⟩, .int .u64 0, .int .u32 0, .slice none 0 0, .int .u64 0, .int .i64 0, .int .u32 0, .int .u64 0, .int .u64 0, .int .i64 0, .int .u64 0, .slice none 0 0] 73)).setRow (w.heap.size + 1 + 1) #[.int .i64 9, .int .i64 src, .int .i64 dst, .int .u64 0, .int .i64 0, .int .i64 0, .int .u32 0, .int .u64 0, .int .i64 0, .slice none 0 0, .string ⟨#[]⟩, .int .u64 0, .int .u32 0, .slice none 0 0, .int .u64 0, .int .i64 0, .int .u32 0, .int .u64 0, .int .u64 0, .int .i64 0, .int .u64 0, .slice none 0 0]) := ⟨_, rfl⟩
  have HB2 : Hid (Below w.heap.size w w2) := Lib.hid (by rw [hw2]; exact below_setRow (below_alloc (below_alloc (below_alloc (Below.refl _ _) _) _) _) (by omega) _)
  have H02 : Hid (w2.heap[w.heap.size]? = some (.cells c 73 (0, 0))) := Lib.hid (by rw [hw2]; exact (setRow_other _ _ _ _ (by omega)).trans ((Below.heap_alloc _ _ _ (by simp; omega)).trans ((Below.heap_alloc _ _ _ (by simp)).trans (heap_alloc_new w _))))
  have H12 : Hid (w2.heap[w.heap.size + 1]? = some (.cells zpk 73 (0, 0))) := Lib.hid (by rw [hw2]; exact (setRow_other _ _ _ _ (by omega)).trans ((Below.heap_alloc _ _ _ (by simp)).trans (by rw [show w.heap.size + 1 = (w.alloc (.cells c 73)).heap.size by simp]; exact heap_alloc_new _ _)))
  have H22 : Hid (w2.heap[w.heap.size + 1 + 1]? = some (.cells #[.int .i64 9, .int .i64 src, .int .i64 dst, .int .u64 0, .int .i64 0, .int .i64 0, .int .u32 0, .int .u64 0, .int .i64 0, .slice none 0 0, .string ⟨#[]⟩, .int .u64 0, .int .u32 0, .slice none 0 0, .int .u64 0, .int .i64 0, .int .u32 0, .int .u64 0, .int .u64 0, .int .i64 0, .int .u64 0, .slice none 0 0] 73 (0, 0))) := Lib.hid (by rw [hw2]; exact setRow_heap _ _ #[.int .i64 0, .int .i64 0, .int .i64 0, .int .u64 0, .int .i64 0, .int .i64 0, .int .u32 0, .int .u64 0, .int .i64 0, .slice none 0 0, .string ⟨#[]⟩, .int .u64 0, .int .u32 0, .slice none 0 0, .int .u64 0, .int .i64 0, .int .u32 0, .int .u64 0, .int .u64 0, .int .i64 0, .int .u64 0, .slice none 0 0] _ 73 (0, 0) A2.out)
  have i0 : ((w.alloc (.cells c 73)).alloc (.cells #[.int .i64 0, .int .i64 0, .int .i64 0, .int .u64 0, .int .i64 0, .int .i64 0, .int .u32 0, .int .u64 0, .int .i64 0, .slice none 0 0, .string ⟨#[]⟩, .int .u64 0, .int .u32 0, .slice none 0 0, .int .u64 0, .int .i64 0, .int .u32 0, .int .u64 0, .int .u64 0, .int .i64 0, .int .u64 0, .slice none 0 0] 73)).cell? ⟨w.heap.size, 0, none⟩ = some (.int .i64 9) := (cell_of_row _ _ 0 _ _ _ ((Below.heap_alloc _ _ _ (by simp)).trans (heap_alloc_new w _))).trans (by rw [hc]; rfl)
  have i1 : ((w.alloc (.cells c 73)).alloc (.cells #[.int .i64 0, .int .i64 0, .int .i64 0, .int .u64 0, .int .i64 0, .int .i64 0, .int .u32 0, .int .u64 0, .int .i64 0, .slice none 0 0, .string ⟨#[]⟩, .int .u64 0, .int .u32 0, .slice none 0 0, .int .u64 0, .int .i64 0, .int .u32 0, .int .u64 0, .int .u64 0, .int .i64 0, .int .u64 0, .slice none 0 0] 73)).cell? ⟨w.heap.size, 1, none⟩ = some (.int .i64 src) := (cell_of_row _ _ 1 _ _ _ ((Below.heap_alloc _ _ _ (by simp)).trans (heap_alloc_new w _))).trans (by rw [hc]; rfl)
  have i2 : ((w.alloc (.cells c 73)).alloc (.cells #[.int .i64 0, .int .i64 0, .int .i64 0, .int .u64 0, .int .i64 0, .int .i64 0, .int .u32 0, .int .u64 0, .int .i64 0, .slice none 0 0, .string ⟨#[]⟩, .int .u64 0, .int .u32 0, .slice none 0 0, .int .u64 0, .int .i64 0, .int .u32 0, .int .u64 0, .int .u64 0, .int .i64 0, .int .u64 0, .slice none 0 0] 73)).cell? ⟨w.heap.size, 2, none⟩ = some (.int .i64 dst) := (cell_of_row _ _ 2 _ _ _ ((Below.heap_alloc _ _ _ (by simp)).trans (heap_alloc_new w _))).trans (by rw [hc]; rfl)
  have HW2 := Lib.hid hw2
  have HC := Lib.hid hc
  clear hw2 hc
  have a0 : w2.cell? ⟨w.heap.size, 0, none⟩ = some (.int .i64 9) := (cell_of_row _ _ 0 _ _ _ H02.out).trans (by rw [HC.out]; rfl)
  go_enter Try.func50, Try.ntmps50
  go_wp2_with (refine wpList_store_row rfl 73 (.tmp 3) (.tmp 11) rfl (w.heap.size + 1 + 1) #[.int .i64 9, .int .i64 src, .int .i64 dst, .int .u64 0, .int .i64 0, .int .i64 0, .int .u32 0, .int .u64 0, .int .i64 0, .slice none 0 0, .string ⟨#[]⟩, .int .u64 0, .int .u32 0, .slice none 0 0, .int .u64 0, .int .i64 0, .int .u32 0, .int .u64 0, .int .u64 0, .int .i64 0, .int .u64 0, .slice none 0 0] (by simp [Act.eval, Act.put]) (by simp [Act.eval, Act.put]) 73 #[.int .i64 0, .int .i64 0, .int .i64 0, .int .u64 0, .int .i64 0, .int .i64 0, .int .u32 0, .int .u64 0, .int .i64 0, .slice none 0 0, .string ⟨#[]⟩, .int .u64 0, .int .u32 0, .slice none 0 0, .int .u64 0, .int .i64 0, .int .u32 0, .int .u64 0, .int .u64 0, .int .i64 0, .int .u64 0, .slice none 0 0] A2.out info73 rfl (by kernel_rfl) ?_; rw [← HW2.out]; clear i0 i1 i2 A2 HW2)
  clear a0
  refine (row9 w2).mono ?_
  rintro e w9 ⟨rfl, rfl⟩
  have l0x3 : w2.cell? ⟨w.heap.size, 3, none⟩ = some (.int .u64 (ce : Int)) := (cell_of_row _ _ 3 _ _ _ H02.out).trans (by rw [HC.out]; rfl)
  have l0x4 : w2.cell? ⟨w.heap.size, 4, none⟩ = some (.int .i64 cr) := (cell_of_row _ _ 4 _ _ _ H02.out).trans (by rw [HC.out]; rfl)
  have k0x3 : w2.cell? ⟨w.heap.size + 1 + 1, 3, none⟩ = some (.int .u64 0) := cell_of_row _ _ 3 _ _ _ H22.out
  have f0x3 : w2.frozen? ⟨w.heap.size + 1 + 1, 3, none⟩ = false := by simp only [World.frozen?, H22.out]; rfl
  have k0x4 : w2.cell? ⟨w.heap.size + 1 + 1, 4, none⟩ = some (.int .i64 0) := cell_of_row _ _ 4 _ _ _ H22.out
  have f0x4 : w2.frozen? ⟨w.heap.size + 1 + 1, 4, none⟩ = false := by simp only [World.frozen?, H22.out]; rfl
  have H03 : Hid (((w2.setCell ⟨w.heap.size + 1 + 1, 3, none⟩ (.int .u64 (ce : Int))).setCell ⟨w.heap.size + 1 + 1, 4, none⟩ (.int .i64 cr)).heap[w.heap.size]? = some (.cells c 73 (0, 0))) := ((Below.heap_setCell _ ⟨w.heap.size + 1 + 1, 4, none⟩ (.int .i64 cr) (w.heap.size) (by simp; omega)).trans ((Below.heap_setCell _ ⟨w.heap.size + 1 + 1, 3, none⟩ (.int .u64 (ce : Int)) (w.heap.size) (by simp; omega)).trans H02.out))
  have H13 : Hid (((w2.setCell ⟨w.heap.size + 1 + 1, 3, none⟩ (.int .u64 (ce : Int))).setCell ⟨w.heap.size + 1 + 1, 4, none⟩ (.int .i64 cr)).heap[w.heap.size + 1]? = some (.cells zpk 73 (0, 0))) := ((Below.heap_setCell _ ⟨w.heap.size + 1 + 1, 4, none⟩ (.int .i64 cr) (w.heap.size + 1) (by simp)).trans ((Below.heap_setCell _ ⟨w.heap.size + 1 + 1, 3, none⟩ (.int .u64 (ce : Int)) (w.heap.size + 1) (by simp)).trans H12.out))
  have H23 : Hid (((w2.setCell ⟨w.heap.size + 1 + 1, 3, none⟩ (.int .u64 (ce : Int))).setCell ⟨w.heap.size + 1 + 1, 4, none⟩ (.int .i64 cr)).heap[w.heap.size + 1 + 1]? = some (.cells #[.int .i64 9, .int .i64 src, .int .i64 dst, .int .u64 (ce : Int), .int .i64 cr, .int .i64 0, .int .u32 0, .int .u64 0, .int .i64 0, .slice none 0 0, .string ⟨#[]⟩, .int .u64 0, .int .u32 0, .slice none 0 0, .int .u64 0, .int .i64 0, .int .u32 0, .int .u64 0, .int .u64 0, .int .i64 0, .int .u64 0, .slice none 0 0] 73 (0, 0))) := (blk_setj (blk_setj H22.out 3 (.int .u64 (ce : Int))) 4 (.int .i64 cr))
  have HB3 := Lib.hid ((HB2.out.setCell (p := ⟨w.heap.size + 1 + 1, 3, none⟩) (by simp; omega) (.int .u64 (ce : Int))).setCell (p := ⟨w.heap.size + 1 + 1, 4, none⟩) (by simp; omega) (.int .i64 cr))
  go_wp2_with fail
  clear l0x3 l0x4 k0x3 f0x3 k0x4 f0x4
  clear H02 H12 H22 HB2
  generalize ((w2.setCell ⟨w.heap.size + 1 + 1, 3, none⟩ (.int .u64 (ce : Int))).setCell ⟨w.heap.size + 1 + 1, 4, none⟩ (.int .i64 cr)) = w3 at *
  refine (has_is ⟨#[99, 119, 109]⟩ 109 true (by decide) (by decide) w3).mono ?_
  rintro e w9 ⟨rfl, rfl⟩
  have l0x5 : w3.cell? ⟨w.heap.size, 5, none⟩ = some (.int .i64 mf) := (cell_of_row _ _ 5 _ _ _ H03.out).trans (by rw [HC.out]; rfl)
  have l0x6 : w3.cell? ⟨w.heap.size, 6, none⟩ = some (.int .u32 (ms : Int)) := (cell_of_row _ _ 6 _ _ _ H03.out).trans (by rw [HC.out]; rfl)
  have l0x7 : w3.cell? ⟨w.heap.size, 7, none⟩ = some (.int .u64 (mt : Int)) := (cell_of_row _ _ 7 _ _ _ H03.out).trans (by rw [HC.out]; rfl)
  have l0x8 : w3.cell? ⟨w.heap.size, 8, none⟩ = some (.int .i64 mv) := (cell_of_row _ _ 8 _ _ _ H03.out).trans (by rw [HC.out]; rfl)
  have l0x9 : w3.cell? ⟨w.heap.size, 9, none⟩ = some (.slice Am md.length cm) := (cell_of_row _ _ 9 _ _ _ H03.out).trans (by rw [HC.out]; rfl)
  have l0x10 : w3.cell? ⟨w.heap.size, 10, none⟩ = some (.string my) := (cell_of_row _ _ 10 _ _ _ H03.out).trans (by rw [HC.out]; rfl)
  have k0x5 : w3.cell? ⟨w.heap.size + 1 + 1, 5, none⟩ = some (.int .i64 0) := cell_of_row _ _ 5 _ _ _ H23.out
  have f0x5 : w3.frozen? ⟨w.heap.size + 1 + 1, 5, none⟩ = false := by simp only [World.frozen?, H23.out]; rfl
  have k0x6 : w3.cell? ⟨w.heap.size + 1 + 1, 6, none⟩ = some (.int .u32 0) := cell_of_row _ _ 6 _ _ _ H23.out
  have f0x6 : w3.frozen? ⟨w.heap.size + 1 + 1, 6, none⟩ = false := by simp only [World.frozen?, H23.out]; rfl
  have k0x7 : w3.cell? ⟨w.heap.size + 1 + 1, 7, none⟩ = some (.int .u64 0) := cell_of_row _ _ 7 _ _ _ H23.out
  have f0x7 : w3.frozen? ⟨w.heap.size + 1 + 1, 7, none⟩ = false := by simp only [World.frozen?, H23.out]; rfl
  have k0x8 : w3.cell? ⟨w.heap.size + 1 + 1, 8, none⟩ = some (.int .i64 0) := cell_of_row _ _ 8 _ _ _ H23.out
  have f0x8 : w3.frozen? ⟨w.heap.size + 1 + 1, 8, none⟩ = false := by simp only [World.frozen?, H23.out]; rfl
  have k0x9 : w3.cell? ⟨w.heap.size + 1 + 1, 9, none⟩ = some (.slice none 0 0) := cell_of_row _ _ 9 _ _ _ H23.out
  have f0x9 : w3.frozen? ⟨w.heap.size + 1 + 1, 9, none⟩ = false := by simp only [World.frozen?, H23.out]; rfl
  have k0x10 : w3.cell? ⟨w.heap.size + 1 + 1, 10, none⟩ = some (.string ⟨#[]⟩) := cell_of_row _ _ 10 _ _ _ H23.out
  have f0x10 : w3.frozen? ⟨w.heap.size + 1 + 1, 10, none⟩ = false := by simp only [World.frozen?, H23.out]; rfl
  have l1x1 : ((((((w3.setCell ⟨w.heap.size + 1 + 1, 5, none⟩ (.int .i64 mf)).setCell ⟨w.heap.size + 1 + 1, 6, none⟩ (.int .u32 (ms : Int))).setCell ⟨w.heap.size + 1 + 1, 7, none⟩ (.int .u64 (mt : Int))).setCell ⟨w.heap.size + 1 + 1, 8, none⟩ (.int .i64 mv)).setCell ⟨w.heap.size + 1 + 1, 9, none⟩ (.slice Am md.length cm)).setCell ⟨w.heap.size + 1 + 1, 10, none⟩ (.string my)).cell? ⟨w.heap.size, 1, none⟩ = some (.int .i64 src) := (cell_of_row _ _ 1 _ _ _ ((Below.heap_setCell _ ⟨w.heap.size + 1 + 1, 10, none⟩ (.string my) (w.heap.size) (by simp; omega)).trans ((Below.heap_setCell _ ⟨w.heap.size + 1 + 1, 9, none⟩ (.slice Am md.length cm) (w.heap.size) (by simp; omega)).trans ((Below.heap_setCell _ ⟨w.heap.size + 1 + 1, 8, none⟩ (.int .i64 mv) (w.heap.size) (by simp; omega)).trans ((Below.heap_setCell _ ⟨w.heap.size + 1 + 1, 7, none⟩ (.int .u64 (mt : Int)) (w.heap.size) (by simp; omega)).trans ((Below.heap_setCell _ ⟨w.heap.size + 1 + 1, 6, none⟩ (.int .u32 (ms : Int)) (w.heap.size) (by simp; omega)).trans ((Below.heap_setCell _ ⟨w.heap.size + 1 + 1, 5, none⟩ (.int .i64 mf) (w.heap.size) (by simp; omega)).trans H03.out))))))).trans (by rw [HC.out]; rfl)
  have k1x5 : ((((((w3.setCell ⟨w.heap.size + 1 + 1, 5, none⟩ (.int .i64 mf)).setCell ⟨w.heap.size + 1 + 1, 6, none⟩ (.int .u32 (ms : Int))).setCell ⟨w.heap.size + 1 + 1, 7, none⟩ (.int .u64 (mt : Int))).setCell ⟨w.heap.size + 1 + 1, 8, none⟩ (.int .i64 mv)).setCell ⟨w.heap.size + 1 + 1, 9, none⟩ (.slice Am md.length cm)).setCell ⟨w.heap.size + 1 + 1, 10, none⟩ (.string my)).cell? ⟨w.heap.size + 1 + 1, 5, none⟩ = some (.int .i64 mf) := cell_of_row _ _ 5 _ _ _ (blk_setj (blk_setj (blk_setj (blk_setj (blk_setj (blk_setj H23.out 5 (.int .i64 mf)) 6 (.int .u32 (ms : Int))) 7 (.int .u64 (mt : Int))) 8 (.int .i64 mv)) 9 (.slice Am md.length cm)) 10 (.string my))
  have f1x5 : ((((((w3.setCell ⟨w.heap.size + 1 + 1, 5, none⟩ (.int .i64 mf)).setCell ⟨w.heap.size + 1 + 1, 6, none⟩ (.int .u32 (ms : Int))).setCell ⟨w.heap.size + 1 + 1, 7, none⟩ (.int .u64 (mt : Int))).setCell ⟨w.heap.size + 1 + 1, 8, none⟩ (.int .i64 mv)).setCell ⟨w.heap.size + 1 + 1, 9, none⟩ (.slice Am md.length cm)).setCell ⟨w.heap.size + 1 + 1, 10, none⟩ (.string my)).frozen? ⟨w.heap.size + 1 + 1, 5, none⟩ = false := by simp only [World.frozen?, (blk_setj (blk_setj (blk_setj (blk_setj (blk_setj (blk_setj H23.out 5 (.int .i64 mf)) 6 (.int .u32 (ms : Int))) 7 (.int .u64 (mt : Int))) 8 (.int .i64 mv)) 9 (.slice Am md.length cm)) 10 (.string my))]; rfl
  have H04 : Hid ((((((((w3.setCell ⟨w.heap.size + 1 + 1, 5, none⟩ (.int .i64 mf)).setCell ⟨w.heap.size + 1 + 1, 6, none⟩ (.int .u32 (ms : Int))).setCell ⟨w.heap.size + 1 + 1, 7, none⟩ (.int .u64 (mt : Int))).setCell ⟨w.heap.size + 1 + 1, 8, none⟩ (.int .i64 mv)).setCell ⟨w.heap.size + 1 + 1, 9, none⟩ (.slice Am md.length cm)).setCell ⟨w.heap.size + 1 + 1, 10, none⟩ (.string my)).setCell ⟨w.heap.size + 1 + 1, 5, none⟩ (.int .i64 src)).heap[w.heap.size]? = some (.cells c 73 (0, 0))) := ((Below.heap_setCell _ ⟨w.heap.size + 1 + 1, 5, none⟩ (.int .i64 src) (w.heap.size) (by simp; omega)).trans ((Below.heap_setCell _ ⟨w.heap.size + 1 + 1, 10, none⟩ (.string my) (w.heap.size) (by simp; omega)).trans ((Below.heap_setCell _ ⟨w.heap.size + 1 + 1, 9, none⟩ (.slice Am md.length cm) (w.heap.size) (by simp; omega)).trans ((Below.heap_setCell _ ⟨w.heap.size + 1 + 1, 8, none⟩ (.int .i64 mv) (w.heap.size) (by simp; omega)).trans ((Below.heap_setCell _ ⟨w.heap.size + 1 + 1, 7, none⟩ (.int .u64 (mt : Int)) (w.heap.size) (by simp; omega)).trans ((Below.heap_setCell _ ⟨w.heap.size + 1 + 1, 6, none⟩ (.int .u32 (ms : Int)) (w.heap.size) (by simp; omega)).trans ((Below.heap_setCell _ ⟨w.heap.size + 1 + 1, 5, none⟩ (.int .i64 mf) (w.heap.size) (by simp; omega)).trans H03.out)))))))
  have H14 : Hid ((((((((w3.setCell ⟨w.heap.size + 1 + 1, 5, none⟩ (.int .i64 mf)).setCell ⟨w.heap.size + 1 + 1, 6, none⟩ (.int .u32 (ms : Int))).setCell ⟨w.heap.size + 1 + 1, 7, none⟩ (.int .u64 (mt : Int))).setCell ⟨w.heap.size + 1 + 1, 8, none⟩ (.int .i64 mv)).setCell ⟨w.heap.size + 1 + 1, 9, none⟩ (.slice Am md.length cm)).setCell ⟨w.heap.size + 1 + 1, 10, none⟩ (.string my)).setCell ⟨w.heap.size + 1 + 1, 5, none⟩ (.int .i64 src)).heap[w.heap.size + 1]? = some (.cells zpk 73 (0, 0))) := ((Below.heap_setCell _ ⟨w.heap.size + 1 + 1, 5, none⟩ (.int .i64 src) (w.heap.size + 1) (by simp)).trans ((Below.heap_setCell _ ⟨w.heap.size + 1 + 1, 10, none⟩ (.string my) (w.heap.size + 1) (by simp)).trans ((Below.heap_setCell _ ⟨w.heap.size + 1 + 1, 9, none⟩ (.slice Am md.length cm) (w.heap.size + 1) (by simp)).trans ((Below.heap_setCell _ ⟨w.heap.size + 1 + 1, 8, none⟩ (.int .i64 mv) (w.heap.size + 1) (by simp)).trans ((Below.heap_setCell _ ⟨w.heap.size + 1 + 1, 7, none⟩ (.int .u64 (mt : Int)) (w.heap.size + 1) (by simp)).trans ((Below.heap_setCell _ ⟨w.heap.size + 1 + 1, 6, none⟩ (.int .u32 (ms : Int)) (w.heap.size + 1) (by simp)).trans ((Below.heap_setCell _ ⟨w.heap.size + 1 + 1, 5, none⟩ (.int .i64 mf) (w.heap.size + 1) (by simp)).trans H13.out)))))))
  have H24 : Hid ((((((((w3.setCell ⟨w.heap.size + 1 + 1, 5, none⟩ (.int .i64 mf)).setCell ⟨w.heap.size + 1 + 1, 6, none⟩ (.int .u32 (ms : Int))).setCell ⟨w.heap.size + 1 + 1, 7, none⟩ (.int .u64 (mt : Int))).setCell ⟨w.heap.size + 1 + 1, 8, none⟩ (.int .i64 mv)).setCell ⟨w.heap.size + 1 + 1, 9, none⟩ (.slice Am md.length cm)).setCell ⟨w.heap.size + 1 + 1, 10, none⟩ (.string my)).setCell ⟨w.heap.size + 1 + 1, 5, none⟩ (.int .i64 src)).heap[w.heap.size + 1 + 1]? = some (.cells #[.int .i64 9, .int .i64 src, .int .i64 dst, .int .u64 (ce : Int), .int .i64 cr, .int .i64 src, .int .u32 (ms : Int), .int .u64 (mt : Int), .int .i64 mv, .slice Am md.length cm, .string my, .int .u64 0, .int .u32 0, .slice none 0 0, .int .u64 0, .int .i64 0, .int .u32 0, .int .u64 0, .int .u64 0, .int .i64 0, .int .u64 0, .slice none 0 0] 73 (0, 0))) := (blk_setj (blk_setj (blk_setj (blk_setj (blk_setj (blk_setj (blk_setj H23.out 5 (.int .i64 mf)) 6 (.int .u32 (ms : Int))) 7 (.int .u64 (mt : Int))) 8 (.int .i64 mv)) 9 (.slice Am md.length cm)) 10 (.string my)) 5 (.int .i64 src))
  have HB4 := Lib.hid (((((((HB3.out.setCell (p := ⟨w.heap.size + 1 + 1, 5, none⟩) (by simp; omega) (.int .i64 mf)).setCell (p := ⟨w.heap.size + 1 + 1, 6, none⟩) (by simp; omega) (.int .u32 (ms : Int))).setCell (p := ⟨w.heap.size + 1 + 1, 7, none⟩) (by simp; omega) (.int .u64 (mt : Int))).setCell (p := ⟨w.heap.size + 1 + 1, 8, none⟩) (by simp; omega) (.int .i64 mv)).setCell (p := ⟨w.heap.size + 1 + 1, 9, none⟩) (by simp; omega) (.slice Am md.length cm)).setCell (p := ⟨w.heap.size + 1 + 1, 10, none⟩) (by simp; omega) (.string my)).setCell (p := ⟨w.heap.size + 1 + 1, 5, none⟩) (by simp; omega) (.int .i64 src))
  go_wp2_with fail
  clear l0x5 l0x6 l0x7 l0x8 l0x9 l0x10 k0x5 f0x5 k0x6 f0x6 k0x7 f0x7 k0x8 f0x8 k0x9 f0x9 k0x10 f0x10 l1x1 k1x5 f1x5
  clear H03 H13 H23 HB3
  generalize (((((((w3.setCell ⟨w.heap.size + 1 + 1, 5, none⟩ (.int .i64 mf)).setCell ⟨w.heap.size + 1 + 1, 6, none⟩ (.int .u32 (ms : Int))).setCell ⟨w.heap.size + 1 + 1, 7, none⟩ (.int .u64 (mt : Int))).setCell ⟨w.heap.size + 1 + 1, 8, none⟩ (.int .i64 mv)).setCell ⟨w.heap.size + 1 + 1, 9, none⟩ (.slice Am md.length cm)).setCell ⟨w.heap.size + 1 + 1, 10, none⟩ (.string my)).setCell ⟨w.heap.size + 1 + 1, 5, none⟩ (.int .i64 src)) = w4 at *
  refine (has_is ⟨#[99, 119, 109]⟩ 115 false (by decide) (by decide) w4).mono ?_
  rintro e w9 ⟨rfl, rfl⟩
  go_wp2_with fail
  refine (has_is ⟨#[99, 119, 109]⟩ 119 true (by decide) (by decide) w4).mono ?_
  rintro e w9 ⟨rfl, rfl⟩
  have l0x15 : w4.cell? ⟨w.heap.size, 15, none⟩ = some (.int .i64 whom) := (cell_of_row _ _ 15 _ _ _ H04.out).trans (by rw [HC.out]; rfl)
  have k0x15 : w4.cell? ⟨w.heap.size + 1 + 1, 15, none⟩ = some (.int .i64 0) := cell_of_row _ _ 15 _ _ _ H24.out
  have f0x15 : w4.frozen? ⟨w.heap.size + 1 + 1, 15, none⟩ = false := by simp only [World.frozen?, H24.out]; rfl
  have H05 : Hid ((w4.setCell ⟨w.heap.size + 1 + 1, 15, none⟩ (.int .i64 whom)).heap[w.heap.size]? = some (.cells c 73 (0, 0))) := ((Below.heap_setCell _ ⟨w.heap.size + 1 + 1, 15, none⟩ (.int .i64 whom) (w.heap.size) (by simp; omega)).trans H04.out)
  have H15 : Hid ((w4.setCell ⟨w.heap.size + 1 + 1, 15, none⟩ (.int .i64 whom)).heap[w.heap.size + 1]? = some (.cells zpk 73 (0, 0))) := ((Below.heap_setCell _ ⟨w.heap.size + 1 + 1, 15, none⟩ (.int .i64 whom) (w.heap.size + 1) (by simp)).trans H14.out)
  have H25 : Hid ((w4.setCell ⟨w.heap.size + 1 + 1, 15, none⟩ (.int .i64 whom)).heap[w.heap.size + 1 + 1]? = some (.cells #[.int .i64 9, .int .i64 src, .int .i64 dst, .int .u64 (ce : Int), .int .i64 cr, .int .i64 src, .int .u32 (ms : Int), .int .u64 (mt : Int), .int .i64 mv, .slice Am md.length cm, .string my, .int .u64 0, .int .u32 0, .slice none 0 0, .int .u64 0, .int .i64 whom, .int .u32 0, .int .u64 0, .int .u64 0, .int .i64 0, .int .u64 0, .slice none 0 0] 73 (0, 0))) := (blk_setj H24.out 15 (.int .i64 whom))
  have HB5 := Lib.hid (HB4.out.setCell (p := ⟨w.heap.size + 1 + 1, 15, none⟩) (by simp; omega) (.int .i64 whom))
  go_wp2_with fail
  clear l0x15 k0x15 f0x15
  clear H04 H14 H24 HB4
  generalize (w4.setCell ⟨w.heap.size + 1 + 1, 15, none⟩ (.int .i64 whom)) = w5 at *
  refine (has_is ⟨#[99, 119, 109]⟩ 109 true (by decide) (by decide) w5).mono ?_
  rintro e w9 ⟨rfl, rfl⟩
  have l0x15 : w5.cell? ⟨w.heap.size, 15, none⟩ = some (.int .i64 whom) := (cell_of_row _ _ 15 _ _ _ H05.out).trans (by rw [HC.out]; rfl)
  have k0x5 : w5.cell? ⟨w.heap.size + 1 + 1, 5, none⟩ = some (.int .i64 src) := cell_of_row _ _ 5 _ _ _ H25.out
  have f0x5 : w5.frozen? ⟨w.heap.size + 1 + 1, 5, none⟩ = false := by simp only [World.frozen?, H25.out]; rfl
  have H06 : Hid ((w5.setCell ⟨w.heap.size + 1 + 1, 5, none⟩ (.int .i64 whom)).heap[w.heap.size]? = some (.cells c 73 (0, 0))) := ((Below.heap_setCell _ ⟨w.heap.size + 1 + 1, 5, none⟩ (.int .i64 whom) (w.heap.size) (by simp; omega)).trans H05.out)
  have H16 : Hid ((w5.setCell ⟨w.heap.size + 1 + 1, 5, none⟩ (.int .i64 whom)).heap[w.heap.size + 1]? = some (.cells zpk 73 (0, 0))) := ((Below.heap_setCell _ ⟨w.heap.size + 1 + 1, 5, none⟩ (.int .i64 whom) (w.heap.size + 1) (by simp)).trans H15.out)
  have H26 : Hid ((w5.setCell ⟨w.heap.size + 1 + 1, 5, none⟩ (.int .i64 whom)).heap[w.heap.size + 1 + 1]? = some (.cells #[.int .i64 9, .int .i64 src, .int .i64 dst, .int .u64 (ce : Int), .int .i64 cr, .int .i64 whom, .int .u32 (ms : Int), .int .u64 (mt : Int), .int .i64 mv, .slice Am md.length cm, .string my, .int .u64 0, .int .u32 0, .slice none 0 0, .int .u64 0, .int .i64 whom, .int .u32 0, .int .u64 0, .int .u64 0, .int .i64 0, .int .u64 0, .slice none 0 0] 73 (0, 0))) := (blk_setj H25.out 5 (.int .i64 whom))
  have HB6 := Lib.hid (HB5.out.setCell (p := ⟨w.heap.size + 1 + 1, 5, none⟩) (by simp; omega) (.int .i64 whom))
  go_wp2_with fail
  clear l0x15 k0x5 f0x5
  clear H05 H15 H25 HB5
  generalize (w5.setCell ⟨w.heap.size + 1 + 1, 5, none⟩ (.int .i64 whom)) = w6 at *
  refine (has_is ⟨#[99, 119, 109]⟩ 113 false (by decide) (by decide) w6).mono ?_
  rintro e w9 ⟨rfl, rfl⟩
  go_wp2_with fail
  refine (has_is ⟨#[99, 119, 109]⟩ 112 false (by decide) (by decide) w6).mono ?_
  rintro e w9 ⟨rfl, rfl⟩
  go_wp2_with fail
  refine (has_is ⟨#[99, 119, 109]⟩ 98 false (by decide) (by decide) w6).mono ?_
  rintro e w9 ⟨rfl, rfl⟩
  go_wp2_with fail
  refine (has_is ⟨#[99, 119, 109]⟩ 120 false (by decide) (by decide) w6).mono ?_
  rintro e w9 ⟨rfl, rfl⟩
  go_wp2_with fail
  refine (has_is ⟨#[99, 119, 109]⟩ 108 false (by decide) (by decide) w6).mono ?_
  rintro e w9 ⟨rfl, rfl⟩
  go_wp2_with (first | (refine wpList_load_row rfl 73 (.tmp 3) rfl (w.heap.size + 1 + 1) (by simp [Act.eval, Act.put]) 73 _ (0, 0) _ H26.out Try.underlying73 rfl info73 ?_) | (refine wpList_store_row rfl 73 (.tmp 2) (.tmp 88) rfl (w.heap.size + 1) #[.int .i64 9, .int .i64 src, .int .i64 dst, .int .u64 (ce : Int), .int .i64 cr, .int .i64 whom, .int .u32 (ms : Int), .int .u64 (mt : Int), .int .i64 mv, .slice Am md.length cm, .string my, .int .u64 0, .int .u32 0, .slice none 0 0, .int .u64 0, .int .i64 whom, .int .u32 0, .int .u64 0, .int .u64 0, .int .i64 0, .int .u64 0, .slice none 0 0] (by simp [Act.eval, Act.put]) (by simp [Act.eval, Act.put]) 73 zpk H16.out info73 rfl (by kernel_rfl) ?_))
  have hr := setRow_heap w6 (w.heap.size + 1) zpk #[.int .i64 9, .int .i64 src, .int .i64 dst, .int .u64 (ce : Int), .int .i64 cr, .int .i64 whom, .int .u32 (ms : Int), .int .u64 (mt : Int), .int .i64 mv, .slice Am md.length cm, .string my, .int .u64 0, .int .u32 0, .slice none 0 0, .int .u64 0, .int .i64 whom, .int .u32 0, .int .u64 0, .int .u64 0, .int .i64 0, .int .u64 0, .slice none 0 0] 73 (0, 0) H16.out
  refine bodyPost_ret (results_cell_row Try.results50 _ _ _ _ _ _ _ rfl hr Try.underlying73 rfl info73) rfl ?_
  exact ⟨rfl, below_setRow HB6.out (by omega) _⟩
set_option maxHeartbeats 3200000 in
set_option maxRecDepth 8000 in
theorem rclean10 (p : Pk) (Am : Option Addr) (cm : Nat) (Ag : Option Addr) (cg : Nat) (Ax : Option Addr) (cx : Nat) (w : World) (hk : p.kind = 10) :
    Calls Try.prog 50 #[pkV p Am cm Ag cg Ax cx] w fun e w' => e = .returned (pkV (cleanF p) none 0 none 0 none 0) ∧ Below w.heap.size w w' := by
  obtain ⟨kind, src, dst, ⟨ce, cr⟩, ⟨mf, ms, mt, mv, md, my⟩, stamp, sent, got, horizon, whom, seq, members, ⟨pe, pr⟩, epoch, x⟩ := p
  dsimp only at *
  obtain rfl : kind = 10 := hk
  have hq : cleanF (⟨10, src, dst, ⟨ce, cr⟩, ⟨mf, ms, mt, mv, md, my⟩, stamp, sent, got, horizon, whom, seq, members, ⟨pe, pr⟩, epoch, x⟩ : Pk) = (⟨10, src, dst, ⟨ce, cr⟩, Ms.zero, 0, 0, [], 0, 0, 0, 0, Cf.zero, 0, []⟩ : Pk) := by unfold cleanF; simp
  rw [hq]
  clear hq
  obtain ⟨c, hc⟩ : ∃ c : Array Value, c = #[.int .i64 10, .int .i64 src, .int .i64 dst, .int .u64 (ce : Int), .int .i64 cr, .int .i64 mf, .int .u32 (ms : Int), .int .u64 (mt : Int), .int .i64 mv, .slice Am md.length cm, .string my, .int .u64 (stamp : Int), .int .u32 (sent : Int), .slice Ag got.length cg, .int .u64 (horizon : Int), .int .i64 whom, .int .u32 (seq : Int), .int .u64 (members : Int), .int .u64 (pe : Int), .int .i64 pr, .int .u64 (epoch : Int), .slice Ax x.length cx] := ⟨_, rfl⟩
  rw [show pkV (⟨10, src, dst, ⟨ce, cr⟩, ⟨mf, ms, mt, mv, md, my⟩, stamp, sent, got, horizon, whom, seq, members, ⟨pe, pr⟩, epoch, x⟩ : Pk) Am cm Ag cg Ax cx = .agg c from by rw [hc]; rfl]
  have A2 : Hid ((((w.alloc (.cells c 73)).alloc (.cells #[.int .i64 0, .int .i64 0, .int .i64 0, .int .u64 0, .int .i64 0, .int .i64 0, .int .u32 0, .int .u64 0, .int .i64 0, .slice none 0 0, .string ⟨#[]⟩, .int .u64 0, .int .u32 0, .slice none 0 0, .int .u64 0, .int .i64 0, .int .u32 0, .int .u64 0, .int .u64 0, .int .i64 0, .int .u64 0, .slice none 0 0] 73)).alloc (.cells #[.int .i64 0, .int .i64 0, .int .i64 0, .int .u64 0, .int .i64 0, .int .i64 0, .int .u32 0, .int .u64 0, .int .i64 0, .slice none 0 0, .string ⟨#[]⟩, .int .u64 0, .int .u32 0, .slice none 0 0, .int .u64 0, .int .i64 0, .int .u32 0, .int .u64 0, .int .u64 0, .int .i64 0, .int .u64 0, .slice none 0 0] 73)).heap[w.heap.size + 1 + 1]? = some (.cells #[.int .i64 0, .int .i64 0, .int .i64 0, .int .u64 0, .int .i64 0, .int .i64 0, .int .u32 0, .int .u64 0, .int .i64 0, .slice none 0 0, .string ⟨#[]⟩, .int .u64 0, .int .u32 0, .slice none 0 0, .int .u64 0, .int .i64 0, .int .u32 0, .int .u64 0, .int .u64 0, .int .i64 0, .int .u64 0, .slice none 0 0] 73 (0, 0))) := by
    show (((w.alloc (.cells c 73)).alloc (.cells #[.int .i64 0, .int .i64 0, .int .i64 0, .int .u64 0, .int .i64 0, .int .i64 0, .int .u32 0, .int .u64 0, .int .i64 0, .slice none 0 0, .string ⟨#[]⟩, .int .u64 0, .int .u32 0, .slice none 0 0, .int .u64 0, .int .i64 0, .int .u32 0, .int .u64 0, .int .u64 0, .int .i64 0, .int .u64 0, .slice none 0 0] 73)).alloc (.cells #[.int .i64 0, .int .i64 0, .int .i64 0, .int .u64 0, .int .i64 0, .int .i64 0, .int .u32 0, .int .u64 0, .int .i64 0, .slice none 0 0, .string ⟨#[]⟩, .int .u64 0, .int .u32 0, .slice none 0 0, .int .u64 0, .int .i64 0, .int .u32 0, .int .u64 0, .int .u64 0, .int .i64 0, .int .u64 0, .slice none 0 0] 73)).heap[w.heap.size + 1 + 1]? = _
    rw [show w.heap.size + 1 + 1 = ((w.alloc (.cells c 73)).alloc (.cells #[.int .i64 0, .int .i64 0, .int .i64 0, .int .u64 0, .int .i64 0, .int .i64 0, .int .u32 0, .int .u64 0, .int .i64 0, .slice none 0 0, .string ⟨#[]⟩, .int .u64 0, .int .u32 0, .slice none 0 0, .int .u64 0, .int .i64 0, .int .u32 0, .int .u64 0, .int .u64 0, .int .i64 0, .int .u64 0, .slice none 0 0] 73)).heap.size by simp]
    exact heap_alloc_new _ _
  obtain ⟨w2, hw2⟩ : ∃ w2, w2 = ((((w.alloc (.cells c 73)).alloc (.cells #[.int .i64 0, .int .i64 0, .int .i64 0, .int .u64 0, .int .i64 0, .int .i64 0, .int .u32 0, .int .u64 0, .int .i64 0, .slice none 0 0, .string ⟨#[]⟩, .int .u64 0, .int .u32 0, .slice none 0 0, .int .u64 0, .int .i64 0, .int .u32 0, .int .u64 0, .int .u64 0, .int .i64 0, .int .u64 0, .slice none 0 0] 73)).alloc (.cells #[.int .i64 0, .int .i64 0, .int .i64 0, .int .u64 0, .int .i64 0, .int .i64 0, .int .u32 0, .int .u64 0, .int .i64 0, .slice none 0 0, .string ⟨#[]⟩, .int .u64 0, .int .u32 0, .slice none 0 0, .int .u64 0, .int .i64 0, .int .u32 0, .int .u64 0, .int .u64 0, .int .i64 0, .int .u64 0, .slice none 0 0] 73)).setRow (w.heap.size + 1 + 1) #[.int .i64 10, .int .i64 src, .int .i64 dst, .int .u64 0, .int .i64 0, .int .i64 0, .int .u32 0, .int .u64 0, .int .i64 0, .slice none 0 0, .string ⟨#[]⟩, .int .u64 0, .int .u32 0, .slice none 0 0, .int .u64 0, .int .i64 0, .int .u32 0, .int .u64 0, .int .u64 0, .int .i64 0, .int .u64 0, .slice none 0 0]) := ⟨_, rfl⟩
  have HB2 : Hid (Below w.heap.size w w2) := Lib.hid (by rw [hw2]; exact below_setRow (below_alloc (below_alloc (below_alloc (Below.refl _ _) _) _) _) (by omega) _)
  have H02 : Hid (w2.heap[w.heap.size]? = some (.cells c 73 (0, 0))) := Lib.hid (by rw [hw2]; exact (setRow_other _ _ _ _ (by omega)).trans ((Below.heap_alloc _ _ _ (by simp; omega)).trans ((Below.heap_alloc _ _ _ (by simp)).trans (heap_alloc_new w _))))
  have H12 : Hid (w2.heap[w.heap.size + 1]? = some (.cells zpk 73 (0, 0))) := Lib.hid (by rw [hw2]; exact (setRow_other _ _ _ _ (by omega)).trans ((Below.heap_alloc _ _ _ (by simp)).trans (by rw [show w.heap.size + 1 = (w.alloc (.cells c 73)).heap.size by simp]; exact heap_alloc_new _ _)))
  have H22 : Hid (w2.heap[w.heap.size + 1 + 1]? = some (.cells #[.int .i64 10, .int .i64 src, .int .i64 dst, .int .u64 0, .int .i64 0, .int .i64 0, .int .u32 0, .int .u64 0, .int .i64 0, .slice none 0 0, .string ⟨#[]⟩, .int .u64 0, .int .u32 0, .slice none 0 0, .int .u64 0, .int .i64 0, .int .u32 0, .int .u64 0, .int .u64 0, .int .i64 0, .int .u64 0, .slice none 0 0] 73 (0, 0))) := Lib.hid (by rw [hw2]; exact setRow_heap _ _ #[.int .i64 0, .int .i64 0, .int .i64 0, .int .u64 0, .int .i64 0, .int .i64 0, .int .u32 0, .int .u64 0, .int .i64 0, .slice none 0 0, .string ⟨#[]⟩, .int .u64 0, .int .u32 0, .slice none 0 0, .int .u64 0, .int .i64 0, .int .u32 0, .int .u64 0, .int .u64 0, .int .i64 0, .int .u64 0, .slice none 0 0] _ 73 (0, 0) A2.out)
  have i0 : ((w.alloc (.cells c 73)).alloc (.cells #[.int .i64 0, .int .i64 0, .int .i64 0, .int .u64 0, .int .i64 0, .int .i64 0, .int .u32 0, .int .u64 0, .int .i64 0, .slice none 0 0, .string ⟨#[]⟩, .int .u64 0, .int .u32 0, .slice none 0 0, .int .u64 0, .int .i64 0, .int .u32 0, .int .u64 0, .int .u64 0, .int .i64 0, .int .u64 0, .slice none 0 0] 73)).cell? ⟨w.heap.size, 0, none⟩ = some (.int .i64 10) := (cell_of_row _ _ 0 _ _ _ ((Below.heap_alloc _ _ _ (by simp)).trans (heap_alloc_new w _))).trans (by rw [hc]; rfl)
  have i1 : ((w.alloc (.cells c 73)).alloc (.cells #[.int .i64 0, .int .i64 0, .int .i64 0, .int .u64 0, .int .i64 0, .int .i64 0, .int .u32 0, .int .u64 0, .int .i64 0, .slice none 0 0, .string ⟨#[]⟩, .int .u64 0, .int .u32 0, .slice none 0 0, .int .u64 0, .int .i64 0, .int .u32 0, .int .u64 0, .int .u64 0, .int .i64 0, .int .u64 0, .slice none 0 0] 73)).cell? ⟨w.heap.size, 1, none⟩ = some (.int .i64 src) := (cell_of_row _ _ 1 _ _ _ ((Below.heap_alloc _ _ _ (by simp)).trans (heap_alloc_new w _))).trans (by rw [hc]; rfl)
  have i2 : ((w.alloc (.cells c 73)).alloc (.cells #[.int .i64 0, .int .i64 0, .int .i64 0, .int .u64 0, .int .i64 0, .int .i64 0, .int .u32 0, .int .u64 0, .int .i64 0, .slice none 0 0, .string ⟨#[]⟩, .int .u64 0, .int .u32 0, .slice none 0 0, .int .u64 0, .int .i64 0, .int .u32 0, .int .u64 0, .int .u64 0, .int .i64 0, .int .u64 0, .slice none 0 0] 73)).cell? ⟨w.heap.size, 2, none⟩ = some (.int .i64 dst) := (cell_of_row _ _ 2 _ _ _ ((Below.heap_alloc _ _ _ (by simp)).trans (heap_alloc_new w _))).trans (by rw [hc]; rfl)
  have HW2 := Lib.hid hw2
  have HC := Lib.hid hc
  clear hw2 hc
  have a0 : w2.cell? ⟨w.heap.size, 0, none⟩ = some (.int .i64 10) := (cell_of_row _ _ 0 _ _ _ H02.out).trans (by rw [HC.out]; rfl)
  go_enter Try.func50, Try.ntmps50
  go_wp2_with (refine wpList_store_row rfl 73 (.tmp 3) (.tmp 11) rfl (w.heap.size + 1 + 1) #[.int .i64 10, .int .i64 src, .int .i64 dst, .int .u64 0, .int .i64 0, .int .i64 0, .int .u32 0, .int .u64 0, .int .i64 0, .slice none 0 0, .string ⟨#[]⟩, .int .u64 0, .int .u32 0, .slice none 0 0, .int .u64 0, .int .i64 0, .int .u32 0, .int .u64 0, .int .u64 0, .int .i64 0, .int .u64 0, .slice none 0 0] (by simp [Act.eval, Act.put]) (by simp [Act.eval, Act.put]) 73 #[.int .i64 0, .int .i64 0, .int .i64 0, .int .u64 0, .int .i64 0, .int .i64 0, .int .u32 0, .int .u64 0, .int .i64 0, .slice none 0 0, .string ⟨#[]⟩, .int .u64 0, .int .u32 0, .slice none 0 0, .int .u64 0, .int .i64 0, .int .u32 0, .int .u64 0, .int .u64 0, .int .i64 0, .int .u64 0, .slice none 0 0] A2.out info73 rfl (by kernel_rfl) ?_; rw [← HW2.out]; clear i0 i1 i2 A2 HW2)
  clear a0
  refine (row10 w2).mono ?_
  rintro e w9 ⟨rfl, rfl⟩
  have l0x3 : w2.cell? ⟨w.heap.size, 3, none⟩ = some (.int .u64 (ce : Int)) := (cell_of_row _ _ 3 _ _ _ H02.out).trans (by rw [HC.out]; rfl)
  have l0x4 : w2.cell? ⟨w.heap.size, 4, none⟩ = some (.int .i64 cr) := (cell_of_row _ _ 4 _ _ _ H02.out).trans (by rw [HC.out]; rfl)
  have k0x3 : w2.cell? ⟨w.heap.size + 1 + 1, 3, none⟩ = some (.int .u64 0) := cell_of_row _ _ 3 _ _ _ H22.out
  have f0x3 : w2.frozen? ⟨w.heap.size + 1 + 1, 3, none⟩ = false := by simp only [World.frozen?, H22.out]; rfl
  have k0x4 : w2.cell? ⟨w.heap.size + 1 + 1, 4, none⟩ = some (.int .i64 0) := cell_of_row _ _ 4 _ _ _ H22.out
  have f0x4 : w2.frozen? ⟨w.heap.size + 1 + 1, 4, none⟩ = false := by simp only [World.frozen?, H22.out]; rfl
  have H03 : Hid (((w2.setCell ⟨w.heap.size + 1 + 1, 3, none⟩ (.int .u64 (ce : Int))).setCell ⟨w.heap.size + 1 + 1, 4, none⟩ (.int .i64 cr)).heap[w.heap.size]? = some (.cells c 73 (0, 0))) := ((Below.heap_setCell _ ⟨w.heap.size + 1 + 1, 4, none⟩ (.int .i64 cr) (w.heap.size) (by simp; omega)).trans ((Below.heap_setCell _ ⟨w.heap.size + 1 + 1, 3, none⟩ (.int .u64 (ce : Int)) (w.heap.size) (by simp; omega)).trans H02.out))
  have H13 : Hid (((w2.setCell ⟨w.heap.size + 1 + 1, 3, none⟩ (.int .u64 (ce : Int))).setCell ⟨w.heap.size + 1 + 1, 4, none⟩ (.int .i64 cr)).heap[w.heap.size + 1]? = some (.cells zpk 73 (0, 0))) := ((Below.heap_setCell _ ⟨w.heap.size + 1 + 1, 4, none⟩ (.int .i64 cr) (w.heap.size + 1) (by simp)).trans ((Below.heap_setCell _ ⟨w.heap.size + 1 + 1, 3, none⟩ (.int .u64 (ce : Int)) (w.heap.size + 1) (by simp)).trans H12.out))
  have H23 : Hid (((w2.setCell ⟨w.heap.size + 1 + 1, 3, none⟩ (.int .u64 (ce : Int))).setCell ⟨w.heap.size + 1 + 1, 4, none⟩ (.int .i64 cr)).heap[w.heap.size + 1 + 1]? = some (.cells #[.int .i64 10, .int .i64 src, .int .i64 dst, .int .u64 (ce : Int), .int .i64 cr, .int .i64 0, .int .u32 0, .int .u64 0, .int .i64 0, .slice none 0 0, .string ⟨#[]⟩, .int .u64 0, .int .u32 0, .slice none 0 0, .int .u64 0, .int .i64 0, .int .u32 0, .int .u64 0, .int .u64 0, .int .i64 0, .int .u64 0, .slice none 0 0] 73 (0, 0))) := (blk_setj (blk_setj H22.out 3 (.int .u64 (ce : Int))) 4 (.int .i64 cr))
  have HB3 := Lib.hid ((HB2.out.setCell (p := ⟨w.heap.size + 1 + 1, 3, none⟩) (by simp; omega) (.int .u64 (ce : Int))).setCell (p := ⟨w.heap.size + 1 + 1, 4, none⟩) (by simp; omega) (.int .i64 cr))
  go_wp2_with fail
  clear l0x3 l0x4 k0x3 f0x3 k0x4 f0x4
  clear H02 H12 H22 HB2
  generalize ((w2.setCell ⟨w.heap.size + 1 + 1, 3, none⟩ (.int .u64 (ce : Int))).setCell ⟨w.heap.size + 1 + 1, 4, none⟩ (.int .i64 cr)) = w3 at *
  refine (has_is ⟨#[99]⟩ 109 false (by decide) (by decide) w3).mono ?_
  rintro e w9 ⟨rfl, rfl⟩
  go_wp2_with fail
  refine (has_is ⟨#[99]⟩ 115 false (by decide) (by decide) w3).mono ?_
  rintro e w9 ⟨rfl, rfl⟩
  go_wp2_with fail
  refine (has_is ⟨#[99]⟩ 119 false (by decide) (by decide) w3).mono ?_
  rintro e w9 ⟨rfl, rfl⟩
  go_wp2_with fail
  refine (has_is ⟨#[99]⟩ 113 false (by decide) (by decide) w3).mono ?_
  rintro e w9 ⟨rfl, rfl⟩
  go_wp2_with fail
  refine (has_is ⟨#[99]⟩ 112 false (by decide) (by decide) w3).mono ?_
  rintro e w9 ⟨rfl, rfl⟩
  go_wp2_with fail
  refine (has_is ⟨#[99]⟩ 98 false (by decide) (by decide) w3).mono ?_
  rintro e w9 ⟨rfl, rfl⟩
  go_wp2_with fail
  refine (has_is ⟨#[99]⟩ 120 false (by decide) (by decide) w3).mono ?_
  rintro e w9 ⟨rfl, rfl⟩
  go_wp2_with fail
  refine (has_is ⟨#[99]⟩ 108 false (by decide) (by decide) w3).mono ?_
  rintro e w9 ⟨rfl, rfl⟩
  go_wp2_with (first | (refine wpList_load_row rfl 73 (.tmp 3) rfl (w.heap.size + 1 + 1) (by simp [Act.eval, Act.put]) 73 _ (0, 0) _ H23.out Try.underlying73 rfl info73 ?_) | (refine wpList_store_row rfl 73 (.tmp 2) (.tmp 88) rfl (w.heap.size + 1) #[.int .i64 10, .int .i64 src, .int .i64 dst, .int .u64 (ce : Int), .int .i64 cr, .int .i64 0, .int .u32 0, .int .u64 0, .int .i64 0, .slice none 0 0, .string ⟨#[]⟩, .int .u64 0, .int .u32 0, .slice none 0 0, .int .u64 0, .int .i64 0, .int .u32 0, .int .u64 0, .int .u64 0, .int .i64 0, .int .u64 0, .slice none 0 0] (by simp [Act.eval, Act.put]) (by simp [Act.eval, Act.put]) 73 zpk H13.out info73 rfl (by kernel_rfl) ?_))
  have hr := setRow_heap w3 (w.heap.size + 1) zpk #[.int .i64 10, .int .i64 src, .int .i64 dst, .int .u64 (ce : Int), .int .i64 cr, .int .i64 0, .int .u32 0, .int .u64 0, .int .i64 0, .slice none 0 0, .string ⟨#[]⟩, .int .u64 0, .int .u32 0, .slice none 0 0, .int .u64 0, .int .i64 0, .int .u32 0, .int .u64 0, .int .u64 0, .int .i64 0, .int .u64 0, .slice none 0 0] 73 (0, 0) H13.out
  refine bodyPost_ret (results_cell_row Try.results50 _ _ _ _ _ _ _ rfl hr Try.underlying73 rfl info73) rfl ?_
  exact ⟨rfl, below_setRow HB3.out (by omega) _⟩
set_option maxHeartbeats 3200000 in
set_option maxRecDepth 8000 in
theorem rclean11 (p : Pk) (Am : Option Addr) (cm : Nat) (Ag : Option Addr) (cg : Nat) (Ax : Option Addr) (cx : Nat) (w : World) (hk : p.kind = 11) :
    Calls Try.prog 50 #[pkV p Am cm Ag cg Ax cx] w fun e w' => e = .returned (pkV (cleanF p) none 0 none 0 none 0) ∧ Below w.heap.size w w' := by
  obtain ⟨kind, src, dst, ⟨ce, cr⟩, ⟨mf, ms, mt, mv, md, my⟩, stamp, sent, got, horizon, whom, seq, members, ⟨pe, pr⟩, epoch, x⟩ := p
  dsimp only at *
  obtain rfl : kind = 11 := hk
  have hq : cleanF (⟨11, src, dst, ⟨ce, cr⟩, ⟨mf, ms, mt, mv, md, my⟩, stamp, sent, got, horizon, whom, seq, members, ⟨pe, pr⟩, epoch, x⟩ : Pk) = (⟨11, src, dst, ⟨ce, cr⟩, Ms.zero, 0, 0, [], 0, 0, 0, 0, Cf.zero, 0, []⟩ : Pk) := by unfold cleanF; simp
  rw [hq]
  clear hq
  obtain ⟨c, hc⟩ : ∃ c : Array Value, c = #[.int .i64 11, .int .i64 src, .int .i64 dst, .int .u64 (ce : Int), .int .i64 cr, .int .i64 mf, .int .u32 (ms : Int), .int .u64 (mt : Int), .int .i64 mv, .slice Am md.length cm, .string my, .int .u64 (stamp : Int), .int .u32 (sent : Int), .slice Ag got.length cg, .int .u64 (horizon : Int), .int .i64 whom, .int .u32 (seq : Int), .int .u64 (members : Int), .int .u64 (pe : Int), .int .i64 pr, .int .u64 (epoch : Int), .slice Ax x.length cx] := ⟨_, rfl⟩
  rw [show pkV (⟨11, src, dst, ⟨ce, cr⟩, ⟨mf, ms, mt, mv, md, my⟩, stamp, sent, got, horizon, whom, seq, members, ⟨pe, pr⟩, epoch, x⟩ : Pk) Am cm Ag cg Ax cx = .agg c from by rw [hc]; rfl]
  have A2 : Hid ((((w.alloc (.cells c 73)).alloc (.cells #[.int .i64 0, .int .i64 0, .int .i64 0, .int .u64 0, .int .i64 0, .int .i64 0, .int .u32 0, .int .u64 0, .int .i64 0, .slice none 0 0, .string ⟨#[]⟩, .int .u64 0, .int .u32 0, .slice none 0 0, .int .u64 0, .int .i64 0, .int .u32 0, .int .u64 0, .int .u64 0, .int .i64 0, .int .u64 0, .slice none 0 0] 73)).alloc (.cells #[.int .i64 0, .int .i64 0, .int .i64 0, .int .u64 0, .int .i64 0, .int .i64 0, .int .u32 0, .int .u64 0, .int .i64 0, .slice none 0 0, .string ⟨#[]⟩, .int .u64 0, .int .u32 0, .slice none 0 0, .int .u64 0, .int .i64 0, .int .u32 0, .int .u64 0, .int .u64 0, .int .i64 0, .int .u64 0, .slice none 0 0] 73)).heap[w.heap.size + 1 + 1]? = some (.cells #[.int .i64 0, .int .i64 0, .int .i64 0, .int .u64 0, .int .i64 0, .int .i64 0, .int .u32 0, .int .u64 0, .int .i64 0, .slice none 0 0, .string ⟨#[]⟩, .int .u64 0, .int .u32 0, .slice none 0 0, .int .u64 0, .int .i64 0, .int .u32 0, .int .u64 0, .int .u64 0, .int .i64 0, .int .u64 0, .slice none 0 0] 73 (0, 0))) := by
    show (((w.alloc (.cells c 73)).alloc (.cells #[.int .i64 0, .int .i64 0, .int .i64 0, .int .u64 0, .int .i64 0, .int .i64 0, .int .u32 0, .int .u64 0, .int .i64 0, .slice none 0 0, .string ⟨#[]⟩, .int .u64 0, .int .u32 0, .slice none 0 0, .int .u64 0, .int .i64 0, .int .u32 0, .int .u64 0, .int .u64 0, .int .i64 0, .int .u64 0, .slice none 0 0] 73)).alloc (.cells #[.int .i64 0, .int .i64 0, .int .i64 0, .int .u64 0, .int .i64 0, .int .i64 0, .int .u32 0, .int .u64 0, .int .i64 0, .slice none 0 0, .string ⟨#[]⟩, .int .u64 0, .int .u32 0, .slice none 0 0, .int .u64 0, .int .i64 0, .int .u32 0, .int .u64 0, .int .u64 0, .int .i64 0, .int .u64 0, .slice none 0 0] 73)).heap[w.heap.size + 1 + 1]? = _
    rw [show w.heap.size + 1 + 1 = ((w.alloc (.cells c 73)).alloc (.cells #[.int .i64 0, .int .i64 0, .int .i64 0, .int .u64 0, .int .i64 0, .int .i64 0, .int .u32 0, .int .u64 0, .int .i64 0, .slice none 0 0, .string ⟨#[]⟩, .int .u64 0, .int .u32 0, .slice none 0 0, .int .u64 0, .int .i64 0, .int .u32 0, .int .u64 0, .int .u64 0, .int .i64 0, .int .u64 0, .slice none 0 0] 73)).heap.size by simp]
    exact heap_alloc_new _ _
  obtain ⟨w2, hw2⟩ : ∃ w2, w2 = ((((w.alloc (.cells c 73)).alloc (.cells #[.int .i64 0, .int .i64 0, .int .i64 0, .int .u64 0, .int .i64 0, .int .i64 0, .int .u32 0, .int .u64 0, .int .i64 0, .slice none 0 0, .string ⟨#[]⟩, .int .u64 0, .int .u32 0, .slice none 0 0, .int .u64 0, .int .i64 0, .int .u32 0, .int .u64 0, .int .u64 0, .int .i64 0, .int .u64 0, .slice none 0 0] 73)).alloc (.cells #[.int .i64 0, .int .i64 0, .int .i64 0, .int .u64 0, .int .i64 0, .int .i64 0, .int .u32 0, .int .u64 0, .int .i64 0, .slice none 0 0, .string ⟨#[]⟩, .int .u64 0, .int .u32 0, .slice none 0 0, .int .u64 0, .int .i64 0, .int .u32 0, .int .u64 0, .int .u64 0, .int .i64 0, .int .u64 0, .slice none 0 0] 73)).setRow (w.heap.size + 1 + 1) #[.int .i64 11, .int .i64 src, .int .i64 dst, .int .u64 0, .int .i64 0, .int .i64 0, .int .u32 0, .int .u64 0, .int .i64 0, .slice none 0 0, .string ⟨#[]⟩, .int .u64 0, .int .u32 0, .slice none 0 0, .int .u64 0, .int .i64 0, .int .u32 0, .int .u64 0, .int .u64 0, .int .i64 0, .int .u64 0, .slice none 0 0]) := ⟨_, rfl⟩
  have HB2 : Hid (Below w.heap.size w w2) := Lib.hid (by rw [hw2]; exact below_setRow (below_alloc (below_alloc (below_alloc (Below.refl _ _) _) _) _) (by omega) _)
  have H02 : Hid (w2.heap[w.heap.size]? = some (.cells c 73 (0, 0))) := Lib.hid (by rw [hw2]; exact (setRow_other _ _ _ _ (by omega)).trans ((Below.heap_alloc _ _ _ (by simp; omega)).trans ((Below.heap_alloc _ _ _ (by simp)).trans (heap_alloc_new w _))))
  have H12 : Hid (w2.heap[w.heap.size + 1]? = some (.cells zpk 73 (0, 0))) := Lib.hid (by rw [hw2]; exact (setRow_other _ _ _ _ (by omega)).trans ((Below.heap_alloc _ _ _ (by simp)).trans (by rw [show w.heap.size + 1 = (w.alloc (.cells c 73)).heap.size by simp]; exact heap_alloc_new _ _)))
  have H22 : Hid (w2.heap[w.heap.size + 1 + 1]? = some (.cells #[.int .i64 11, .int .i64 src, .int .i64 dst, .int .u64 0, .int .i64 0, .int .i64 0, .int .u32 0, .int .u64 0, .int .i64 0, .slice none 0 0, .string ⟨#[]⟩, .int .u64 0, .int .u32 0, .slice none 0 0, .int .u64 0, .int .i64 0, .int .u32 0, .int .u64 0, .int .u64 0, .int .i64 0, .int .u64 0, .slice none 0 0] 73 (0, 0))) := Lib.hid (by rw [hw2]; exact setRow_heap _ _ #[.int .i64 0, .int .i64 0, .int .i64 0, .int .u64 0, .int .i64 0, .int .i64 0, .int .u32 0, .int .u64 0, .int .i64 0, .slice none 0 0, .string ⟨#[]⟩, .int .u64 0, .int .u32 0, .slice none 0 0, .int .u64 0, .int .i64 0, .int .u32 0, .int .u64 0, .int .u64 0, .int .i64 0, .int .u64 0, .slice none 0 0] _ 73 (0, 0) A2.out)
  have i0 : ((w.alloc (.cells c 73)).alloc (.cells #[.int .i64 0, .int .i64 0, .int .i64 0, .int .u64 0, .int .i64 0, .int .i64 0, .int .u32 0, .int .u64 0, .int .i64 0, .slice none 0 0, .string ⟨#[]⟩, .int .u64 0, .int .u32 0, .slice none 0 0, .int .u64 0, .int .i64 0, .int .u32 0, .int .u64 0, .int .u64 0, .int .i64 0, .int .u64 0, .slice none 0 0] 73)).cell? ⟨w.heap.size, 0, none⟩ = some (.int .i64 11) := (cell_of_row _ _ 0 _ _ _ ((Below.heap_alloc _ _ _ (by simp)).trans (heap_alloc_new w _))).trans (by rw [hc]; rfl)
  have i1 : ((w.alloc (.cells c 73)).alloc (.cells #[.int .i64 0, .int .i64 0, .int .i64 0, .int .u64 0, .int .i64 0, .int .i64 0, .int .u32 0, .int .u64 0, .int .i64 0, .slice none 0 0, .string ⟨#[]⟩, .int .u64 0, .int .u32 0, .slice none 0 0, .int .u64 0, .int .i64 0, .int .u32 0, .int .u64 0, .int .u64 0, .int .i64 0, .int .u64 0, .slice none 0 0] 73)).cell? ⟨w.heap.size, 1, none⟩ = some (.int .i64 src) := (cell_of_row _ _ 1 _ _ _ ((Below.heap_alloc _ _ _ (by simp)).trans (heap_alloc_new w _))).trans (by rw [hc]; rfl)
  have i2 : ((w.alloc (.cells c 73)).alloc (.cells #[.int .i64 0, .int .i64 0, .int .i64 0, .int .u64 0, .int .i64 0, .int .i64 0, .int .u32 0, .int .u64 0, .int .i64 0, .slice none 0 0, .string ⟨#[]⟩, .int .u64 0, .int .u32 0, .slice none 0 0, .int .u64 0, .int .i64 0, .int .u32 0, .int .u64 0, .int .u64 0, .int .i64 0, .int .u64 0, .slice none 0 0] 73)).cell? ⟨w.heap.size, 2, none⟩ = some (.int .i64 dst) := (cell_of_row _ _ 2 _ _ _ ((Below.heap_alloc _ _ _ (by simp)).trans (heap_alloc_new w _))).trans (by rw [hc]; rfl)
  have HW2 := Lib.hid hw2
  have HC := Lib.hid hc
  clear hw2 hc
  have a0 : w2.cell? ⟨w.heap.size, 0, none⟩ = some (.int .i64 11) := (cell_of_row _ _ 0 _ _ _ H02.out).trans (by rw [HC.out]; rfl)
  go_enter Try.func50, Try.ntmps50
  go_wp2_with (refine wpList_store_row rfl 73 (.tmp 3) (.tmp 11) rfl (w.heap.size + 1 + 1) #[.int .i64 11, .int .i64 src, .int .i64 dst, .int .u64 0, .int .i64 0, .int .i64 0, .int .u32 0, .int .u64 0, .int .i64 0, .slice none 0 0, .string ⟨#[]⟩, .int .u64 0, .int .u32 0, .slice none 0 0, .int .u64 0, .int .i64 0, .int .u32 0, .int .u64 0, .int .u64 0, .int .i64 0, .int .u64 0, .slice none 0 0] (by simp [Act.eval, Act.put]) (by simp [Act.eval, Act.put]) 73 #[.int .i64 0, .int .i64 0, .int .i64 0, .int .u64 0, .int .i64 0, .int .i64 0, .int .u32 0, .int .u64 0, .int .i64 0, .slice none 0 0, .string ⟨#[]⟩, .int .u64 0, .int .u32 0, .slice none 0 0, .int .u64 0, .int .i64 0, .int .u32 0, .int .u64 0, .int .u64 0, .int .i64 0, .int .u64 0, .slice none 0 0] A2.out info73 rfl (by kernel_rfl) ?_; rw [← HW2.out]; clear i0 i1 i2 A2 HW2)
  clear a0
  refine (row11 w2).mono ?_
  rintro e w9 ⟨rfl, rfl⟩
  have l0x3 : w2.cell? ⟨w.heap.size, 3, none⟩ = some (.int .u64 (ce : Int)) := (cell_of_row _ _ 3 _ _ _ H02.out).trans (by rw [HC.out]; rfl)
  have l0x4 : w2.cell? ⟨w.heap.size, 4, none⟩ = some (.int .i64 cr) := (cell_of_row _ _ 4 _ _ _ H02.out).trans (by rw [HC.out]; rfl)
  have k0x3 : w2.cell? ⟨w.heap.size + 1 + 1, 3, none⟩ = some (.int .u64 0) := cell_of_row _ _ 3 _ _ _ H22.out
  have f0x3 : w2.frozen? ⟨w.heap.size + 1 + 1, 3, none⟩ = false := by simp only [World.frozen?, H22.out]; rfl
  have k0x4 : w2.cell? ⟨w.heap.size + 1 + 1, 4, none⟩ = some (.int .i64 0) := cell_of_row _ _ 4 _ _ _ H22.out
  have f0x4 : w2.frozen? ⟨w.heap.size + 1 + 1, 4, none⟩ = false := by simp only [World.frozen?, H22.out]; rfl
  have H03 : Hid (((w2.setCell ⟨w.heap.size + 1 + 1, 3, none⟩ (.int .u64 (ce : Int))).setCell ⟨w.heap.size + 1 + 1, 4, none⟩ (.int .i64 cr)).heap[w.heap.size]? = some (.cells c 73 (0, 0))) := ((Below.heap_setCell _ ⟨w.heap.size + 1 + 1, 4, none⟩ (.int .i64 cr) (w.heap.size) (by simp; omega)).trans ((Below.heap_setCell _ ⟨w.heap.size + 1 + 1, 3, none⟩ (.int .u64 (ce : Int)) (w.heap.size) (by simp; omega)).trans H02.out))
  have H13 : Hid (((w2.setCell ⟨w.heap.size + 1 + 1, 3, none⟩ (.int .u64 (ce : Int))).setCell ⟨w.heap.size + 1 + 1, 4, none⟩ (.int .i64 cr)).heap[w.heap.size + 1]? = some (.cells zpk 73 (0, 0))) := ((Below.heap_setCell _ ⟨w.heap.size + 1 + 1, 4, none⟩ (.int .i64 cr) (w.heap.size + 1) (by simp)).trans ((Below.heap_setCell _ ⟨w.heap.size + 1 + 1, 3, none⟩ (.int .u64 (ce : Int)) (w.heap.size + 1) (by simp)).trans H12.out))
  have H23 : Hid (((w2.setCell ⟨w.heap.size + 1 + 1, 3, none⟩ (.int .u64 (ce : Int))).setCell ⟨w.heap.size + 1 + 1, 4, none⟩ (.int .i64 cr)).heap[w.heap.size + 1 + 1]? = some (.cells #[.int .i64 11, .int .i64 src, .int .i64 dst, .int .u64 (ce : Int), .int .i64 cr, .int .i64 0, .int .u32 0, .int .u64 0, .int .i64 0, .slice none 0 0, .string ⟨#[]⟩, .int .u64 0, .int .u32 0, .slice none 0 0, .int .u64 0, .int .i64 0, .int .u32 0, .int .u64 0, .int .u64 0, .int .i64 0, .int .u64 0, .slice none 0 0] 73 (0, 0))) := (blk_setj (blk_setj H22.out 3 (.int .u64 (ce : Int))) 4 (.int .i64 cr))
  have HB3 := Lib.hid ((HB2.out.setCell (p := ⟨w.heap.size + 1 + 1, 3, none⟩) (by simp; omega) (.int .u64 (ce : Int))).setCell (p := ⟨w.heap.size + 1 + 1, 4, none⟩) (by simp; omega) (.int .i64 cr))
  go_wp2_with fail
  clear l0x3 l0x4 k0x3 f0x3 k0x4 f0x4
  clear H02 H12 H22 HB2
  generalize ((w2.setCell ⟨w.heap.size + 1 + 1, 3, none⟩ (.int .u64 (ce : Int))).setCell ⟨w.heap.size + 1 + 1, 4, none⟩ (.int .i64 cr)) = w3 at *
  refine (has_is ⟨#[99]⟩ 109 false (by decide) (by decide) w3).mono ?_
  rintro e w9 ⟨rfl, rfl⟩
  go_wp2_with fail
  refine (has_is ⟨#[99]⟩ 115 false (by decide) (by decide) w3).mono ?_
  rintro e w9 ⟨rfl, rfl⟩
  go_wp2_with fail
  refine (has_is ⟨#[99]⟩ 119 false (by decide) (by decide) w3).mono ?_
  rintro e w9 ⟨rfl, rfl⟩
  go_wp2_with fail
  refine (has_is ⟨#[99]⟩ 113 false (by decide) (by decide) w3).mono ?_
  rintro e w9 ⟨rfl, rfl⟩
  go_wp2_with fail
  refine (has_is ⟨#[99]⟩ 112 false (by decide) (by decide) w3).mono ?_
  rintro e w9 ⟨rfl, rfl⟩
  go_wp2_with fail
  refine (has_is ⟨#[99]⟩ 98 false (by decide) (by decide) w3).mono ?_
  rintro e w9 ⟨rfl, rfl⟩
  go_wp2_with fail
  refine (has_is ⟨#[99]⟩ 120 false (by decide) (by decide) w3).mono ?_
  rintro e w9 ⟨rfl, rfl⟩
  go_wp2_with fail
  refine (has_is ⟨#[99]⟩ 108 false (by decide) (by decide) w3).mono ?_
  rintro e w9 ⟨rfl, rfl⟩
  go_wp2_with (first | (refine wpList_load_row rfl 73 (.tmp 3) rfl (w.heap.size + 1 + 1) (by simp [Act.eval, Act.put]) 73 _ (0, 0) _ H23.out Try.underlying73 rfl info73 ?_) | (refine wpList_store_row rfl 73 (.tmp 2) (.tmp 88) rfl (w.heap.size + 1) #[.int .i64 11, .int .i64 src, .int .i64 dst, .int .u64 (ce : Int), .int .i64 cr, .int .i64 0, .int .u32 0, .int .u64 0, .int .i64 0, .slice none 0 0, .string ⟨#[]⟩, .int .u64 0, .int .u32 0, .slice none 0 0, .int .u64 0, .int .i64 0, .int .u32 0, .int .u64 0, .int .u64 0, .int .i64 0, .int .u64 0, .slice none 0 0] (by simp [Act.eval, Act.put]) (by simp [Act.eval, Act.put]) 73 zpk H13.out info73 rfl (by kernel_rfl) ?_))
  have hr := setRow_heap w3 (w.heap.size + 1) zpk #[.int .i64 11, .int .i64 src, .int .i64 dst, .int .u64 (ce : Int), .int .i64 cr, .int .i64 0, .int .u32 0, .int .u64 0, .int .i64 0, .slice none 0 0, .string ⟨#[]⟩, .int .u64 0, .int .u32 0, .slice none 0 0, .int .u64 0, .int .i64 0, .int .u32 0, .int .u64 0, .int .u64 0, .int .i64 0, .int .u64 0, .slice none 0 0] 73 (0, 0) H13.out
  refine bodyPost_ret (results_cell_row Try.results50 _ _ _ _ _ _ _ rfl hr Try.underlying73 rfl info73) rfl ?_
  exact ⟨rfl, below_setRow HB3.out (by omega) _⟩
set_option maxHeartbeats 3200000 in
set_option maxRecDepth 8000 in
theorem rclean99 (p : Pk) (Am : Option Addr) (cm : Nat) (Ag : Option Addr) (cg : Nat) (Ax : Option Addr) (cx : Nat) (w : World) (hk : 11 < p.kind) :
    Calls Try.prog 50 #[pkV p Am cm Ag cg Ax cx] w fun e w' => e = .returned (pkV (cleanF p) none 0 none 0 none 0) ∧ Below w.heap.size w w' := by
  obtain ⟨kind, src, dst, ⟨ce, cr⟩, ⟨mf, ms, mt, mv, md, my⟩, stamp, sent, got, horizon, whom, seq, members, ⟨pe, pr⟩, epoch, x⟩ := p
  dsimp only at *
  have hda : decide (kind < 1) = false := by simp; omega
  have hdb : decide (11 < kind) = true := by simp; omega
  have hq : cleanF (⟨kind, src, dst, ⟨ce, cr⟩, ⟨mf, ms, mt, mv, md, my⟩, stamp, sent, got, horizon, whom, seq, members, ⟨pe, pr⟩, epoch, x⟩ : Pk) = (⟨kind, src, dst, Cf.zero, Ms.zero, 0, 0, [], 0, 0, 0, 0, Cf.zero, 0, []⟩ : Pk) := by unfold cleanF; simp [show ¬ kind = 1 by omega, show ¬ kind = 2 by omega, show ¬ kind = 3 by omega, show ¬ kind = 4 by omega, show ¬ kind = 5 by omega, show ¬ kind = 6 by omega, show ¬ kind = 7 by omega, show ¬ kind = 8 by omega, show ¬ kind = 9 by omega, show ¬ (1 ≤ kind ∧ kind ≤ 11) by omega]
  rw [hq]
  clear hq
  obtain ⟨c, hc⟩ : ∃ c : Array Value, c = #[.int .i64 kind, .int .i64 src, .int .i64 dst, .int .u64 (ce : Int), .int .i64 cr, .int .i64 mf, .int .u32 (ms : Int), .int .u64 (mt : Int), .int .i64 mv, .slice Am md.length cm, .string my, .int .u64 (stamp : Int), .int .u32 (sent : Int), .slice Ag got.length cg, .int .u64 (horizon : Int), .int .i64 whom, .int .u32 (seq : Int), .int .u64 (members : Int), .int .u64 (pe : Int), .int .i64 pr, .int .u64 (epoch : Int), .slice Ax x.length cx] := ⟨_, rfl⟩
  rw [show pkV (⟨kind, src, dst, ⟨ce, cr⟩, ⟨mf, ms, mt, mv, md, my⟩, stamp, sent, got, horizon, whom, seq, members, ⟨pe, pr⟩, epoch, x⟩ : Pk) Am cm Ag cg Ax cx = .agg c from by rw [hc]; rfl]
  have A2 : Hid ((((w.alloc (.cells c 73)).alloc (.cells #[.int .i64 0, .int .i64 0, .int .i64 0, .int .u64 0, .int .i64 0, .int .i64 0, .int .u32 0, .int .u64 0, .int .i64 0, .slice none 0 0, .string ⟨#[]⟩, .int .u64 0, .int .u32 0, .slice none 0 0, .int .u64 0, .int .i64 0, .int .u32 0, .int .u64 0, .int .u64 0, .int .i64 0, .int .u64 0, .slice none 0 0] 73)).alloc (.cells #[.int .i64 0, .int .i64 0, .int .i64 0, .int .u64 0, .int .i64 0, .int .i64 0, .int .u32 0, .int .u64 0, .int .i64 0, .slice none 0 0, .string ⟨#[]⟩, .int .u64 0, .int .u32 0, .slice none 0 0, .int .u64 0, .int .i64 0, .int .u32 0, .int .u64 0, .int .u64 0, .int .i64 0, .int .u64 0, .slice none 0 0] 73)).heap[w.heap.size + 1 + 1]? = some (.cells #[.int .i64 0, .int .i64 0, .int .i64 0, .int .u64 0, .int .i64 0, .int .i64 0, .int .u32 0, .int .u64 0, .int .i64 0, .slice none 0 0, .string ⟨#[]⟩, .int .u64 0, .int .u32 0, .slice none 0 0, .int .u64 0, .int .i64 0, .int .u32 0, .int .u64 0, .int .u64 0, .int .i64 0, .int .u64 0, .slice none 0 0] 73 (0, 0))) := by
    show (((w.alloc (.cells c 73)).alloc (.cells #[.int .i64 0, .int .i64 0, .int .i64 0, .int .u64 0, .int .i64 0, .int .i64 0, .int .u32 0, .int .u64 0, .int .i64 0, .slice none 0 0, .string ⟨#[]⟩, .int .u64 0, .int .u32 0, .slice none 0 0, .int .u64 0, .int .i64 0, .int .u32 0, .int .u64 0, .int .u64 0, .int .i64 0, .int .u64 0, .slice none 0 0] 73)).alloc (.cells #[.int .i64 0, .int .i64 0, .int .i64 0, .int .u64 0, .int .i64 0, .int .i64 0, .int .u32 0, .int .u64 0, .int .i64 0, .slice none 0 0, .string ⟨#[]⟩, .int .u64 0, .int .u32 0, .slice none 0 0, .int .u64 0, .int .i64 0, .int .u32 0, .int .u64 0, .int .u64 0, .int .i64 0, .int .u64 0, .slice none 0 0] 73)).heap[w.heap.size + 1 + 1]? = _
    rw [show w.heap.size + 1 + 1 = ((w.alloc (.cells c 73)).alloc (.cells #[.int .i64 0, .int .i64 0, .int .i64 0, .int .u64 0, .int .i64 0, .int .i64 0, .int .u32 0, .int .u64 0, .int .i64 0, .slice none 0 0, .string ⟨#[]⟩, .int .u64 0, .int .u32 0, .slice none 0 0, .int .u64 0, .int .i64 0, .int .u32 0, .int .u64 0, .int .u64 0, .int .i64 0, .int .u64 0, .slice none 0 0] 73)).heap.size by simp]
    exact heap_alloc_new _ _
  obtain ⟨w2, hw2⟩ : ∃ w2, w2 = ((((w.alloc (.cells c 73)).alloc (.cells #[.int .i64 0, .int .i64 0, .int .i64 0, .int .u64 0, .int .i64 0, .int .i64 0, .int .u32 0, .int .u64 0, .int .i64 0, .slice none 0 0, .string ⟨#[]⟩, .int .u64 0, .int .u32 0, .slice none 0 0, .int .u64 0, .int .i64 0, .int .u32 0, .int .u64 0, .int .u64 0, .int .i64 0, .int .u64 0, .slice none 0 0] 73)).alloc (.cells #[.int .i64 0, .int .i64 0, .int .i64 0, .int .u64 0, .int .i64 0, .int .i64 0, .int .u32 0, .int .u64 0, .int .i64 0, .slice none 0 0, .string ⟨#[]⟩, .int .u64 0, .int .u32 0, .slice none 0 0, .int .u64 0, .int .i64 0, .int .u32 0, .int .u64 0, .int .u64 0, .int .i64 0, .int .u64 0, .slice none 0 0] 73)).setRow (w.heap.size + 1 + 1) #[.int .i64 kind, .int .i64 src, .int .i64 dst, .int .u64 0, .int .i64 0, .int .i64 0, .int .u32 0, .int .u64 0, .int .i64 0, .slice none 0 0, .string ⟨#[]⟩, .int .u64 0, .int .u32 0, .slice none 0 0, .int .u64 0, .int .i64 0, .int .u32 0, .int .u64 0, .int .u64 0, .int .i64 0, .int .u64 0, .slice none 0 0]) := ⟨_, rfl⟩
  have HB2 : Hid (Below w.heap.size w w2) := Lib.hid (by rw [hw2]; exact below_setRow (below_alloc (below_alloc (below_alloc (Below.refl _ _) _) _) _) (by omega) _)
  have H02 : Hid (w2.heap[w.heap.size]? = some (.cells c 73 (0, 0))) := Lib.hid (by rw [hw2]; exact (setRow_other _ _ _ _ (by omega)).trans ((Below.heap_alloc _ _ _ (by simp; omega)).trans ((Below.heap_alloc _ _ _ (by simp)).trans (heap_alloc_new w _))))
  have H12 : Hid (w2.heap[w.heap.size + 1]? = some (.cells zpk 73 (0, 0))) := Lib.hid (by rw [hw2]; exact (setRow_other _ _ _ _ (by omega)).trans ((Below.heap_alloc _ _ _ (by simp)).trans (by rw [show w.heap.size + 1 = (w.alloc (.cells c 73)).heap.size by simp]; exact heap_alloc_new _ _)))
  have H22 : Hid (w2.heap[w.heap.size + 1 + 1]? = some (.cells #[.int .i64 kind, .int .i64 src, .int .i64 dst, .int .u64 0, .int .i64 0, .int .i64 0, .int .u32 0, .int .u64 0, .int .i64 0, .slice none 0 0, .string ⟨#[]⟩, .int .u64 0, .int .u32 0, .slice none 0 0, .int .u64 0, .int .i64 0, .int .u32 0, .int .u64 0, .int .u64 0, .int .i64 0, .int .u64 0, .slice none 0 0] 73 (0, 0))) := Lib.hid (by rw [hw2]; exact setRow_heap _ _ #[.int .i64 0, .int .i64 0, .int .i64 0, .int .u64 0, .int .i64 0, .int .i64 0, .int .u32 0, .int .u64 0, .int .i64 0, .slice none 0 0, .string ⟨#[]⟩, .int .u64 0, .int .u32 0, .slice none 0 0, .int .u64 0, .int .i64 0, .int .u32 0, .int .u64 0, .int .u64 0, .int .i64 0, .int .u64 0, .slice none 0 0] _ 73 (0, 0) A2.out)
  have i0 : ((w.alloc (.cells c 73)).alloc (.cells #[.int .i64 0, .int .i64 0, .int .i64 0, .int .u64 0, .int .i64 0, .int .i64 0, .int .u32 0, .int .u64 0, .int .i64 0, .slice none 0 0, .string ⟨#[]⟩, .int .u64 0, .int .u32 0, .slice none 0 0, .int .u64 0, .int .i64 0, .int .u32 0, .int .u64 0, .int .u64 0, .int .i64 0, .int .u64 0, .slice none 0 0] 73)).cell? ⟨w.heap.size, 0, none⟩ = some (.int .i64 kind) := (cell_of_row _ _ 0 _ _ _ ((Below.heap_alloc _ _ _ (by simp)).trans (heap_alloc_new w _))).trans (by rw [hc]; rfl)
  have i1 : ((w.alloc (.cells c 73)).alloc (.cells #[.int .i64 0, .int .i64 0, .int .i64 0, .int .u64 0, .int .i64 0, .int .i64 0, .int .u32 0, .int .u64 0, .int .i64 0, .slice none 0 0, .string ⟨#[]⟩, .int .u64 0, .int .u32 0, .slice none 0 0, .int .u64 0, .int .i64 0, .int .u32 0, .int .u64 0, .int .u64 0, .int .i64 0, .int .u64 0, .slice none 0 0] 73)).cell? ⟨w.heap.size, 1, none⟩ = some (.int .i64 src) := (cell_of_row _ _ 1 _ _ _ ((Below.heap_alloc _ _ _ (by simp)).trans (heap_alloc_new w _))).trans (by rw [hc]; rfl)
  have i2 : ((w.alloc (.cells c 73)).alloc (.cells #[.int .i64 0, .int .i64 0, .int .i64 0, .int .u64 0, .int .i64 0, .int .i64 0, .int .u32 0, .int .u64 0, .int .i64 0, .slice none 0 0, .string ⟨#[]⟩, .int .u64 0, .int .u32 0, .slice none 0 0, .int .u64 0, .int .i64 0, .int .u32 0, .int .u64 0, .int .u64 0, .int .i64 0, .int .u64 0, .slice none 0 0] 73)).cell? ⟨w.heap.size, 2, none⟩ = some (.int .i64 dst) := (cell_of_row _ _ 2 _ _ _ ((Below.heap_alloc _ _ _ (by simp)).trans (heap_alloc_new w _))).trans (by rw [hc]; rfl)
  have HW2 := Lib.hid hw2
  have HC := Lib.hid hc
  clear hw2 hc
  have a0 : w2.cell? ⟨w.heap.size, 0, none⟩ = some (.int .i64 kind) := (cell_of_row _ _ 0 _ _ _ H02.out).trans (by rw [HC.out]; rfl)
  go_enter Try.func50, Try.ntmps50
  go_wp2_with (first | (refine wpList_store_row rfl 73 (.tmp 3) (.tmp 11) rfl (w.heap.size + 1 + 1) #[.int .i64 kind, .int .i64 src, .int .i64 dst, .int .u64 0, .int .i64 0, .int .i64 0, .int .u32 0, .int .u64 0, .int .i64 0, .slice none 0 0, .string ⟨#[]⟩, .int .u64 0, .int .u32 0, .slice none 0 0, .int .u64 0, .int .i64 0, .int .u32 0, .int .u64 0, .int .u64 0, .int .i64 0, .int .u64 0, .slice none 0 0] (by simp [Act.eval, Act.put]) (by simp [Act.eval, Act.put]) 73 #[.int .i64 0, .int .i64 0, .int .i64 0, .int .u64 0, .int .i64 0, .int .i64 0, .int .u32 0, .int .u64 0, .int .i64 0, .slice none 0 0, .string ⟨#[]⟩, .int .u64 0, .int .u32 0, .slice none 0 0, .int .u64 0, .int .i64 0, .int .u32 0, .int .u64 0, .int .u64 0, .int .i64 0, .int .u64 0, .slice none 0 0] A2.out info73 rfl (by kernel_rfl) ?_; rw [← HW2.out]; clear i0 i1 i2 A2 HW2; have mk := True.intro) | (clear mk; refine wpList_load_row rfl 73 (.tmp 3) rfl (w.heap.size + 1 + 1) (by simp [Act.eval, Act.put]) 73 _ (0, 0) _ H22.out Try.underlying73 rfl info73 ?_; have mk2 := True.intro) | (clear mk2; refine wpList_store_row rfl 73 (.tmp 2) (.tmp 20) rfl (w.heap.size + 1) #[.int .i64 kind, .int .i64 src, .int .i64 dst, .int .u64 0, .int .i64 0, .int .i64 0, .int .u32 0, .int .u64 0, .int .i64 0, .slice none 0 0, .string ⟨#[]⟩, .int .u64 0, .int .u32 0, .slice none 0 0, .int .u64 0, .int .i64 0, .int .u32 0, .int .u64 0, .int .u64 0, .int .i64 0, .int .u64 0, .slice none 0 0] (by simp [Act.eval, Act.put]) (by simp [Act.eval, Act.put]) 73 zpk H12.out info73 rfl (by kernel_rfl) ?_))
  have hr := setRow_heap w2 (w.heap.size + 1) zpk #[.int .i64 kind, .int .i64 src, .int .i64 dst, .int .u64 0, .int .i64 0, .int .i64 0, .int .u32 0, .int .u64 0, .int .i64 0, .slice none 0 0, .string ⟨#[]⟩, .int .u64 0, .int .u32 0, .slice none 0 0, .int .u64 0, .int .i64 0, .int .u32 0, .int .u64 0, .int .u64 0, .int .i64 0, .int .u64 0, .slice none 0 0] 73 (0, 0) H12.out
  refine bodyPost_ret (results_cell_row Try.results50 _ _ _ _ _ _ _ rfl hr Try.underlying73 rfl info73) rfl ?_
  exact ⟨rfl, below_setRow HB2.out (by omega) _⟩
end Go.Proofs.Ythkfgjdbgnbjkaa
