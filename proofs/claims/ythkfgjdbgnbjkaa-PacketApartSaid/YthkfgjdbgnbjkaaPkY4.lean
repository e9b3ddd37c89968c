/- The walk of packet's Clean, kind 4. (Printed by pkclean.py.) -/
import Derived.Test.YthkfgjdbgnbjkaaPkX
namespace Go.Proofs.Ythkfgjdbgnbjkaa
open Go.RowKit
set_option linter.unusedSimpArgs false
set_option linter.unusedVariables false

set_option maxHeartbeats 3200000 in
set_option maxRecDepth 8000 in
theorem clean4 (p : Pk) (Am : Option Addr) (cm : Nat) (Ag : Option Addr) (cg : Nat) (Ax : Option Addr) (cx : Nat) (w : World)
    (hm : PerU w Am p.m.deps) (hg : PerU w Ag p.got) (hx : PerX w Ax p.x) (h1 : p.m.deps.length ≤ 35184372088832) (h2 : p.got.length ≤ 35184372088832) (h3 : p.x.length ≤ 1000000) (h4 : ∀ e ∈ p.x, e.cnt.length ≤ 35184372088832) (hk : p.kind = 4) :
    Calls Try.prog 48 #[pkV p Am cm Ag cg Ax cx] w fun e w' => (∃ v, e = .returned v ∧ OwnV w' w.heap.size (cleanF p) v) ∧ Below w.heap.size w w' := by
  obtain ⟨kind, src, dst, ⟨ce, cr⟩, ⟨mf, ms, mt, mv, md, my⟩, stamp, sent, got, horizon, whom, seq, members, ⟨pe, pr⟩, epoch, x⟩ := p
  unfold pkV
  dsimp only at *
  obtain rfl : kind = 4 := hk
  have hq : cleanF (⟨4, src, dst, ⟨ce, cr⟩, ⟨mf, ms, mt, mv, md, my⟩, stamp, sent, got, horizon, whom, seq, members, ⟨pe, pr⟩, epoch, x⟩ : Pk) = (⟨4, src, dst, ⟨ce, cr⟩, Ms.zero, 0, 0, [], 0, 0, 0, members, ⟨pe, pr⟩, epoch, []⟩ : Pk) := by unfold cleanF; simp
  rw [hq]
  clear hq
  have HO := Lib.hid (fun W (hb : Below w.heap.size w W) => own_any (⟨4, src, dst, ⟨ce, cr⟩, Ms.zero, 0, 0, [], 0, 0, 0, members, ⟨pe, pr⟩, epoch, []⟩ : Pk) none 0 none 0 none 0 W (PerU.nilw _ _) (PerU.nilw _ _) (PerX.nilw _ _) (Nat.zero_le _) (Nat.zero_le _) (Nat.zero_le _) (fun e he => by cases he))
  unfold pkV at HO
  dsimp only [List.length_nil, Ms.zero, Cf.zero] at HO
  clear hm hg hx h1 h2 h3 h4
  obtain ⟨c, hc⟩ : ∃ c : Array Value, c = #[.int .i64 4, .int .i64 src, .int .i64 dst, .int .u64 (ce : Int), .int .i64 cr, .int .i64 mf, .int .u32 (ms : Int), .int .u64 (mt : Int), .int .i64 mv, .slice Am md.length cm, .string my, .int .u64 (stamp : Int), .int .u32 (sent : Int), .slice Ag got.length cg, .int .u64 (horizon : Int), .int .i64 whom, .int .u32 (seq : Int), .int .u64 (members : Int), .int .u64 (pe : Int), .int .i64 pr, .int .u64 (epoch : Int), .slice Ax x.length cx] := ⟨_, rfl⟩
  rw [← hc]
  have A2 : Hid ((((w.alloc (.cells c 73)).alloc (.cells #[.int .i64 0, .int .i64 0, .int .i64 0, .int .u64 0, .int .i64 0, .int .i64 0, .int .u32 0, .int .u64 0, .int .i64 0, .slice none 0 0, .string ⟨#[]⟩, .int .u64 0, .int .u32 0, .slice none 0 0, .int .u64 0, .int .i64 0, .int .u32 0, .int .u64 0, .int .u64 0, .int .i64 0, .int .u64 0, .slice none 0 0] 73)).alloc (.cells #[.int .i64 0, .int .i64 0, .int .i64 0, .int .u64 0, .int .i64 0, .int .i64 0, .int .u32 0, .int .u64 0, .int .i64 0, .slice none 0 0, .string ⟨#[]⟩, .int .u64 0, .int .u32 0, .slice none 0 0, .int .u64 0, .int .i64 0, .int .u32 0, .int .u64 0, .int .u64 0, .int .i64 0, .int .u64 0, .slice none 0 0] 73)).heap[w.heap.size + 1 + 1]? = some (.cells #[.int .i64 0, .int .i64 0, .int .i64 0, .int .u64 0, .int .i64 0, .int .i64 0, .int .u32 0, .int .u64 0, .int .i64 0, .slice none 0 0, .string ⟨#[]⟩, .int .u64 0, .int .u32 0, .slice none 0 0, .int .u64 0, .int .i64 0, .int .u32 0, .int .u64 0, .int .u64 0, .int .i64 0, .int .u64 0, .slice none 0 0] 73 (0, 0))) := by
    show (((w.alloc (.cells c 73)).alloc (.cells #[.int .i64 0, .int .i64 0, .int .i64 0, .int .u64 0, .int .i64 0, .int .i64 0, .int .u32 0, .int .u64 0, .int .i64 0, .slice none 0 0, .string ⟨#[]⟩, .int .u64 0, .int .u32 0, .slice none 0 0, .int .u64 0, .int .i64 0, .int .u32 0, .int .u64 0, .int .u64 0, .int .i64 0, .int .u64 0, .slice none 0 0] 73)).alloc (.cells #[.int .i64 0, .int .i64 0, .int .i64 0, .int .u64 0, .int .i64 0, .int .i64 0, .int .u32 0, .int .u64 0, .int .i64 0, .slice none 0 0, .string ⟨#[]⟩, .int .u64 0, .int .u32 0, .slice none 0 0, .int .u64 0, .int .i64 0, .int .u32 0, .int .u64 0, .int .u64 0, .int .i64 0, .int .u64 0, .slice none 0 0] 73)).heap[w.heap.size + 1 + 1]? = _
    rw [show w.heap.size + 1 + 1 = ((w.alloc (.cells c 73)).alloc (.cells #[.int .i64 0, .int .i64 0, .int .i64 0, .int .u64 0, .int .i64 0, .int .i64 0, .int .u32 0, .int .u64 0, .int .i64 0, .slice none 0 0, .string ⟨#[]⟩, .int .u64 0, .int .u32 0, .slice none 0 0, .int .u64 0, .int .i64 0, .int .u32 0, .int .u64 0, .int .u64 0, .int .i64 0, .int .u64 0, .slice none 0 0] 73)).heap.size by simp]
    exact heap_alloc_new _ _
  obtain ⟨w2, hw2⟩ : ∃ w2, w2 = ((((w.alloc (.cells c 73)).alloc (.cells #[.int .i64 0, .int .i64 0, .int .i64 0, .int .u64 0, .int .i64 0, .int .i64 0, .int .u32 0, .int .u64 0, .int .i64 0, .slice none 0 0, .string ⟨#[]⟩, .int .u64 0, .int .u32 0, .slice none 0 0, .int .u64 0, .int .i64 0, .int .u32 0, .int .u64 0, .int .u64 0, .int .i64 0, .int .u64 0, .slice none 0 0] 73)).alloc (.cells #[.int .i64 0, .int .i64 0, .int .i64 0, .int .u64 0, .int .i64 0, .int .i64 0, .int .u32 0, .int .u64 0, .int .i64 0, .slice none 0 0, .string ⟨#[]⟩, .int .u64 0, .int .u32 0, .slice none 0 0, .int .u64 0, .int .i64 0, .int .u32 0, .int .u64 0, .int .u64 0, .int .i64 0, .int .u64 0, .slice none 0 0] 73)).setRow (w.heap.size + 1 + 1) #[.int .i64 4, .int .i64 src, .int .i64 dst, .int .u64 0, .int .i64 0, .int .i64 0, .int .u32 0, .int .u64 0, .int .i64 0, .slice none 0 0, .string ⟨#[]⟩, .int .u64 0, .int .u32 0, .slice none 0 0, .int .u64 0, .int .i64 0, .int .u32 0, .int .u64 0, .int .u64 0, .int .i64 0, .int .u64 0, .slice none 0 0]) := ⟨_, rfl⟩
  have hbB : Hid (Below w.heap.size w w2) := Lib.hid (by rw [hw2]; exact below_setRow (below_alloc (below_alloc (below_alloc (Below.refl _ _) _) _) _) (by omega) _)
  have B0 : Hid (w2.heap[w.heap.size]? = some (.cells #[.int .i64 4, .int .i64 src, .int .i64 dst, .int .u64 (ce : Int), .int .i64 cr, .int .i64 mf, .int .u32 (ms : Int), .int .u64 (mt : Int), .int .i64 mv, .slice Am md.length cm, .string my, .int .u64 (stamp : Int), .int .u32 (sent : Int), .slice Ag got.length cg, .int .u64 (horizon : Int), .int .i64 whom, .int .u32 (seq : Int), .int .u64 (members : Int), .int .u64 (pe : Int), .int .i64 pr, .int .u64 (epoch : Int), .slice Ax x.length cx] 73 (0, 0))) := Lib.hid (by rw [hw2, ← hc]; exact (setRow_other _ _ _ _ (by omega)).trans ((Below.heap_alloc _ _ _ (by simp; omega)).trans ((Below.heap_alloc _ _ _ (by simp)).trans (heap_alloc_new w _))))
  have B1 : Hid (w2.heap[w.heap.size + 1]? = some (.cells #[.int .i64 0, .int .i64 0, .int .i64 0, .int .u64 0, .int .i64 0, .int .i64 0, .int .u32 0, .int .u64 0, .int .i64 0, .slice none 0 0, .string ⟨#[]⟩, .int .u64 0, .int .u32 0, .slice none 0 0, .int .u64 0, .int .i64 0, .int .u32 0, .int .u64 0, .int .u64 0, .int .i64 0, .int .u64 0, .slice none 0 0] 73 (0, 0))) := Lib.hid (by rw [hw2]; exact (setRow_other _ _ _ _ (by omega)).trans ((Below.heap_alloc _ _ _ (by simp)).trans (by rw [show w.heap.size + 1 = (w.alloc (.cells c 73)).heap.size by simp]; exact heap_alloc_new _ _)))
  have B2 : Hid (w2.heap[w.heap.size + 1 + 1]? = some (.cells #[.int .i64 4, .int .i64 src, .int .i64 dst, .int .u64 0, .int .i64 0, .int .i64 0, .int .u32 0, .int .u64 0, .int .i64 0, .slice none 0 0, .string ⟨#[]⟩, .int .u64 0, .int .u32 0, .slice none 0 0, .int .u64 0, .int .i64 0, .int .u32 0, .int .u64 0, .int .u64 0, .int .i64 0, .int .u64 0, .slice none 0 0] 73 (0, 0))) := Lib.hid (by rw [hw2]; exact setRow_heap _ _ #[.int .i64 0, .int .i64 0, .int .i64 0, .int .u64 0, .int .i64 0, .int .i64 0, .int .u32 0, .int .u64 0, .int .i64 0, .slice none 0 0, .string ⟨#[]⟩, .int .u64 0, .int .u32 0, .slice none 0 0, .int .u64 0, .int .i64 0, .int .u32 0, .int .u64 0, .int .u64 0, .int .i64 0, .int .u64 0, .slice none 0 0] _ 73 (0, 0) A2.out)
  have s0 : Hid (w.heap.size + 3 ≤ w2.heap.size) := Lib.hid (by rw [hw2]; simp)
  have i0 : ((w.alloc (.cells c 73)).alloc (.cells #[.int .i64 0, .int .i64 0, .int .i64 0, .int .u64 0, .int .i64 0, .int .i64 0, .int .u32 0, .int .u64 0, .int .i64 0, .slice none 0 0, .string ⟨#[]⟩, .int .u64 0, .int .u32 0, .slice none 0 0, .int .u64 0, .int .i64 0, .int .u32 0, .int .u64 0, .int .u64 0, .int .i64 0, .int .u64 0, .slice none 0 0] 73)).cell? ⟨w.heap.size, 0, none⟩ = some (.int .i64 4) := (cell_of_row _ _ 0 _ _ _ ((Below.heap_alloc _ _ _ (by simp)).trans (heap_alloc_new w _))).trans (by rw [hc]; rfl)
  have i1 : ((w.alloc (.cells c 73)).alloc (.cells #[.int .i64 0, .int .i64 0, .int .i64 0, .int .u64 0, .int .i64 0, .int .i64 0, .int .u32 0, .int .u64 0, .int .i64 0, .slice none 0 0, .string ⟨#[]⟩, .int .u64 0, .int .u32 0, .slice none 0 0, .int .u64 0, .int .i64 0, .int .u32 0, .int .u64 0, .int .u64 0, .int .i64 0, .int .u64 0, .slice none 0 0] 73)).cell? ⟨w.heap.size, 1, none⟩ = some (.int .i64 src) := (cell_of_row _ _ 1 _ _ _ ((Below.heap_alloc _ _ _ (by simp)).trans (heap_alloc_new w _))).trans (by rw [hc]; rfl)
  have i2 : ((w.alloc (.cells c 73)).alloc (.cells #[.int .i64 0, .int .i64 0, .int .i64 0, .int .u64 0, .int .i64 0, .int .i64 0, .int .u32 0, .int .u64 0, .int .i64 0, .slice none 0 0, .string ⟨#[]⟩, .int .u64 0, .int .u32 0, .slice none 0 0, .int .u64 0, .int .i64 0, .int .u32 0, .int .u64 0, .int .u64 0, .int .i64 0, .int .u64 0, .slice none 0 0] 73)).cell? ⟨w.heap.size, 2, none⟩ = some (.int .i64 dst) := (cell_of_row _ _ 2 _ _ _ ((Below.heap_alloc _ _ _ (by simp)).trans (heap_alloc_new w _))).trans (by rw [hc]; rfl)
  have HW2 := Lib.hid hw2
  clear hw2 hc
  have a0 : w2.cell? ⟨w.heap.size, 0, none⟩ = some (.int .i64 4) := cell_of_row _ _ 0 _ _ _ B0.out
  have a3 : w2.cell? ⟨w.heap.size, 3, none⟩ = some (.int .u64 (ce : Int)) := cell_of_row _ _ 3 _ _ _ B0.out
  have a4 : w2.cell? ⟨w.heap.size, 4, none⟩ = some (.int .i64 cr) := cell_of_row _ _ 4 _ _ _ B0.out
  have kx3 : w2.cell? ⟨w.heap.size + 1 + 1, 3, none⟩ = some (.int .u64 0) := cell_of_row _ _ 3 _ _ _ B2.out
  have fx3 : w2.frozen? ⟨w.heap.size + 1 + 1, 3, none⟩ = false := by simp only [World.frozen?, B2.out]; rfl
  have kx4 : w2.cell? ⟨w.heap.size + 1 + 1, 4, none⟩ = some (.int .i64 0) := cell_of_row _ _ 4 _ _ _ B2.out
  have fx4 : w2.frozen? ⟨w.heap.size + 1 + 1, 4, none⟩ = false := by simp only [World.frozen?, B2.out]; rfl
  have H0x : Hid (((w2.setCell ⟨w.heap.size + 1 + 1, 3, none⟩ (.int .u64 (ce : Int))).setCell ⟨w.heap.size + 1 + 1, 4, none⟩ (.int .i64 cr)).heap[w.heap.size]? = some (.cells #[.int .i64 4, .int .i64 src, .int .i64 dst, .int .u64 (ce : Int), .int .i64 cr, .int .i64 mf, .int .u32 (ms : Int), .int .u64 (mt : Int), .int .i64 mv, .slice Am md.length cm, .string my, .int .u64 (stamp : Int), .int .u32 (sent : Int), .slice Ag got.length cg, .int .u64 (horizon : Int), .int .i64 whom, .int .u32 (seq : Int), .int .u64 (members : Int), .int .u64 (pe : Int), .int .i64 pr, .int .u64 (epoch : Int), .slice Ax x.length cx] 73 (0, 0))) := ((Below.heap_setCell _ ⟨w.heap.size + 1 + 1, 4, none⟩ (.int .i64 cr) (w.heap.size) (by simp; omega)).trans ((Below.heap_setCell _ ⟨w.heap.size + 1 + 1, 3, none⟩ (.int .u64 (ce : Int)) (w.heap.size) (by simp; omega)).trans B0.out))
  have H1x : Hid (((w2.setCell ⟨w.heap.size + 1 + 1, 3, none⟩ (.int .u64 (ce : Int))).setCell ⟨w.heap.size + 1 + 1, 4, none⟩ (.int .i64 cr)).heap[w.heap.size + 1]? = some (.cells #[.int .i64 0, .int .i64 0, .int .i64 0, .int .u64 0, .int .i64 0, .int .i64 0, .int .u32 0, .int .u64 0, .int .i64 0, .slice none 0 0, .string ⟨#[]⟩, .int .u64 0, .int .u32 0, .slice none 0 0, .int .u64 0, .int .i64 0, .int .u32 0, .int .u64 0, .int .u64 0, .int .i64 0, .int .u64 0, .slice none 0 0] 73 (0, 0))) := ((Below.heap_setCell _ ⟨w.heap.size + 1 + 1, 4, none⟩ (.int .i64 cr) (w.heap.size + 1) (by simp)).trans ((Below.heap_setCell _ ⟨w.heap.size + 1 + 1, 3, none⟩ (.int .u64 (ce : Int)) (w.heap.size + 1) (by simp)).trans B1.out))
  have H2x : Hid (((w2.setCell ⟨w.heap.size + 1 + 1, 3, none⟩ (.int .u64 (ce : Int))).setCell ⟨w.heap.size + 1 + 1, 4, none⟩ (.int .i64 cr)).heap[w.heap.size + 1 + 1]? = some (.cells #[.int .i64 4, .int .i64 src, .int .i64 dst, .int .u64 (ce : Int), .int .i64 cr, .int .i64 0, .int .u32 0, .int .u64 0, .int .i64 0, .slice none 0 0, .string ⟨#[]⟩, .int .u64 0, .int .u32 0, .slice none 0 0, .int .u64 0, .int .i64 0, .int .u32 0, .int .u64 0, .int .u64 0, .int .i64 0, .int .u64 0, .slice none 0 0] 73 (0, 0))) := (blk_setj (blk_setj B2.out 3 (.int .u64 (ce : Int))) 4 (.int .i64 cr))
  have HBx := Lib.hid ((hbB.out.setCell (p := ⟨w.heap.size + 1 + 1, 3, none⟩) (by simp; omega) (.int .u64 (ce : Int))).setCell (p := ⟨w.heap.size + 1 + 1, 4, none⟩) (by simp; omega) (.int .i64 cr))
  have sx : w.heap.size + 3 ≤ ((w2.setCell ⟨w.heap.size + 1 + 1, 3, none⟩ (.int .u64 (ce : Int))).setCell ⟨w.heap.size + 1 + 1, 4, none⟩ (.int .i64 cr)).heap.size := by simpa using s0.out
  have c0 : ((w2.setCell ⟨w.heap.size + 1 + 1, 3, none⟩ (.int .u64 (ce : Int))).setCell ⟨w.heap.size + 1 + 1, 4, none⟩ (.int .i64 cr)).cell? ⟨w.heap.size, 0, none⟩ = some (.int .i64 4) := cell_of_row _ _ 0 _ _ _ H0x.out
  go_enter Try.func48, Try.ntmps48
  go_wp2_with ((refine wpList_store_row rfl 73 (.tmp 3) (.tmp 10) rfl (w.heap.size + 1 + 1) #[.int .i64 4, .int .i64 src, .int .i64 dst, .int .u64 0, .int .i64 0, .int .i64 0, .int .u32 0, .int .u64 0, .int .i64 0, .slice none 0 0, .string ⟨#[]⟩, .int .u64 0, .int .u32 0, .slice none 0 0, .int .u64 0, .int .i64 0, .int .u32 0, .int .u64 0, .int .u64 0, .int .i64 0, .int .u64 0, .slice none 0 0] (by simp [Act.eval, Act.put]) (by simp [Act.eval, Act.put]) 73 #[.int .i64 0, .int .i64 0, .int .i64 0, .int .u64 0, .int .i64 0, .int .i64 0, .int .u32 0, .int .u64 0, .int .i64 0, .slice none 0 0, .string ⟨#[]⟩, .int .u64 0, .int .u32 0, .slice none 0 0, .int .u64 0, .int .i64 0, .int .u32 0, .int .u64 0, .int .u64 0, .int .i64 0, .int .u64 0, .slice none 0 0] A2.out info73 rfl (by kernel_rfl) ?_; rw [← HW2.out]; clear i0 i1 i2 A2 HW2))
  clear a0 a3 a4 kx3 fx3 kx4 fx4 c0 B0 B1 B2 hbB s0
  refine wp_region_held_drew (S := fun w' => w'.cell? ⟨w.heap.size, 17, none⟩ = some (.int .u64 (members : Int)) ∧ w'.cell? ⟨w.heap.size, 18, none⟩ = some (.int .u64 (pe : Int)) ∧ w'.cell? ⟨w.heap.size, 19, none⟩ = some (.int .i64 pr) ∧ w'.cell? ⟨w.heap.size, 20, none⟩ = some (.int .u64 (epoch : Int))) (by kernel_rfl) ?_ (fun hHeld => ?_)
  · exact ⟨cell_of_row _ _ 17 _ _ _ H0x.out, cell_of_row _ _ 18 _ _ _ H0x.out, cell_of_row _ _ 19 _ _ _ H0x.out, cell_of_row _ _ 20 _ _ _ H0x.out⟩
  have H0z : Hid (((w2.setCell ⟨w.heap.size + 1 + 1, 3, none⟩ (.int .u64 (ce : Int))).setCell ⟨w.heap.size + 1 + 1, 4, none⟩ (.int .i64 cr)).drew.heap[w.heap.size]? = some (.cells #[.int .i64 4, .int .i64 src, .int .i64 dst, .int .u64 (ce : Int), .int .i64 cr, .int .i64 mf, .int .u32 (ms : Int), .int .u64 (mt : Int), .int .i64 mv, .slice Am md.length cm, .string my, .int .u64 (stamp : Int), .int .u32 (sent : Int), .slice Ag got.length cg, .int .u64 (horizon : Int), .int .i64 whom, .int .u32 (seq : Int), .int .u64 (members : Int), .int .u64 (pe : Int), .int .i64 pr, .int .u64 (epoch : Int), .slice Ax x.length cx] 73 (0, 0))) := H0x
  have H1z : Hid (((w2.setCell ⟨w.heap.size + 1 + 1, 3, none⟩ (.int .u64 (ce : Int))).setCell ⟨w.heap.size + 1 + 1, 4, none⟩ (.int .i64 cr)).drew.heap[w.heap.size + 1]? = some (.cells #[.int .i64 0, .int .i64 0, .int .i64 0, .int .u64 0, .int .i64 0, .int .i64 0, .int .u32 0, .int .u64 0, .int .i64 0, .slice none 0 0, .string ⟨#[]⟩, .int .u64 0, .int .u32 0, .slice none 0 0, .int .u64 0, .int .i64 0, .int .u32 0, .int .u64 0, .int .u64 0, .int .i64 0, .int .u64 0, .slice none 0 0] 73 (0, 0))) := H1x
  have H2z : Hid (((w2.setCell ⟨w.heap.size + 1 + 1, 3, none⟩ (.int .u64 (ce : Int))).setCell ⟨w.heap.size + 1 + 1, 4, none⟩ (.int .i64 cr)).drew.heap[w.heap.size + 1 + 1]? = some (.cells #[.int .i64 4, .int .i64 src, .int .i64 dst, .int .u64 (ce : Int), .int .i64 cr, .int .i64 0, .int .u32 0, .int .u64 0, .int .i64 0, .slice none 0 0, .string ⟨#[]⟩, .int .u64 0, .int .u32 0, .slice none 0 0, .int .u64 0, .int .i64 0, .int .u32 0, .int .u64 0, .int .u64 0, .int .i64 0, .int .u64 0, .slice none 0 0] 73 (0, 0))) := H2x
  have HBz := Lib.hid HBx.out.drew
  have sz : w.heap.size + 3 ≤ ((w2.setCell ⟨w.heap.size + 1 + 1, 3, none⟩ (.int .u64 (ce : Int))).setCell ⟨w.heap.size + 1 + 1, 4, none⟩ (.int .i64 cr)).drew.heap.size := by first | exact sx.out | exact sx
  clear H0x H1x H2x HBx sx
  generalize ((w2.setCell ⟨w.heap.size + 1 + 1, 3, none⟩ (.int .u64 (ce : Int))).setCell ⟨w.heap.size + 1 + 1, 4, none⟩ (.int .i64 cr)).drew = w3 at *
  refine wpAnyH_take (i := 0) (v := .pointer (some ⟨w.heap.size, 18, none⟩)) rfl (by kernel_rfl) (by kernel_rfl) (by kernel_rfl) (fun _ _ _ h => h) (Or.inl ⟨by rfl, ?_⟩) (by assumption) ?_
  · intro w hSw; (try dsimp only at hSw); go_simp
  simp only [Act.put, List.setIfInBounds_toArray, List.set_cons_zero, List.set_cons_succ]
  refine wpAnyH_take (i := 1) (v := .agg #[.int .u64 (pe : Int), .int .i64 pr]) rfl (by kernel_rfl) (by kernel_rfl) (by kernel_rfl) (fun _ _ _ h => h) (Or.inl ⟨by rfl, ?_⟩) (by assumption) ?_
  · intro w hSw; (try dsimp only at hSw); go_simp
  simp only [Act.put, List.setIfInBounds_toArray, List.set_cons_zero, List.set_cons_succ]
  refine wpAnyH_take (i := 2) (v := .pointer (some ⟨w.heap.size, 20, none⟩)) rfl (by kernel_rfl) (by kernel_rfl) (by kernel_rfl) (fun _ _ _ h => h) (Or.inl ⟨by rfl, ?_⟩) (by assumption) ?_
  · intro w hSw; (try dsimp only at hSw); go_simp
  simp only [Act.put, List.setIfInBounds_toArray, List.set_cons_zero, List.set_cons_succ]
  refine wpAnyH_take (i := 3) (v := .int .u64 (epoch : Int)) rfl (by kernel_rfl) (by kernel_rfl) (by kernel_rfl) (fun _ _ _ h => h) (Or.inl ⟨by rfl, ?_⟩) (by assumption) ?_
  · intro w hSw; (try dsimp only at hSw); go_simp
  simp only [Act.put, List.setIfInBounds_toArray, List.set_cons_zero, List.set_cons_succ]
  refine wpAnyH_take (i := 4) (v := .pointer (some ⟨w.heap.size, 17, none⟩)) rfl (by kernel_rfl) (by kernel_rfl) (by kernel_rfl) (fun _ _ _ h => h) (Or.inl ⟨by rfl, ?_⟩) (by assumption) ?_
  · intro w hSw; (try dsimp only at hSw); go_simp
  simp only [Act.put, List.setIfInBounds_toArray, List.set_cons_zero, List.set_cons_succ]
  refine wpAnyH_take (i := 5) (v := .int .u64 (members : Int)) rfl (by kernel_rfl) (by kernel_rfl) (by kernel_rfl) (fun _ _ _ h => h) (Or.inl ⟨by rfl, ?_⟩) (by assumption) ?_
  · intro w hSw; (try dsimp only at hSw); go_simp
  simp only [Act.put, List.setIfInBounds_toArray, List.set_cons_zero, List.set_cons_succ]
  refine wpAnyH_take (i := 6) (v := .pointer (some ⟨w.heap.size + 1 + 1, 18, none⟩)) rfl (by kernel_rfl) (by kernel_rfl) (by kernel_rfl) (fun _ _ _ h => h) (Or.inl ⟨by rfl, ?_⟩) (by assumption) ?_
  · intro w hSw; (try dsimp only at hSw); go_simp
  simp only [Act.put, List.setIfInBounds_toArray, List.set_cons_zero, List.set_cons_succ]
  have kq318 : w3.cell? ⟨w.heap.size + 1 + 1, 18, none⟩ = some (.int .u64 0) := cell_of_row _ _ 18 _ _ _ H2z.out
  have fq318 : w3.frozen? ⟨w.heap.size + 1 + 1, 18, none⟩ = false := by simp only [World.frozen?, H2z.out]; rfl
  have kq319 : w3.cell? ⟨w.heap.size + 1 + 1, 19, none⟩ = some (.int .i64 0) := cell_of_row _ _ 19 _ _ _ H2z.out
  have fq319 : w3.frozen? ⟨w.heap.size + 1 + 1, 19, none⟩ = false := by simp only [World.frozen?, H2z.out]; rfl
  have H0w3 : Hid (((w3.setCell ⟨w.heap.size + 1 + 1, 18, none⟩ (.int .u64 (pe : Int))).setCell ⟨w.heap.size + 1 + 1, 19, none⟩ (.int .i64 pr)).heap[w.heap.size]? = some (.cells #[.int .i64 4, .int .i64 src, .int .i64 dst, .int .u64 (ce : Int), .int .i64 cr, .int .i64 mf, .int .u32 (ms : Int), .int .u64 (mt : Int), .int .i64 mv, .slice Am md.length cm, .string my, .int .u64 (stamp : Int), .int .u32 (sent : Int), .slice Ag got.length cg, .int .u64 (horizon : Int), .int .i64 whom, .int .u32 (seq : Int), .int .u64 (members : Int), .int .u64 (pe : Int), .int .i64 pr, .int .u64 (epoch : Int), .slice Ax x.length cx] 73 (0, 0))) := ((Below.heap_setCell _ ⟨w.heap.size + 1 + 1, 19, none⟩ (.int .i64 pr) (w.heap.size) (by simp; omega)).trans ((Below.heap_setCell _ ⟨w.heap.size + 1 + 1, 18, none⟩ (.int .u64 (pe : Int)) (w.heap.size) (by simp; omega)).trans H0z.out))
  have H1w3 : Hid (((w3.setCell ⟨w.heap.size + 1 + 1, 18, none⟩ (.int .u64 (pe : Int))).setCell ⟨w.heap.size + 1 + 1, 19, none⟩ (.int .i64 pr)).heap[w.heap.size + 1]? = some (.cells #[.int .i64 0, .int .i64 0, .int .i64 0, .int .u64 0, .int .i64 0, .int .i64 0, .int .u32 0, .int .u64 0, .int .i64 0, .slice none 0 0, .string ⟨#[]⟩, .int .u64 0, .int .u32 0, .slice none 0 0, .int .u64 0, .int .i64 0, .int .u32 0, .int .u64 0, .int .u64 0, .int .i64 0, .int .u64 0, .slice none 0 0] 73 (0, 0))) := ((Below.heap_setCell _ ⟨w.heap.size + 1 + 1, 19, none⟩ (.int .i64 pr) (w.heap.size + 1) (by simp)).trans ((Below.heap_setCell _ ⟨w.heap.size + 1 + 1, 18, none⟩ (.int .u64 (pe : Int)) (w.heap.size + 1) (by simp)).trans H1z.out))
  have H2w3 : Hid (((w3.setCell ⟨w.heap.size + 1 + 1, 18, none⟩ (.int .u64 (pe : Int))).setCell ⟨w.heap.size + 1 + 1, 19, none⟩ (.int .i64 pr)).heap[w.heap.size + 1 + 1]? = some (.cells #[.int .i64 4, .int .i64 src, .int .i64 dst, .int .u64 (ce : Int), .int .i64 cr, .int .i64 0, .int .u32 0, .int .u64 0, .int .i64 0, .slice none 0 0, .string ⟨#[]⟩, .int .u64 0, .int .u32 0, .slice none 0 0, .int .u64 0, .int .i64 0, .int .u32 0, .int .u64 0, .int .u64 (pe : Int), .int .i64 pr, .int .u64 0, .slice none 0 0] 73 (0, 0))) := (blk_setj (blk_setj H2z.out 18 (.int .u64 (pe : Int))) 19 (.int .i64 pr))
  have HBw3 := Lib.hid ((HBz.out.setCell (p := ⟨w.heap.size + 1 + 1, 18, none⟩) (by simp; omega) (.int .u64 (pe : Int))).setCell (p := ⟨w.heap.size + 1 + 1, 19, none⟩) (by simp; omega) (.int .i64 pr))
  have sw3 : w.heap.size + 3 ≤ ((w3.setCell ⟨w.heap.size + 1 + 1, 18, none⟩ (.int .u64 (pe : Int))).setCell ⟨w.heap.size + 1 + 1, 19, none⟩ (.int .i64 pr)).heap.size := by simpa using sz
  refine wpAnyH_ready (rs := [7]) (by kernel_rfl) (by simp) ?_
  refine AllReadyH.cons rfl (fun K hK => ?_) AllReadyH.nil
  go_simp
  clear hHeld kq318 fq318 kq319 fq319 H0z H1z H2z HBz sz
  generalize ((w3.setCell ⟨w.heap.size + 1 + 1, 18, none⟩ (.int .u64 (pe : Int))).setCell ⟨w.heap.size + 1 + 1, 19, none⟩ (.int .i64 pr)) = w4 at *
  refine hK.out _ _ ⟨cell_of_row _ _ 17 _ _ _ H0w3.out, cell_of_row _ _ 18 _ _ _ H0w3.out, cell_of_row _ _ 19 _ _ _ H0w3.out, cell_of_row _ _ 20 _ _ _ H0w3.out⟩ (fun hHeld => ?_)
  clear hK K
  refine wpAnyH_take (i := 8) (v := .pointer (some ⟨w.heap.size + 1 + 1, 20, none⟩)) rfl (by kernel_rfl) (by kernel_rfl) (by kernel_rfl) (fun _ _ _ h => h) (Or.inl ⟨by rfl, ?_⟩) (by assumption) ?_
  · intro w hSw; (try dsimp only at hSw); go_simp
  simp only [Act.put, List.setIfInBounds_toArray, List.set_cons_zero, List.set_cons_succ]
  have kq420 : w4.cell? ⟨w.heap.size + 1 + 1, 20, none⟩ = some (.int .u64 0) := cell_of_row _ _ 20 _ _ _ H2w3.out
  have fq420 : w4.frozen? ⟨w.heap.size + 1 + 1, 20, none⟩ = false := by simp only [World.frozen?, H2w3.out]; rfl
  have H0w4 : Hid ((w4.setCell ⟨w.heap.size + 1 + 1, 20, none⟩ (.int .u64 (epoch : Int))).heap[w.heap.size]? = some (.cells #[.int .i64 4, .int .i64 src, .int .i64 dst, .int .u64 (ce : Int), .int .i64 cr, .int .i64 mf, .int .u32 (ms : Int), .int .u64 (mt : Int), .int .i64 mv, .slice Am md.length cm, .string my, .int .u64 (stamp : Int), .int .u32 (sent : Int), .slice Ag got.length cg, .int .u64 (horizon : Int), .int .i64 whom, .int .u32 (seq : Int), .int .u64 (members : Int), .int .u64 (pe : Int), .int .i64 pr, .int .u64 (epoch : Int), .slice Ax x.length cx] 73 (0, 0))) := ((Below.heap_setCell _ ⟨w.heap.size + 1 + 1, 20, none⟩ (.int .u64 (epoch : Int)) (w.heap.size) (by simp; omega)).trans H0w3.out)
  have H1w4 : Hid ((w4.setCell ⟨w.heap.size + 1 + 1, 20, none⟩ (.int .u64 (epoch : Int))).heap[w.heap.size + 1]? = some (.cells #[.int .i64 0, .int .i64 0, .int .i64 0, .int .u64 0, .int .i64 0, .int .i64 0, .int .u32 0, .int .u64 0, .int .i64 0, .slice none 0 0, .string ⟨#[]⟩, .int .u64 0, .int .u32 0, .slice none 0 0, .int .u64 0, .int .i64 0, .int .u32 0, .int .u64 0, .int .u64 0, .int .i64 0, .int .u64 0, .slice none 0 0] 73 (0, 0))) := ((Below.heap_setCell _ ⟨w.heap.size + 1 + 1, 20, none⟩ (.int .u64 (epoch : Int)) (w.heap.size + 1) (by simp)).trans H1w3.out)
  have H2w4 : Hid ((w4.setCell ⟨w.heap.size + 1 + 1, 20, none⟩ (.int .u64 (epoch : Int))).heap[w.heap.size + 1 + 1]? = some (.cells #[.int .i64 4, .int .i64 src, .int .i64 dst, .int .u64 (ce : Int), .int .i64 cr, .int .i64 0, .int .u32 0, .int .u64 0, .int .i64 0, .slice none 0 0, .string ⟨#[]⟩, .int .u64 0, .int .u32 0, .slice none 0 0, .int .u64 0, .int .i64 0, .int .u32 0, .int .u64 0, .int .u64 (pe : Int), .int .i64 pr, .int .u64 (epoch : Int), .slice none 0 0] 73 (0, 0))) := (blk_setj H2w3.out 20 (.int .u64 (epoch : Int)))
  have HBw4 := Lib.hid (HBw3.out.setCell (p := ⟨w.heap.size + 1 + 1, 20, none⟩) (by simp; omega) (.int .u64 (epoch : Int)))
  have sw4 : w.heap.size + 3 ≤ (w4.setCell ⟨w.heap.size + 1 + 1, 20, none⟩ (.int .u64 (epoch : Int))).heap.size := by simpa using sw3
  refine wpAnyH_ready (rs := [9]) (by kernel_rfl) (by simp) ?_
  refine AllReadyH.cons rfl (fun K hK => ?_) AllReadyH.nil
  go_simp
  clear hHeld kq420 fq420 H0w3 H1w3 H2w3 HBw3 sw3
  generalize (w4.setCell ⟨w.heap.size + 1 + 1, 20, none⟩ (.int .u64 (epoch : Int))) = w5 at *
  refine hK.out _ _ ⟨cell_of_row _ _ 17 _ _ _ H0w4.out, cell_of_row _ _ 18 _ _ _ H0w4.out, cell_of_row _ _ 19 _ _ _ H0w4.out, cell_of_row _ _ 20 _ _ _ H0w4.out⟩ (fun hHeld => ?_)
  clear hK K
  refine wpAnyH_take (i := 10) (v := .pointer (some ⟨w.heap.size + 1 + 1, 17, none⟩)) rfl (by kernel_rfl) (by kernel_rfl) (by kernel_rfl) (fun _ _ _ h => h) (Or.inl ⟨by rfl, ?_⟩) (by assumption) ?_
  · intro w hSw; (try dsimp only at hSw); go_simp
  simp only [Act.put, List.setIfInBounds_toArray, List.set_cons_zero, List.set_cons_succ]
  have kq517 : w5.cell? ⟨w.heap.size + 1 + 1, 17, none⟩ = some (.int .u64 0) := cell_of_row _ _ 17 _ _ _ H2w4.out
  have fq517 : w5.frozen? ⟨w.heap.size + 1 + 1, 17, none⟩ = false := by simp only [World.frozen?, H2w4.out]; rfl
  have H0w5 : Hid ((w5.setCell ⟨w.heap.size + 1 + 1, 17, none⟩ (.int .u64 (members : Int))).heap[w.heap.size]? = some (.cells #[.int .i64 4, .int .i64 src, .int .i64 dst, .int .u64 (ce : Int), .int .i64 cr, .int .i64 mf, .int .u32 (ms : Int), .int .u64 (mt : Int), .int .i64 mv, .slice Am md.length cm, .string my, .int .u64 (stamp : Int), .int .u32 (sent : Int), .slice Ag got.length cg, .int .u64 (horizon : Int), .int .i64 whom, .int .u32 (seq : Int), .int .u64 (members : Int), .int .u64 (pe : Int), .int .i64 pr, .int .u64 (epoch : Int), .slice Ax x.length cx] 73 (0, 0))) := ((Below.heap_setCell _ ⟨w.heap.size + 1 + 1, 17, none⟩ (.int .u64 (members : Int)) (w.heap.size) (by simp; omega)).trans H0w4.out)
  have H1w5 : Hid ((w5.setCell ⟨w.heap.size + 1 + 1, 17, none⟩ (.int .u64 (members : Int))).heap[w.heap.size + 1]? = some (.cells #[.int .i64 0, .int .i64 0, .int .i64 0, .int .u64 0, .int .i64 0, .int .i64 0, .int .u32 0, .int .u64 0, .int .i64 0, .slice none 0 0, .string ⟨#[]⟩, .int .u64 0, .int .u32 0, .slice none 0 0, .int .u64 0, .int .i64 0, .int .u32 0, .int .u64 0, .int .u64 0, .int .i64 0, .int .u64 0, .slice none 0 0] 73 (0, 0))) := ((Below.heap_setCell _ ⟨w.heap.size + 1 + 1, 17, none⟩ (.int .u64 (members : Int)) (w.heap.size + 1) (by simp)).trans H1w4.out)
  have H2w5 : Hid ((w5.setCell ⟨w.heap.size + 1 + 1, 17, none⟩ (.int .u64 (members : Int))).heap[w.heap.size + 1 + 1]? = some (.cells #[.int .i64 4, .int .i64 src, .int .i64 dst, .int .u64 (ce : Int), .int .i64 cr, .int .i64 0, .int .u32 0, .int .u64 0, .int .i64 0, .slice none 0 0, .string ⟨#[]⟩, .int .u64 0, .int .u32 0, .slice none 0 0, .int .u64 0, .int .i64 0, .int .u32 0, .int .u64 (members : Int), .int .u64 (pe : Int), .int .i64 pr, .int .u64 (epoch : Int), .slice none 0 0] 73 (0, 0))) := (blk_setj H2w4.out 17 (.int .u64 (members : Int)))
  have HBw5 := Lib.hid (HBw4.out.setCell (p := ⟨w.heap.size + 1 + 1, 17, none⟩) (by simp; omega) (.int .u64 (members : Int)))
  have sw5 : w.heap.size + 3 ≤ (w5.setCell ⟨w.heap.size + 1 + 1, 17, none⟩ (.int .u64 (members : Int))).heap.size := by simpa using sw4
  refine wpAnyH_ready (rs := [11]) (by kernel_rfl) (by simp) ?_
  refine AllReadyH.cons rfl (fun K hK => ?_) AllReadyH.nil
  go_simp
  clear hHeld kq517 fq517 H0w4 H1w4 H2w4 HBw4 sw4
  generalize (w5.setCell ⟨w.heap.size + 1 + 1, 17, none⟩ (.int .u64 (members : Int))) = w6 at *
  refine hK.out _ _ ⟨cell_of_row _ _ 17 _ _ _ H0w5.out, cell_of_row _ _ 18 _ _ _ H0w5.out, cell_of_row _ _ 19 _ _ _ H0w5.out, cell_of_row _ _ 20 _ _ _ H0w5.out⟩ (fun hHeld => ?_)
  clear hK K
  refine wpAnyH_done (by kernel_rfl) ?_ _
  have HL := H2w5.out
  go_wp2_with (refine wpList_load_row rfl 73 (.tmp 3) rfl (w.heap.size + 1 + 1) (by simp [Act.eval, Act.put]) 73 _ (0, 0) _ HL Try.underlying73 rfl info73 ?_)
  clear  HL
  generalize w6 = w3 at *
  refine (HO.out _ HBw5.out).mono ?_
  rintro e w4 ⟨⟨v, rfl, hov⟩, hb4⟩
  have hz := (hb4.block (w.heap.size + 1) (by omega)).trans H1w5.out
  have hbw := below_step HBw5.out hb4
  clear HO H0w5 H1w5 H2w5 HBw5
  have HOV := Lib.hid hov
  obtain ⟨V2, rfl, hvs, hone⟩ : ∃ c : Array Value, v = .agg c ∧ c.size = 22 ∧ c.all (·.oneCell') = true := by
    obtain ⟨Am1, cm1, Ag1, cg1, Ax1, cx1, rfl, -⟩ := hov
    exact ⟨_, rfl, rfl, by kernel_rfl⟩
  clear hov
  have i1 : (Try.prog.info? 73).map (·.size) = some V2.size := by rw [hvs]; exact info73
  go_wp2_with (refine wpList_store_row rfl 73 (.tmp 2) (.tmp 98) rfl (w.heap.size + 1) V2 (by simp [Act.eval, Act.put]) (by simp [Act.eval, Act.put]) 73 #[.int .i64 0, .int .i64 0, .int .i64 0, .int .u64 0, .int .i64 0, .int .i64 0, .int .u32 0, .int .u64 0, .int .i64 0, .slice none 0 0, .string ⟨#[]⟩, .int .u64 0, .int .u32 0, .slice none 0 0, .int .u64 0, .int .i64 0, .int .u32 0, .int .u64 0, .int .u64 0, .int .i64 0, .int .u64 0, .slice none 0 0] hz i1 (by rw [hvs]; rfl) hone ?_)
  have hr := setRow_heap w4 (w.heap.size + 1) #[.int .i64 0, .int .i64 0, .int .i64 0, .int .u64 0, .int .i64 0, .int .i64 0, .int .u32 0, .int .u64 0, .int .i64 0, .slice none 0 0, .string ⟨#[]⟩, .int .u64 0, .int .u32 0, .slice none 0 0, .int .u64 0, .int .i64 0, .int .u32 0, .int .u64 0, .int .u64 0, .int .i64 0, .int .u64 0, .slice none 0 0] V2 73 (0, 0) hz
  refine bodyPost_ret (results_cell_row Try.results48 _ _ _ _ _ _ _ rfl hr Try.underlying73 rfl i1) rfl ?_
  exact ⟨⟨_, rfl, HOV.out.row_low (by omega)⟩, below_setRow hbw (by omega) _⟩
end Go.Proofs.Ythkfgjdbgnbjkaa
