/- The walk of packet's reader: fields, kind 11. (Printed by pkfields.py.) -/
import Derived.Test.YthkfgjdbgnbjkaaPkO
namespace Go.Proofs.Ythkfgjdbgnbjkaa
open Go.RowKit
set_option linter.unusedSimpArgs false
set_option linter.unusedVariables false

set_option maxHeartbeats 3200000 in
set_option maxRecDepth 8000 in
theorem rfields11 (g P : Nat) (s : ByteArray) (l : List UInt8) (src dst : Int) (w : World) (h : RdL w g s l) (hs : s.size ≤ 1000000) (hP : w.heap[P]? = some (.cells #[.int .i64 11, .int .i64 src, .int .i64 dst, .int .u64 0, .int .i64 0, .int .i64 0, .int .u32 0, .int .u64 0, .int .i64 0, .slice none 0 0, .string ⟨#[]⟩, .int .u64 0, .int .u32 0, .slice none 0 0, .int .u64 0, .int .i64 0, .int .u32 0, .int .u64 0, .int .u64 0, .int .i64 0, .int .u64 0, .slice none 0 0] 73 (0, 0))) (hPg : P ≠ g) :
    Calls Try.prog 69 #[.agg #[.pointer (some ⟨g, 0, none⟩)], .pointer (some ⟨P, 0, none⟩)] w (FOut g P w (bodyP 11 src dst l)) := by
  have hg := h.lt
  have hPl := blk_lt hP
  have nb : w.heap.size ≠ g := by omega
  have nP : w.heap.size ≠ P := by omega
  have hb0 : Below w.heap.size w (w.alloc (.cells #[.pointer (some ⟨g, 0, none⟩)] 110)) := below_alloc (Below.refl _ _) _
  have HO0 := Lib.hid (Two.of_below (g := g) (P := P) hb0)
  have HB0 := Lib.hid (heap_alloc_new w (.cells #[.pointer (some ⟨g, 0, none⟩)] 110))
  have HP0 := Lib.hid ((Below.heap_alloc w (.cells #[.pointer (some ⟨g, 0, none⟩)] 110) P hPl).trans hP)
  have H1 := Lib.hid (rconf_any g s l _ (h.kept hb0) hs)
  clear hb0 h hP
  go_enter Try.func69, Try.ntmps69
  go_wp2_with fail
  refine H1.out.mono ?_
  cases hc : confP l with
  | error z =>
    rintro e w1 ⟨rfl, ho1⟩
    go_wp2_with fail
    rw [show bodyP 11 src dst l = .error z by unfold bodyP; (try simp only [hc, andP, restP]); (try simp [hc, andP])]
    exact ⟨rfl, rfl, HO0.out.only ho1, _, (ho1.block P (blk_lt HP0.out) (by simpa using hPg)).trans HP0.out, rfl⟩
  | ok y =>
  obtain ⟨⟨ce, cr⟩, r1⟩ := y
  rintro e w1 ⟨rfl, hr1, ho1⟩
  have HB1 := Lib.hid ((ho1.block w.heap.size (blk_lt HB0.out) (by simpa using nb)).trans HB0.out)
  have HP1 := Lib.hid ((ho1.block P (blk_lt HP0.out) (by simpa using hPg)).trans HP0.out)
  have HO1 := Lib.hid (HO0.out.only ho1)
  have HR1 := Lib.hid hr1
  clear HB0 HP0 HO0 ho1 hr1
  have k3 : w1.cell? ⟨P, 3, none⟩ = some (.int .u64 0) := cell_of_row _ _ 3 _ _ _ HP1.out
  have f3 : w1.frozen? ⟨P, 3, none⟩ = false := by simp [World.frozen?, HP1.out]
  have k4 : w1.cell? ⟨P, 4, none⟩ = some (.int .i64 0) := cell_of_row _ _ 4 _ _ _ HP1.out
  have f4 : w1.frozen? ⟨P, 4, none⟩ = false := by simp [World.frozen?, HP1.out]
  have HP2 : Hid (((w1.setCell ⟨P, 3, none⟩ (.int .u64 (ce : Int))).setCell ⟨P, 4, none⟩ (.int .i64 cr)).heap[P]? = some (.cells #[.int .i64 11, .int .i64 src, .int .i64 dst, .int .u64 (ce : Int), .int .i64 cr, .int .i64 0, .int .u32 0, .int .u64 0, .int .i64 0, .slice none 0 0, .string ⟨#[]⟩, .int .u64 0, .int .u32 0, .slice none 0 0, .int .u64 0, .int .i64 0, .int .u32 0, .int .u64 0, .int .u64 0, .int .i64 0, .int .u64 0, .slice none 0 0] 73 (0, 0))) := (blk_setj (blk_setj HP1.out 3 (.int .u64 (ce : Int))) 4 (.int .i64 cr))
  have HB2 := Lib.hid ((Below.heap_setCell (w1.setCell ⟨P, 3, none⟩ (.int .u64 (ce : Int))) ⟨P, 4, none⟩ (.int .i64 cr) w.heap.size nP).trans ((Below.heap_setCell w1 ⟨P, 3, none⟩ (.int .u64 (ce : Int)) w.heap.size nP).trans HB1.out))
  have HR2 := Lib.hid (RdL.set (RdL.set HR1.out hPg 3 (.int .u64 (ce : Int))) hPg 4 (.int .i64 cr))
  have HO2 := Lib.hid (Two.set (Two.set HO1.out 3 (.int .u64 (ce : Int))) 4 (.int .i64 cr))
  clear HP1 HB1 HR1 HO1
  have bx : ((w1.setCell ⟨P, 3, none⟩ (.int .u64 (ce : Int))).setCell ⟨P, 4, none⟩ (.int .i64 cr)).cell? ⟨w.heap.size, 0, none⟩ = some (.pointer (some ⟨g, 0, none⟩)) := blk_cell HB2.out
  have a0 : ((w1.setCell ⟨P, 3, none⟩ (.int .u64 (ce : Int))).setCell ⟨P, 4, none⟩ (.int .i64 cr)).cell? ⟨P, 0, none⟩ = some (.int .i64 11) := cell_of_row _ _ 0 _ _ _ HP2.out
  have a1 : ((w1.setCell ⟨P, 3, none⟩ (.int .u64 (ce : Int))).setCell ⟨P, 4, none⟩ (.int .i64 cr)).cell? ⟨P, 1, none⟩ = some (.int .i64 src) := cell_of_row _ _ 1 _ _ _ HP2.out
  have hfc := confP_shape hc
  go_wp2_with fail
  clear k3 f3
  clear k4 f4
  generalize ((w1.setCell ⟨P, 3, none⟩ (.int .u64 (ce : Int))).setCell ⟨P, 4, none⟩ (.int .i64 cr)) = w2 at *
  refine (left_rd g s r1 w2 HR2.out hs).mono ?_
  rintro e w3 ⟨rfl, q, rfl⟩
  cases hl : r1 with
  | nil =>
    go_wp2_with fail
    refine (bad_no _ _).mono ?_
    rintro e w9 ⟨rfl, rfl⟩
    go_wp2_with fail
    go_end0
    rw [show bodyP 11 src dst l = .ok (⟨11, src, dst, ⟨ce, cr⟩, .zero, 0, 0, [], 0, 0, 0, 0, .zero, 0, []⟩ : Pk) by unfold bodyP; (try simp [hc, andP, restP, hl, Pk.zero])]
    exact ⟨rfl, ⟨_, _, _, _, _, _, HP2.out, World.ownsRow_nil _ _ _ _, World.ownsRow_nil _ _ _ _, XOwn.nil _ _⟩, ⟨hfc, zms, z64, z32, znil, z64, z32, z64, z64, z64, zex⟩, HO2.out.drewN q⟩
  | cons b r =>
    have hd : decide ((0 : Int) < (((b :: r).length : Nat) : Int)) = true := by simp
    go_wp2_with fail
    refine (bad_yes _ _).mono ?_
    rintro e w9 ⟨rfl, rfl⟩
    go_wp2_with fail
    rw [show bodyP 11 src dst l = .error 4 by unfold bodyP; (try simp [hc, andP, restP, hl])]
    exact ⟨rfl, rfl, HO2.out.drewN q, _, HP2.out, rfl⟩
end Go.Proofs.Ythkfgjdbgnbjkaa
