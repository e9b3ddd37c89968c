/- The walk of packet's reader: fields, kind 8. (Printed by pkfields.py.) -/
import Derived.Test.YthkfgjdbgnbjkaaPkO
namespace Go.Proofs.Ythkfgjdbgnbjkaa
open Go.RowKit
set_option linter.unusedSimpArgs false
set_option linter.unusedVariables false

set_option maxHeartbeats 3200000 in
set_option maxRecDepth 8000 in
theorem rfields8 (g P : Nat) (s : ByteArray) (l : List UInt8) (src dst : Int) (w : World) (h : RdL w g s l) (hs : s.size ≤ 1000000) (hP : w.heap[P]? = some (.cells #[.int .i64 8, .int .i64 src, .int .i64 dst, .int .u64 0, .int .i64 0, .int .i64 0, .int .u32 0, .int .u64 0, .int .i64 0, .slice none 0 0, .string ⟨#[]⟩, .int .u64 0, .int .u32 0, .slice none 0 0, .int .u64 0, .int .i64 0, .int .u32 0, .int .u64 0, .int .u64 0, .int .i64 0, .int .u64 0, .slice none 0 0] 73 (0, 0))) (hPg : P ≠ g) :
    Calls Try.prog 69 #[.agg #[.pointer (some ⟨g, 0, none⟩)], .pointer (some ⟨P, 0, none⟩)] w (FOut g P w (bodyP 8 src dst l)) := by
  have hg := h.lt
  have hPl := blk_lt hP
  have nb : w.heap.size ≠ g := by omega
  have nP : w.heap.size ≠ P := by omega
  have hb0 : Below w.heap.size w (w.alloc (.cells #[.pointer (some ⟨g, 0, none⟩)] 110)) := below_alloc (Below.refl _ _) _
  have HO0 := Lib.hid (Two.of_below (g := g) (P := P) hb0)
  have HB0 := Lib.hid (heap_alloc_new w (.cells #[.pointer (some ⟨g, 0, none⟩)] 110))
  have HP0 := Lib.hid ((Below.heap_alloc w (.cells #[.pointer (some ⟨g, 0, none⟩)] 110) P hPl).trans hP)
  have H1 := Lib.hid (rconf_any g s l _ (h.kept hb0) hs)
  clear hb0 h hP
  go_enter Try.func69, Try.ntmps69
  go_wp2_with fail
  refine H1.out.mono ?_
  cases hc : confP l with
  | error z =>
    rintro e w1 ⟨rfl, ho1⟩
    go_wp2_with fail
    rw [show bodyP 8 src dst l = .error z by unfold bodyP; (try simp only [hc, andP, restP]); (try simp [hc, andP])]
    exact ⟨rfl, rfl, HO0.out.only ho1, _, (ho1.block P (blk_lt HP0.out) (by simpa using hPg)).trans HP0.out, rfl⟩
  | ok y =>
  obtain ⟨⟨ce, cr⟩, r1⟩ := y
  rintro e w1 ⟨rfl, hr1, ho1⟩
  have HB1 := Lib.hid ((ho1.block w.heap.size (blk_lt HB0.out) (by simpa using nb)).trans HB0.out)
  have HP1 := Lib.hid ((ho1.block P (blk_lt HP0.out) (by simpa using hPg)).trans HP0.out)
  have HO1 := Lib.hid (HO0.out.only ho1)
  have HR1 := Lib.hid hr1
  clear HB0 HP0 HO0 ho1 hr1
  have k3 : w1.cell? ⟨P, 3, none⟩ = some (.int .u64 0) := cell_of_row _ _ 3 _ _ _ HP1.out
  have f3 : w1.frozen? ⟨P, 3, none⟩ = false := by simp [World.frozen?, HP1.out]
  have k4 : w1.cell? ⟨P, 4, none⟩ = some (.int .i64 0) := cell_of_row _ _ 4 _ _ _ HP1.out
  have f4 : w1.frozen? ⟨P, 4, none⟩ = false := by simp [World.frozen?, HP1.out]
  have HP2 : Hid (((w1.setCell ⟨P, 3, none⟩ (.int .u64 (ce : Int))).setCell ⟨P, 4, none⟩ (.int .i64 cr)).heap[P]? = some (.cells #[.int .i64 8, .int .i64 src, .int .i64 dst, .int .u64 (ce : Int), .int .i64 cr, .int .i64 0, .int .u32 0, .int .u64 0, .int .i64 0, .slice none 0 0, .string ⟨#[]⟩, .int .u64 0, .int .u32 0, .slice none 0 0, .int .u64 0, .int .i64 0, .int .u32 0, .int .u64 0, .int .u64 0, .int .i64 0, .int .u64 0, .slice none 0 0] 73 (0, 0))) := (blk_setj (blk_setj HP1.out 3 (.int .u64 (ce : Int))) 4 (.int .i64 cr))
  have HB2 := Lib.hid ((Below.heap_setCell (w1.setCell ⟨P, 3, none⟩ (.int .u64 (ce : Int))) ⟨P, 4, none⟩ (.int .i64 cr) w.heap.size nP).trans ((Below.heap_setCell w1 ⟨P, 3, none⟩ (.int .u64 (ce : Int)) w.heap.size nP).trans HB1.out))
  have HR2 := Lib.hid (RdL.set (RdL.set HR1.out hPg 3 (.int .u64 (ce : Int))) hPg 4 (.int .i64 cr))
  have HO2 := Lib.hid (Two.set (Two.set HO1.out 3 (.int .u64 (ce : Int))) 4 (.int .i64 cr))
  clear HP1 HB1 HR1 HO1
  have bx : ((w1.setCell ⟨P, 3, none⟩ (.int .u64 (ce : Int))).setCell ⟨P, 4, none⟩ (.int .i64 cr)).cell? ⟨w.heap.size, 0, none⟩ = some (.pointer (some ⟨g, 0, none⟩)) := blk_cell HB2.out
  have a0 : ((w1.setCell ⟨P, 3, none⟩ (.int .u64 (ce : Int))).setCell ⟨P, 4, none⟩ (.int .i64 cr)).cell? ⟨P, 0, none⟩ = some (.int .i64 8) := cell_of_row _ _ 0 _ _ _ HP2.out
  have a1 : ((w1.setCell ⟨P, 3, none⟩ (.int .u64 (ce : Int))).setCell ⟨P, 4, none⟩ (.int .i64 cr)).cell? ⟨P, 1, none⟩ = some (.int .i64 src) := cell_of_row _ _ 1 _ _ _ HP2.out
  have hfc := confP_shape hc
  go_wp2_with fail
  clear k3 f3
  clear k4 f4
  generalize ((w1.setCell ⟨P, 3, none⟩ (.int .u64 (ce : Int))).setCell ⟨P, 4, none⟩ (.int .i64 cr)) = w2 at *
  refine wp_region_held_drew (S := fun w' => w'.cell? ⟨w.heap.size, 0, none⟩ = some (.pointer (some ⟨g, 0, none⟩))) (by kernel_rfl) ?_ (fun hHeld => ?_)
  · exact (blk_cell HB2.out)
  have HP3 : Hid (w2.drew.heap[P]? = some (.cells #[.int .i64 8, .int .i64 src, .int .i64 dst, .int .u64 (ce : Int), .int .i64 cr, .int .i64 0, .int .u32 0, .int .u64 0, .int .i64 0, .slice none 0 0, .string ⟨#[]⟩, .int .u64 0, .int .u32 0, .slice none 0 0, .int .u64 0, .int .i64 0, .int .u32 0, .int .u64 0, .int .u64 0, .int .i64 0, .int .u64 0, .slice none 0 0] 73 (0, 0))) := HP2
  have HB3 : Hid (w2.drew.heap[w.heap.size]? = some (.cells #[.pointer (some ⟨g, 0, none⟩)] 110 (0, 0))) := HB2
  have HR3 : Hid (RdL w2.drew g s r1) := HR2
  have HO3 := Lib.hid HO2.out.drew
  clear HP2 HB2 HR2 HO2
  generalize w2.drew = w3 at *
  refine wpAnyH_take (i := 0) (v := .pointer (some ⟨P, 0, none⟩)) rfl (by kernel_rfl) (by kernel_rfl) (by kernel_rfl) (fun _ _ _ h => h) (Or.inl ⟨by rfl, ?_⟩) (by assumption) ?_
  · intro w hSw; (try dsimp only at hSw); go_simp
  simp only [Act.put, List.setIfInBounds_toArray, List.set_cons_zero, List.set_cons_succ]
  refine wpAnyH_take (i := 1) (v := .pointer (some ⟨P, 0, none⟩)) rfl (by kernel_rfl) (by kernel_rfl) (by kernel_rfl) (fun _ _ _ h => h) (Or.inl ⟨by rfl, ?_⟩) (by assumption) ?_
  · intro w hSw; (try dsimp only at hSw); go_simp
  simp only [Act.put, List.setIfInBounds_toArray, List.set_cons_zero, List.set_cons_succ]
  refine wpAnyH_take (i := 2) (v := .agg #[.pointer (some ⟨g, 0, none⟩)]) rfl (by kernel_rfl) (by kernel_rfl) (by kernel_rfl) (fun _ _ _ h => h) (Or.inl ⟨by rfl, ?_⟩) (by assumption) ?_
  · intro w hSw; (try dsimp only at hSw); go_simp
  simp only [Act.put, List.setIfInBounds_toArray, List.set_cons_zero, List.set_cons_succ]
  refine wpAnyH_take (i := 4) (v := .pointer (some ⟨w.heap.size, 0, none⟩)) rfl (by kernel_rfl) (by kernel_rfl) (by kernel_rfl) (fun _ _ _ h => h) (Or.inl ⟨by rfl, ?_⟩) (by assumption) ?_
  · intro w hSw; (try dsimp only at hSw); go_simp
  simp only [Act.put, List.setIfInBounds_toArray, List.set_cons_zero, List.set_cons_succ]
  refine wpAnyH_take (i := 5) (v := .pointer (some ⟨g, 0, none⟩)) rfl (by kernel_rfl) (by kernel_rfl) (by kernel_rfl) (fun _ _ _ h => h) (Or.inl ⟨by rfl, ?_⟩) (by assumption) ?_
  · intro w hSw; (try dsimp only at hSw); go_simp
  simp only [Act.put, List.setIfInBounds_toArray, List.set_cons_zero, List.set_cons_succ]
  refine wpAnyH_ready (rs := [3]) (by kernel_rfl) (by simp) ?_
  refine AllReadyH.cons rfl (fun K hK => ?_) AllReadyH.nil
  go_simp
  refine (rproc_any' g s r1 _ HR3.out hs).mono ?_
  cases h1 : procP r1 with
  | error z =>
    rintro e w4 ⟨rfl, ho1⟩
    rw [show bodyP 8 src dst l = .error z by unfold bodyP; (try simp only [hc, h1, andP, restP]); (try simp [hc, h1, andP])]
    exact ⟨rfl, rfl, HO3.out.only ho1, _, (ho1.block P (blk_lt HP3.out) (by simpa using hPg)).trans HP3.out, rfl⟩
  | ok y =>
  obtain ⟨wh, r4⟩ := y
  clear hHeld
  rintro e w4 ⟨rfl, hr1, ho1⟩
  have HB4 := Lib.hid ((ho1.block w.heap.size (blk_lt HB3.out) (by simpa using nb)).trans HB3.out)
  have HP4 := Lib.hid ((ho1.block P (blk_lt HP3.out) (by simpa using hPg)).trans HP3.out)
  have HO4 := Lib.hid (HO3.out.only ho1)
  have HR4 := Lib.hid hr1
  clear HB3 HP3 HO3 ho1 hr1 HR3
  refine hK.out _ _ (blk_cell HB4.out) (fun hHeld => ?_)
  clear hK K
  refine wpAnyH_ready (rs := [6]) (by kernel_rfl) (by simp) ?_
  refine AllReadyH.cons rfl (fun K hK => ?_) AllReadyH.nil
  go_simp
  refine (rnum_any g s r4 4 _ HR4.out hs (by omega)).mono ?_
  cases h2 : numP 4 r4 with
  | error z =>
    rintro e w5 ⟨rfl, ho1⟩
    rw [show bodyP 8 src dst l = .error z by unfold bodyP; (try simp only [hc, h1, h2, andP, restP]); (try simp [hc, h1, h2, andP])]
    exact ⟨rfl, rfl, HO4.out.only ho1, _, (ho1.block P (blk_lt HP4.out) (by simpa using hPg)).trans HP4.out, rfl⟩
  | ok y =>
  obtain ⟨se, r5⟩ := y
  clear hHeld
  rintro e w5 ⟨rfl, hr1, ho1⟩
  have HB5 := Lib.hid ((ho1.block w.heap.size (blk_lt HB4.out) (by simpa using nb)).trans HB4.out)
  have HP5 := Lib.hid ((ho1.block P (blk_lt HP4.out) (by simpa using hPg)).trans HP4.out)
  have HO5 := Lib.hid (HO4.out.only ho1)
  have HR5 := Lib.hid hr1
  clear HB4 HP4 HO4 ho1 hr1 HR4
  refine hK.out _ _ (blk_cell HB5.out) (fun hHeld => ?_)
  clear hK K
  have hfe : se < 4294967296 := (numP_ok h2).1
  have eu : IntKind.u32.wrap (se : Int) = (se : Int) := by rw [IntKind.wrap_u32]; omega
  refine wpAnyH_take (i := 7) (v := .int .u32 (se : Int)) rfl (by kernel_rfl) (by kernel_rfl) (by kernel_rfl) (fun _ _ _ h => h) (Or.inl ⟨by rfl, ?_⟩) (by assumption) ?_
  · intro w hSw; (try dsimp only at hSw); go_simp
  simp only [Act.put, List.setIfInBounds_toArray, List.set_cons_zero, List.set_cons_succ]
  refine wpAnyH_take (i := 8) (v := .pointer (some ⟨P, 0, none⟩)) rfl (by kernel_rfl) (by kernel_rfl) (by kernel_rfl) (fun _ _ _ h => h) (Or.inl ⟨by rfl, ?_⟩) (by assumption) ?_
  · intro w hSw; (try dsimp only at hSw); go_simp
  simp only [Act.put, List.setIfInBounds_toArray, List.set_cons_zero, List.set_cons_succ]
  refine wpAnyH_take (i := 9) (v := .pointer (some ⟨P, 15, none⟩)) rfl (by kernel_rfl) (by kernel_rfl) (by kernel_rfl) (fun _ _ _ h => h) (Or.inl ⟨by rfl, ?_⟩) (by assumption) ?_
  · intro w hSw; (try dsimp only at hSw); go_simp
  simp only [Act.put, List.setIfInBounds_toArray, List.set_cons_zero, List.set_cons_succ]
  have k15 : w5.cell? ⟨P, 15, none⟩ = some (.int .i64 0) := cell_of_row _ _ 15 _ _ _ HP5.out
  have f15 : w5.frozen? ⟨P, 15, none⟩ = false := by simp [World.frozen?, HP5.out]
  have HP6 : Hid ((w5.setCell ⟨P, 15, none⟩ (.int .i64 wh)).heap[P]? = some (.cells #[.int .i64 8, .int .i64 src, .int .i64 dst, .int .u64 (ce : Int), .int .i64 cr, .int .i64 0, .int .u32 0, .int .u64 0, .int .i64 0, .slice none 0 0, .string ⟨#[]⟩, .int .u64 0, .int .u32 0, .slice none 0 0, .int .u64 0, .int .i64 wh, .int .u32 0, .int .u64 0, .int .u64 0, .int .i64 0, .int .u64 0, .slice none 0 0] 73 (0, 0))) := (blk_setj HP5.out 15 (.int .i64 wh))
  have HB6 := Lib.hid ((Below.heap_setCell w5 ⟨P, 15, none⟩ (.int .i64 wh) w.heap.size nP).trans HB5.out)
  have HR6 := Lib.hid (RdL.set HR5.out hPg 15 (.int .i64 wh))
  have HO6 := Lib.hid (Two.set HO5.out 15 (.int .i64 wh))
  clear HP5 HB5 HR5 HO5
  refine wpAnyH_ready (rs := [10]) (by kernel_rfl) (by simp) ?_
  refine AllReadyH.cons rfl (fun K hK => ?_) AllReadyH.nil
  go_simp
  clear hHeld
  clear k15 f15
  generalize (w5.setCell ⟨P, 15, none⟩ (.int .i64 wh)) = w6 at *
  refine hK.out _ _ (blk_cell HB6.out) (fun hHeld => ?_)
  clear hK K
  refine wpAnyH_take (i := 11) (v := .pointer (some ⟨P, 0, none⟩)) rfl (by kernel_rfl) (by kernel_rfl) (by kernel_rfl) (fun _ _ _ h => h) (Or.inl ⟨by rfl, ?_⟩) (by assumption) ?_
  · intro w hSw; (try dsimp only at hSw); go_simp
  simp only [Act.put, List.setIfInBounds_toArray, List.set_cons_zero, List.set_cons_succ]
  refine wpAnyH_take (i := 12) (v := .pointer (some ⟨P, 16, none⟩)) rfl (by kernel_rfl) (by kernel_rfl) (by kernel_rfl) (fun _ _ _ h => h) (Or.inl ⟨by rfl, ?_⟩) (by assumption) ?_
  · intro w hSw; (try dsimp only at hSw); go_simp
  simp only [Act.put, List.setIfInBounds_toArray, List.set_cons_zero, List.set_cons_succ]
  have k16 : w6.cell? ⟨P, 16, none⟩ = some (.int .u32 0) := cell_of_row _ _ 16 _ _ _ HP6.out
  have f16 : w6.frozen? ⟨P, 16, none⟩ = false := by simp [World.frozen?, HP6.out]
  have HP7 : Hid ((w6.setCell ⟨P, 16, none⟩ (.int .u32 (se : Int))).heap[P]? = some (.cells #[.int .i64 8, .int .i64 src, .int .i64 dst, .int .u64 (ce : Int), .int .i64 cr, .int .i64 0, .int .u32 0, .int .u64 0, .int .i64 0, .slice none 0 0, .string ⟨#[]⟩, .int .u64 0, .int .u32 0, .slice none 0 0, .int .u64 0, .int .i64 wh, .int .u32 (se : Int), .int .u64 0, .int .u64 0, .int .i64 0, .int .u64 0, .slice none 0 0] 73 (0, 0))) := (blk_setj HP6.out 16 (.int .u32 (se : Int)))
  have HB7 := Lib.hid ((Below.heap_setCell w6 ⟨P, 16, none⟩ (.int .u32 (se : Int)) w.heap.size nP).trans HB6.out)
  have HR7 := Lib.hid (RdL.set HR6.out hPg 16 (.int .u32 (se : Int)))
  have HO7 := Lib.hid (Two.set HO6.out 16 (.int .u32 (se : Int)))
  clear HP6 HB6 HR6 HO6
  refine wpAnyH_ready (rs := [13]) (by kernel_rfl) (by simp) ?_
  refine AllReadyH.cons rfl (fun K hK => ?_) AllReadyH.nil
  go_simp
  clear hHeld
  clear k16 f16
  generalize (w6.setCell ⟨P, 16, none⟩ (.int .u32 (se : Int))) = w7 at *
  refine hK.out _ _ (blk_cell HB7.out) (fun hHeld => ?_)
  clear hK K
  refine wpAnyH_done (by kernel_rfl) ?_ _
  have bx := blk_cell HB7.out
  go_wp2_with fail
  refine (left_rd g s r5 w7 HR7.out hs).mono ?_
  rintro e w8 ⟨rfl, q, rfl⟩
  cases hl : r5 with
  | nil =>
    go_wp2_with fail
    refine (bad_no _ _).mono ?_
    rintro e w9 ⟨rfl, rfl⟩
    go_wp2_with fail
    go_end0
    rw [show bodyP 8 src dst l = .ok (⟨8, src, dst, ⟨ce, cr⟩, .zero, 0, 0, [], 0, wh, se, 0, .zero, 0, []⟩ : Pk) by unfold bodyP; (try simp [hc, h1, h2, andP, restP, hl, Pk.zero])]
    exact ⟨rfl, ⟨_, _, _, _, _, _, HP7.out, World.ownsRow_nil _ _ _ _, World.ownsRow_nil _ _ _ _, XOwn.nil _ _⟩, ⟨hfc, zms, z64, z32, znil, z64, hfe, z64, z64, z64, zex⟩, HO7.out.drewN q⟩
  | cons b r =>
    have hd : decide ((0 : Int) < (((b :: r).length : Nat) : Int)) = true := by simp
    go_wp2_with fail
    refine (bad_yes _ _).mono ?_
    rintro e w9 ⟨rfl, rfl⟩
    go_wp2_with fail
    rw [show bodyP 8 src dst l = .error 4 by unfold bodyP; (try simp [hc, h1, h2, andP, restP, hl])]
    exact ⟨rfl, rfl, HO7.out.drewN q, _, HP7.out, rfl⟩
end Go.Proofs.Ythkfgjdbgnbjkaa
