/- The walk of packet's reader: fields, kind 4. (Printed by pkfields.py.) -/
import Derived.Test.YthkfgjdbgnbjkaaPkO
namespace Go.Proofs.Ythkfgjdbgnbjkaa
open Go.RowKit
set_option linter.unusedSimpArgs false
set_option linter.unusedVariables false

set_option maxHeartbeats 3200000 in
set_option maxRecDepth 8000 in
theorem rfields4 (g P : Nat) (s : ByteArray) (l : List UInt8) (src dst : Int) (w : World) (h : RdL w g s l) (hs : s.size ≤ 1000000) (hP : w.heap[P]? = some (.cells #[.int .i64 4, .int .i64 src, .int .i64 dst, .int .u64 0, .int .i64 0, .int .i64 0, .int .u32 0, .int .u64 0, .int .i64 0, .slice none 0 0, .string ⟨#[]⟩, .int .u64 0, .int .u32 0, .slice none 0 0, .int .u64 0, .int .i64 0, .int .u32 0, .int .u64 0, .int .u64 0, .int .i64 0, .int .u64 0, .slice none 0 0] 73 (0, 0))) (hPg : P ≠ g) :
    Calls Try.prog 69 #[.agg #[.pointer (some ⟨g, 0, none⟩)], .pointer (some ⟨P, 0, none⟩)] w (FOut g P w (bodyP 4 src dst l)) := by
  have hg := h.lt
  have hPl := blk_lt hP
  have nb : w.heap.size ≠ g := by omega
  have nP : w.heap.size ≠ P := by omega
  have hb0 : Below w.heap.size w (w.alloc (.cells #[.pointer (some ⟨g, 0, none⟩)] 110)) := below_alloc (Below.refl _ _) _
  have HO0 := Lib.hid (Two.of_below (g := g) (P := P) hb0)
  have HB0 := Lib.hid (heap_alloc_new w (.cells #[.pointer (some ⟨g, 0, none⟩)] 110))
  have HP0 := Lib.hid ((Below.heap_alloc w (.cells #[.pointer (some ⟨g, 0, none⟩)] 110) P hPl).trans hP)
  have H1 := Lib.hid (rconf_any g s l _ (h.kept hb0) hs)
  clear hb0 h hP
  go_enter Try.func69, Try.ntmps69
  go_wp2_with fail
  refine H1.out.mono ?_
  cases hc : confP l with
  | error z =>
    rintro e w1 ⟨rfl, ho1⟩
    go_wp2_with fail
    rw [show bodyP 4 src dst l = .error z by unfold bodyP; (try simp only [hc, andP, restP]); (try simp [hc, andP])]
    exact ⟨rfl, rfl, HO0.out.only ho1, _, (ho1.block P (blk_lt HP0.out) (by simpa using hPg)).trans HP0.out, rfl⟩
  | ok y =>
  obtain ⟨⟨ce, cr⟩, r1⟩ := y
  rintro e w1 ⟨rfl, hr1, ho1⟩
  have HB1 := Lib.hid ((ho1.block w.heap.size (blk_lt HB0.out) (by simpa using nb)).trans HB0.out)
  have HP1 := Lib.hid ((ho1.block P (blk_lt HP0.out) (by simpa using hPg)).trans HP0.out)
  have HO1 := Lib.hid (HO0.out.only ho1)
  have HR1 := Lib.hid hr1
  clear HB0 HP0 HO0 ho1 hr1
  have k3 : w1.cell? ⟨P, 3, none⟩ = some (.int .u64 0) := cell_of_row _ _ 3 _ _ _ HP1.out
  have f3 : w1.frozen? ⟨P, 3, none⟩ = false := by simp [World.frozen?, HP1.out]
  have k4 : w1.cell? ⟨P, 4, none⟩ = some (.int .i64 0) := cell_of_row _ _ 4 _ _ _ HP1.out
  have f4 : w1.frozen? ⟨P, 4, none⟩ = false := by simp [World.frozen?, HP1.out]
  have HP2 : Hid (((w1.setCell ⟨P, 3, none⟩ (.int .u64 (ce : Int))).setCell ⟨P, 4, none⟩ (.int .i64 cr)).heap[P]? = some (.cells #[.int .i64 4, .int .i64 src, .int .i64 dst, .int .u64 (ce : Int), .int .i64 cr, .int .i64 0, .int .u32 0, .int .u64 0, .int .i64 0, .slice none 0 0, .string ⟨#[]⟩, .int .u64 0, .int .u32 0, .slice none 0 0, .int .u64 0, .int .i64 0, .int .u32 0, .int .u64 0, .int .u64 0, .int .i64 0, .int .u64 0, .slice none 0 0] 73 (0, 0))) := (blk_setj (blk_setj HP1.out 3 (.int .u64 (ce : Int))) 4 (.int .i64 cr))
  have HB2 := Lib.hid ((Below.heap_setCell (w1.setCell ⟨P, 3, none⟩ (.int .u64 (ce : Int))) ⟨P, 4, none⟩ (.int .i64 cr) w.heap.size nP).trans ((Below.heap_setCell w1 ⟨P, 3, none⟩ (.int .u64 (ce : Int)) w.heap.size nP).trans HB1.out))
  have HR2 := Lib.hid (RdL.set (RdL.set HR1.out hPg 3 (.int .u64 (ce : Int))) hPg 4 (.int .i64 cr))
  have HO2 := Lib.hid (Two.set (Two.set HO1.out 3 (.int .u64 (ce : Int))) 4 (.int .i64 cr))
  clear HP1 HB1 HR1 HO1
  have bx : ((w1.setCell ⟨P, 3, none⟩ (.int .u64 (ce : Int))).setCell ⟨P, 4, none⟩ (.int .i64 cr)).cell? ⟨w.heap.size, 0, none⟩ = some (.pointer (some ⟨g, 0, none⟩)) := blk_cell HB2.out
  have a0 : ((w1.setCell ⟨P, 3, none⟩ (.int .u64 (ce : Int))).setCell ⟨P, 4, none⟩ (.int .i64 cr)).cell? ⟨P, 0, none⟩ = some (.int .i64 4) := cell_of_row _ _ 0 _ _ _ HP2.out
  have a1 : ((w1.setCell ⟨P, 3, none⟩ (.int .u64 (ce : Int))).setCell ⟨P, 4, none⟩ (.int .i64 cr)).cell? ⟨P, 1, none⟩ = some (.int .i64 src) := cell_of_row _ _ 1 _ _ _ HP2.out
  have hfc := confP_shape hc
  go_wp2_with fail
  clear k3 f3
  clear k4 f4
  generalize ((w1.setCell ⟨P, 3, none⟩ (.int .u64 (ce : Int))).setCell ⟨P, 4, none⟩ (.int .i64 cr)) = w2 at *
  refine (rconf_any g s r1 _ HR2.out hs).mono ?_
  cases h1 : confP r1 with
  | error z =>
    rintro e w3 ⟨rfl, ho1⟩
    go_wp2_with fail
    rw [show bodyP 4 src dst l = .error z by unfold bodyP; (try simp only [hc, h1, andP, restP]); (try simp [hc, h1, andP])]
    exact ⟨rfl, rfl, HO2.out.only ho1, _, (ho1.block P (blk_lt HP2.out) (by simpa using hPg)).trans HP2.out, rfl⟩
  | ok y =>
  obtain ⟨⟨pe, pr⟩, r3⟩ := y
  rintro e w3 ⟨rfl, hr1, ho1⟩
  have HB3 := Lib.hid ((ho1.block w.heap.size (blk_lt HB2.out) (by simpa using nb)).trans HB2.out)
  have HP3 := Lib.hid ((ho1.block P (blk_lt HP2.out) (by simpa using hPg)).trans HP2.out)
  have HO3 := Lib.hid (HO2.out.only ho1)
  have HR3 := Lib.hid hr1
  clear HB2 HP2 HO2 ho1 hr1 HR2
  have hfp := confP_shape h1
  have k18 : w3.cell? ⟨P, 18, none⟩ = some (.int .u64 0) := cell_of_row _ _ 18 _ _ _ HP3.out
  have f18 : w3.frozen? ⟨P, 18, none⟩ = false := by simp [World.frozen?, HP3.out]
  have k19 : w3.cell? ⟨P, 19, none⟩ = some (.int .i64 0) := cell_of_row _ _ 19 _ _ _ HP3.out
  have f19 : w3.frozen? ⟨P, 19, none⟩ = false := by simp [World.frozen?, HP3.out]
  have HP4 : Hid (((w3.setCell ⟨P, 18, none⟩ (.int .u64 (pe : Int))).setCell ⟨P, 19, none⟩ (.int .i64 pr)).heap[P]? = some (.cells #[.int .i64 4, .int .i64 src, .int .i64 dst, .int .u64 (ce : Int), .int .i64 cr, .int .i64 0, .int .u32 0, .int .u64 0, .int .i64 0, .slice none 0 0, .string ⟨#[]⟩, .int .u64 0, .int .u32 0, .slice none 0 0, .int .u64 0, .int .i64 0, .int .u32 0, .int .u64 0, .int .u64 (pe : Int), .int .i64 pr, .int .u64 0, .slice none 0 0] 73 (0, 0))) := (blk_setj (blk_setj HP3.out 18 (.int .u64 (pe : Int))) 19 (.int .i64 pr))
  have HB4 := Lib.hid ((Below.heap_setCell (w3.setCell ⟨P, 18, none⟩ (.int .u64 (pe : Int))) ⟨P, 19, none⟩ (.int .i64 pr) w.heap.size nP).trans ((Below.heap_setCell w3 ⟨P, 18, none⟩ (.int .u64 (pe : Int)) w.heap.size nP).trans HB3.out))
  have HR4 := Lib.hid (RdL.set (RdL.set HR3.out hPg 18 (.int .u64 (pe : Int))) hPg 19 (.int .i64 pr))
  have HO4 := Lib.hid (Two.set (Two.set HO3.out 18 (.int .u64 (pe : Int))) 19 (.int .i64 pr))
  clear HP3 HB3 HR3 HO3
  have bx : ((w3.setCell ⟨P, 18, none⟩ (.int .u64 (pe : Int))).setCell ⟨P, 19, none⟩ (.int .i64 pr)).cell? ⟨w.heap.size, 0, none⟩ = some (.pointer (some ⟨g, 0, none⟩)) := blk_cell HB4.out
  clear bx
  have bx := blk_cell HB4.out
  go_wp2_with fail
  clear k18 f18
  clear k19 f19
  generalize ((w3.setCell ⟨P, 18, none⟩ (.int .u64 (pe : Int))).setCell ⟨P, 19, none⟩ (.int .i64 pr)) = w4 at *
  refine wp_region_held_drew (S := fun w' => w'.cell? ⟨w.heap.size, 0, none⟩ = some (.pointer (some ⟨g, 0, none⟩))) (by kernel_rfl) ?_ (fun hHeld => ?_)
  · exact (blk_cell HB4.out)
  have HP5 : Hid (w4.drew.heap[P]? = some (.cells #[.int .i64 4, .int .i64 src, .int .i64 dst, .int .u64 (ce : Int), .int .i64 cr, .int .i64 0, .int .u32 0, .int .u64 0, .int .i64 0, .slice none 0 0, .string ⟨#[]⟩, .int .u64 0, .int .u32 0, .slice none 0 0, .int .u64 0, .int .i64 0, .int .u32 0, .int .u64 0, .int .u64 (pe : Int), .int .i64 pr, .int .u64 0, .slice none 0 0] 73 (0, 0))) := HP4
  have HB5 : Hid (w4.drew.heap[w.heap.size]? = some (.cells #[.pointer (some ⟨g, 0, none⟩)] 110 (0, 0))) := HB4
  have HR5 : Hid (RdL w4.drew g s r3) := HR4
  have HO5 := Lib.hid HO4.out.drew
  clear HP4 HB4 HR4 HO4
  generalize w4.drew = w5 at *
  refine wpAnyH_take (i := 0) (v := .pointer (some ⟨P, 0, none⟩)) rfl (by kernel_rfl) (by kernel_rfl) (by kernel_rfl) (fun _ _ _ h => h) (Or.inl ⟨by rfl, ?_⟩) (by assumption) ?_
  · intro w hSw; (try dsimp only at hSw); go_simp
  simp only [Act.put, List.setIfInBounds_toArray, List.set_cons_zero, List.set_cons_succ]
  refine wpAnyH_take (i := 1) (v := .pointer (some ⟨P, 0, none⟩)) rfl (by kernel_rfl) (by kernel_rfl) (by kernel_rfl) (fun _ _ _ h => h) (Or.inl ⟨by rfl, ?_⟩) (by assumption) ?_
  · intro w hSw; (try dsimp only at hSw); go_simp
  simp only [Act.put, List.setIfInBounds_toArray, List.set_cons_zero, List.set_cons_succ]
  refine wpAnyH_take (i := 2) (v := .pointer (some ⟨w.heap.size, 0, none⟩)) rfl (by kernel_rfl) (by kernel_rfl) (by kernel_rfl) (fun _ _ _ h => h) (Or.inl ⟨by rfl, ?_⟩) (by assumption) ?_
  · intro w hSw; (try dsimp only at hSw); go_simp
  simp only [Act.put, List.setIfInBounds_toArray, List.set_cons_zero, List.set_cons_succ]
  refine wpAnyH_take (i := 3) (v := .pointer (some ⟨g, 0, none⟩)) rfl (by kernel_rfl) (by kernel_rfl) (by kernel_rfl) (fun _ _ _ h => h) (Or.inl ⟨by rfl, ?_⟩) (by assumption) ?_
  · intro w hSw; (try dsimp only at hSw); go_simp
  simp only [Act.put, List.setIfInBounds_toArray, List.set_cons_zero, List.set_cons_succ]
  refine wpAnyH_take (i := 5) (v := .pointer (some ⟨w.heap.size, 0, none⟩)) rfl (by kernel_rfl) (by kernel_rfl) (by kernel_rfl) (fun _ _ _ h => h) (Or.inl ⟨by rfl, ?_⟩) (by assumption) ?_
  · intro w hSw; (try dsimp only at hSw); go_simp
  simp only [Act.put, List.setIfInBounds_toArray, List.set_cons_zero, List.set_cons_succ]
  refine wpAnyH_take (i := 6) (v := .pointer (some ⟨g, 0, none⟩)) rfl (by kernel_rfl) (by kernel_rfl) (by kernel_rfl) (fun _ _ _ h => h) (Or.inl ⟨by rfl, ?_⟩) (by assumption) ?_
  · intro w hSw; (try dsimp only at hSw); go_simp
  simp only [Act.put, List.setIfInBounds_toArray, List.set_cons_zero, List.set_cons_succ]
  refine wpAnyH_ready (rs := [4]) (by kernel_rfl) (by simp) ?_
  refine AllReadyH.cons rfl (fun K hK => ?_) AllReadyH.nil
  go_simp
  refine (rnum_any g s r3 8 _ HR5.out hs (by omega)).mono ?_
  cases h2 : numP 8 r3 with
  | error z =>
    rintro e w6 ⟨rfl, ho1⟩
    rw [show bodyP 4 src dst l = .error z by unfold bodyP; (try simp only [hc, h1, h2, andP, restP]); (try simp [hc, h1, h2, andP])]
    exact ⟨rfl, rfl, HO5.out.only ho1, _, (ho1.block P (blk_lt HP5.out) (by simpa using hPg)).trans HP5.out, rfl⟩
  | ok y =>
  obtain ⟨ep, r6⟩ := y
  clear hHeld
  rintro e w6 ⟨rfl, hr1, ho1⟩
  have HB6 := Lib.hid ((ho1.block w.heap.size (blk_lt HB5.out) (by simpa using nb)).trans HB5.out)
  have HP6 := Lib.hid ((ho1.block P (blk_lt HP5.out) (by simpa using hPg)).trans HP5.out)
  have HO6 := Lib.hid (HO5.out.only ho1)
  have HR6 := Lib.hid hr1
  clear HB5 HP5 HO5 ho1 hr1 HR5
  refine hK.out _ _ (blk_cell HB6.out) (fun hHeld => ?_)
  clear hK K
  refine wpAnyH_ready (rs := [7]) (by kernel_rfl) (by simp) ?_
  refine AllReadyH.cons rfl (fun K hK => ?_) AllReadyH.nil
  go_simp
  refine (rnum_any g s r6 8 _ HR6.out hs (by omega)).mono ?_
  cases h3 : numP 8 r6 with
  | error z =>
    rintro e w7 ⟨rfl, ho1⟩
    rw [show bodyP 4 src dst l = .error z by unfold bodyP; (try simp only [hc, h1, h2, h3, andP, restP]); (try simp [hc, h1, h2, h3, andP])]
    exact ⟨rfl, rfl, HO6.out.only ho1, _, (ho1.block P (blk_lt HP6.out) (by simpa using hPg)).trans HP6.out, rfl⟩
  | ok y =>
  obtain ⟨me, r7⟩ := y
  clear hHeld
  rintro e w7 ⟨rfl, hr1, ho1⟩
  have HB7 := Lib.hid ((ho1.block w.heap.size (blk_lt HB6.out) (by simpa using nb)).trans HB6.out)
  have HP7 := Lib.hid ((ho1.block P (blk_lt HP6.out) (by simpa using hPg)).trans HP6.out)
  have HO7 := Lib.hid (HO6.out.only ho1)
  have HR7 := Lib.hid hr1
  clear HB6 HP6 HO6 ho1 hr1 HR6
  refine hK.out _ _ (blk_cell HB7.out) (fun hHeld => ?_)
  clear hK K
  have hfs : U64 ep := (numP_ok h2).1
  have hfe : U64 me := (numP_ok h3).1
  refine wpAnyH_take (i := 8) (v := .pointer (some ⟨P, 0, none⟩)) rfl (by kernel_rfl) (by kernel_rfl) (by kernel_rfl) (fun _ _ _ h => h) (Or.inl ⟨by rfl, ?_⟩) (by assumption) ?_
  · intro w hSw; (try dsimp only at hSw); go_simp
  simp only [Act.put, List.setIfInBounds_toArray, List.set_cons_zero, List.set_cons_succ]
  refine wpAnyH_take (i := 9) (v := .pointer (some ⟨P, 20, none⟩)) rfl (by kernel_rfl) (by kernel_rfl) (by kernel_rfl) (fun _ _ _ h => h) (Or.inl ⟨by rfl, ?_⟩) (by assumption) ?_
  · intro w hSw; (try dsimp only at hSw); go_simp
  simp only [Act.put, List.setIfInBounds_toArray, List.set_cons_zero, List.set_cons_succ]
  have k20 : w7.cell? ⟨P, 20, none⟩ = some (.int .u64 0) := cell_of_row _ _ 20 _ _ _ HP7.out
  have f20 : w7.frozen? ⟨P, 20, none⟩ = false := by simp [World.frozen?, HP7.out]
  have HP8 : Hid ((w7.setCell ⟨P, 20, none⟩ (.int .u64 (ep : Int))).heap[P]? = some (.cells #[.int .i64 4, .int .i64 src, .int .i64 dst, .int .u64 (ce : Int), .int .i64 cr, .int .i64 0, .int .u32 0, .int .u64 0, .int .i64 0, .slice none 0 0, .string ⟨#[]⟩, .int .u64 0, .int .u32 0, .slice none 0 0, .int .u64 0, .int .i64 0, .int .u32 0, .int .u64 0, .int .u64 (pe : Int), .int .i64 pr, .int .u64 (ep : Int), .slice none 0 0] 73 (0, 0))) := (blk_setj HP7.out 20 (.int .u64 (ep : Int)))
  have HB8 := Lib.hid ((Below.heap_setCell w7 ⟨P, 20, none⟩ (.int .u64 (ep : Int)) w.heap.size nP).trans HB7.out)
  have HR8 := Lib.hid (RdL.set HR7.out hPg 20 (.int .u64 (ep : Int)))
  have HO8 := Lib.hid (Two.set HO7.out 20 (.int .u64 (ep : Int)))
  clear HP7 HB7 HR7 HO7
  refine wpAnyH_ready (rs := [10]) (by kernel_rfl) (by simp) ?_
  refine AllReadyH.cons rfl (fun K hK => ?_) AllReadyH.nil
  go_simp
  clear hHeld
  clear k20 f20
  generalize (w7.setCell ⟨P, 20, none⟩ (.int .u64 (ep : Int))) = w8 at *
  refine hK.out _ _ (blk_cell HB8.out) (fun hHeld => ?_)
  clear hK K
  refine wpAnyH_take (i := 11) (v := .pointer (some ⟨P, 0, none⟩)) rfl (by kernel_rfl) (by kernel_rfl) (by kernel_rfl) (fun _ _ _ h => h) (Or.inl ⟨by rfl, ?_⟩) (by assumption) ?_
  · intro w hSw; (try dsimp only at hSw); go_simp
  simp only [Act.put, List.setIfInBounds_toArray, List.set_cons_zero, List.set_cons_succ]
  refine wpAnyH_take (i := 12) (v := .pointer (some ⟨P, 17, none⟩)) rfl (by kernel_rfl) (by kernel_rfl) (by kernel_rfl) (fun _ _ _ h => h) (Or.inl ⟨by rfl, ?_⟩) (by assumption) ?_
  · intro w hSw; (try dsimp only at hSw); go_simp
  simp only [Act.put, List.setIfInBounds_toArray, List.set_cons_zero, List.set_cons_succ]
  have k17 : w8.cell? ⟨P, 17, none⟩ = some (.int .u64 0) := cell_of_row _ _ 17 _ _ _ HP8.out
  have f17 : w8.frozen? ⟨P, 17, none⟩ = false := by simp [World.frozen?, HP8.out]
  have HP9 : Hid ((w8.setCell ⟨P, 17, none⟩ (.int .u64 (me : Int))).heap[P]? = some (.cells #[.int .i64 4, .int .i64 src, .int .i64 dst, .int .u64 (ce : Int), .int .i64 cr, .int .i64 0, .int .u32 0, .int .u64 0, .int .i64 0, .slice none 0 0, .string ⟨#[]⟩, .int .u64 0, .int .u32 0, .slice none 0 0, .int .u64 0, .int .i64 0, .int .u32 0, .int .u64 (me : Int), .int .u64 (pe : Int), .int .i64 pr, .int .u64 (ep : Int), .slice none 0 0] 73 (0, 0))) := (blk_setj HP8.out 17 (.int .u64 (me : Int)))
  have HB9 := Lib.hid ((Below.heap_setCell w8 ⟨P, 17, none⟩ (.int .u64 (me : Int)) w.heap.size nP).trans HB8.out)
  have HR9 := Lib.hid (RdL.set HR8.out hPg 17 (.int .u64 (me : Int)))
  have HO9 := Lib.hid (Two.set HO8.out 17 (.int .u64 (me : Int)))
  clear HP8 HB8 HR8 HO8
  refine wpAnyH_ready (rs := [13]) (by kernel_rfl) (by simp) ?_
  refine AllReadyH.cons rfl (fun K hK => ?_) AllReadyH.nil
  go_simp
  clear hHeld
  clear k17 f17
  generalize (w8.setCell ⟨P, 17, none⟩ (.int .u64 (me : Int))) = w9 at *
  refine hK.out _ _ (blk_cell HB9.out) (fun hHeld => ?_)
  clear hK K
  refine wpAnyH_done (by kernel_rfl) ?_ _
  have bx := blk_cell HB9.out
  go_wp2_with fail
  refine (left_rd g s r7 w9 HR9.out hs).mono ?_
  rintro e w10 ⟨rfl, q, rfl⟩
  cases hl : r7 with
  | nil =>
    go_wp2_with fail
    refine (bad_no _ _).mono ?_
    rintro e w9 ⟨rfl, rfl⟩
    go_wp2_with fail
    go_end0
    rw [show bodyP 4 src dst l = .ok (⟨4, src, dst, ⟨ce, cr⟩, .zero, 0, 0, [], 0, 0, 0, me, ⟨pe, pr⟩, ep, []⟩ : Pk) by unfold bodyP; (try simp [hc, h1, h2, h3, andP, restP, hl, Pk.zero])]
    exact ⟨rfl, ⟨_, _, _, _, _, _, HP9.out, World.ownsRow_nil _ _ _ _, World.ownsRow_nil _ _ _ _, XOwn.nil _ _⟩, ⟨hfc, zms, z64, z32, znil, z64, z32, hfe, hfp, hfs, zex⟩, HO9.out.drewN q⟩
  | cons b r =>
    have hd : decide ((0 : Int) < (((b :: r).length : Nat) : Int)) = true := by simp
    go_wp2_with fail
    refine (bad_yes _ _).mono ?_
    rintro e w9 ⟨rfl, rfl⟩
    go_wp2_with fail
    rw [show bodyP 4 src dst l = .error 4 by unfold bodyP; (try simp [hc, h1, h2, h3, andP, restP, hl])]
    exact ⟨rfl, rfl, HO9.out.drewN q, _, HP9.out, rfl⟩
end Go.Proofs.Ythkfgjdbgnbjkaa
