/- The walk of packet's reader: fields, kind 1. (Printed by pkfields.py.) -/
import Derived.Test.YthkfgjdbgnbjkaaPkO
namespace Go.Proofs.Ythkfgjdbgnbjkaa
open Go.RowKit
set_option linter.unusedSimpArgs false
set_option linter.unusedVariables false

set_option maxHeartbeats 3200000 in
set_option maxRecDepth 8000 in
theorem rfields1 (g P : Nat) (s : ByteArray) (l : List UInt8) (src dst : Int) (w : World) (h : RdL w g s l) (hs : s.size ≤ 1000000) (hP : w.heap[P]? = some (.cells #[.int .i64 1, .int .i64 src, .int .i64 dst, .int .u64 0, .int .i64 0, .int .i64 0, .int .u32 0, .int .u64 0, .int .i64 0, .slice none 0 0, .string ⟨#[]⟩, .int .u64 0, .int .u32 0, .slice none 0 0, .int .u64 0, .int .i64 0, .int .u32 0, .int .u64 0, .int .u64 0, .int .i64 0, .int .u64 0, .slice none 0 0] 73 (0, 0))) (hPg : P ≠ g) :
    Calls Try.prog 69 #[.agg #[.pointer (some ⟨g, 0, none⟩)], .pointer (some ⟨P, 0, none⟩)] w (FOut g P w (bodyP 1 src dst l)) := by
  have hg := h.lt
  have hPl := blk_lt hP
  have nb : w.heap.size ≠ g := by omega
  have nP : w.heap.size ≠ P := by omega
  have hb0 : Below w.heap.size w (w.alloc (.cells #[.pointer (some ⟨g, 0, none⟩)] 110)) := below_alloc (Below.refl _ _) _
  have HO0 := Lib.hid (Two.of_below (g := g) (P := P) hb0)
  have HB0 := Lib.hid (heap_alloc_new w (.cells #[.pointer (some ⟨g, 0, none⟩)] 110))
  have HP0 := Lib.hid ((Below.heap_alloc w (.cells #[.pointer (some ⟨g, 0, none⟩)] 110) P hPl).trans hP)
  have H1 := Lib.hid (rconf_any g s l _ (h.kept hb0) hs)
  clear hb0 h hP
  go_enter Try.func69, Try.ntmps69
  go_wp2_with fail
  refine H1.out.mono ?_
  cases hc : confP l with
  | error z =>
    rintro e w1 ⟨rfl, ho1⟩
    go_wp2_with fail
    rw [show bodyP 1 src dst l = .error z by unfold bodyP; (try simp only [hc, andP, restP]); (try simp [hc, andP])]
    exact ⟨rfl, rfl, HO0.out.only ho1, _, (ho1.block P (blk_lt HP0.out) (by simpa using hPg)).trans HP0.out, rfl⟩
  | ok y =>
  obtain ⟨⟨ce, cr⟩, r1⟩ := y
  rintro e w1 ⟨rfl, hr1, ho1⟩
  have HB1 := Lib.hid ((ho1.block w.heap.size (blk_lt HB0.out) (by simpa using nb)).trans HB0.out)
  have HP1 := Lib.hid ((ho1.block P (blk_lt HP0.out) (by simpa using hPg)).trans HP0.out)
  have HO1 := Lib.hid (HO0.out.only ho1)
  have HR1 := Lib.hid hr1
  clear HB0 HP0 HO0 ho1 hr1
  have k3 : w1.cell? ⟨P, 3, none⟩ = some (.int .u64 0) := cell_of_row _ _ 3 _ _ _ HP1.out
  have f3 : w1.frozen? ⟨P, 3, none⟩ = false := by simp [World.frozen?, HP1.out]
  have k4 : w1.cell? ⟨P, 4, none⟩ = some (.int .i64 0) := cell_of_row _ _ 4 _ _ _ HP1.out
  have f4 : w1.frozen? ⟨P, 4, none⟩ = false := by simp [World.frozen?, HP1.out]
  have HP2 : Hid (((w1.setCell ⟨P, 3, none⟩ (.int .u64 (ce : Int))).setCell ⟨P, 4, none⟩ (.int .i64 cr)).heap[P]? = some (.cells #[.int .i64 1, .int .i64 src, .int .i64 dst, .int .u64 (ce : Int), .int .i64 cr, .int .i64 0, .int .u32 0, .int .u64 0, .int .i64 0, .slice none 0 0, .string ⟨#[]⟩, .int .u64 0, .int .u32 0, .slice none 0 0, .int .u64 0, .int .i64 0, .int .u32 0, .int .u64 0, .int .u64 0, .int .i64 0, .int .u64 0, .slice none 0 0] 73 (0, 0))) := (blk_setj (blk_setj HP1.out 3 (.int .u64 (ce : Int))) 4 (.int .i64 cr))
  have HB2 := Lib.hid ((Below.heap_setCell (w1.setCell ⟨P, 3, none⟩ (.int .u64 (ce : Int))) ⟨P, 4, none⟩ (.int .i64 cr) w.heap.size nP).trans ((Below.heap_setCell w1 ⟨P, 3, none⟩ (.int .u64 (ce : Int)) w.heap.size nP).trans HB1.out))
  have HR2 := Lib.hid (RdL.set (RdL.set HR1.out hPg 3 (.int .u64 (ce : Int))) hPg 4 (.int .i64 cr))
  have HO2 := Lib.hid (Two.set (Two.set HO1.out 3 (.int .u64 (ce : Int))) 4 (.int .i64 cr))
  clear HP1 HB1 HR1 HO1
  have bx : ((w1.setCell ⟨P, 3, none⟩ (.int .u64 (ce : Int))).setCell ⟨P, 4, none⟩ (.int .i64 cr)).cell? ⟨w.heap.size, 0, none⟩ = some (.pointer (some ⟨g, 0, none⟩)) := blk_cell HB2.out
  have a0 : ((w1.setCell ⟨P, 3, none⟩ (.int .u64 (ce : Int))).setCell ⟨P, 4, none⟩ (.int .i64 cr)).cell? ⟨P, 0, none⟩ = some (.int .i64 1) := cell_of_row _ _ 0 _ _ _ HP2.out
  have a1 : ((w1.setCell ⟨P, 3, none⟩ (.int .u64 (ce : Int))).setCell ⟨P, 4, none⟩ (.int .i64 cr)).cell? ⟨P, 1, none⟩ = some (.int .i64 src) := cell_of_row _ _ 1 _ _ _ HP2.out
  have hfc := confP_shape hc
  go_wp2_with fail
  clear k3 f3
  clear k4 f4
  generalize ((w1.setCell ⟨P, 3, none⟩ (.int .u64 (ce : Int))).setCell ⟨P, 4, none⟩ (.int .i64 cr)) = w2 at *
  refine wp_region_held_drew (S := fun w' => w'.cell? ⟨w.heap.size, 0, none⟩ = some (.pointer (some ⟨g, 0, none⟩)) ∧ w'.cell? ⟨P, 1, none⟩ = some (.int .i64 src)) (by kernel_rfl) ?_ (fun hHeld => ?_)
  · exact ⟨blk_cell HB2.out, cell_of_row _ _ 1 _ _ _ HP2.out⟩
  have HP3 : Hid (w2.drew.heap[P]? = some (.cells #[.int .i64 1, .int .i64 src, .int .i64 dst, .int .u64 (ce : Int), .int .i64 cr, .int .i64 0, .int .u32 0, .int .u64 0, .int .i64 0, .slice none 0 0, .string ⟨#[]⟩, .int .u64 0, .int .u32 0, .slice none 0 0, .int .u64 0, .int .i64 0, .int .u32 0, .int .u64 0, .int .u64 0, .int .i64 0, .int .u64 0, .slice none 0 0] 73 (0, 0))) := HP2
  have HB3 : Hid (w2.drew.heap[w.heap.size]? = some (.cells #[.pointer (some ⟨g, 0, none⟩)] 110 (0, 0))) := HB2
  have HR3 : Hid (RdL w2.drew g s r1) := HR2
  have HO3 := Lib.hid HO2.out.drew
  clear HP2 HB2 HR2 HO2
  generalize w2.drew = w3 at *
  refine wpAnyH_take (i := 0) (v := .pointer (some ⟨P, 0, none⟩)) rfl (by kernel_rfl) (by kernel_rfl) (by kernel_rfl) (fun _ _ _ h => h) (Or.inl ⟨by rfl, ?_⟩) (by assumption) ?_
  · intro w hSw; (try dsimp only at hSw); go_simp
  simp only [Act.put, List.setIfInBounds_toArray, List.set_cons_zero, List.set_cons_succ]
  refine wpAnyH_take (i := 1) (v := .agg #[.pointer (some ⟨g, 0, none⟩)]) rfl (by kernel_rfl) (by kernel_rfl) (by kernel_rfl) (fun _ _ _ h => h) (Or.inl ⟨by rfl, ?_⟩) (by assumption) ?_
  · intro w hSw; (try dsimp only at hSw); go_simp
  simp only [Act.put, List.setIfInBounds_toArray, List.set_cons_zero, List.set_cons_succ]
  refine wpAnyH_take (i := 2) (v := .pointer (some ⟨P, 0, none⟩)) rfl (by kernel_rfl) (by kernel_rfl) (by kernel_rfl) (fun _ _ _ h => h) (Or.inl ⟨by rfl, ?_⟩) (by assumption) ?_
  · intro w hSw; (try dsimp only at hSw); go_simp
  simp only [Act.put, List.setIfInBounds_toArray, List.set_cons_zero, List.set_cons_succ]
  refine wpAnyH_take (i := 3) (v := .pointer (some ⟨P, 0, none⟩)) rfl (by kernel_rfl) (by kernel_rfl) (by kernel_rfl) (fun _ _ _ h => h) (Or.inl ⟨by rfl, ?_⟩) (by assumption) ?_
  · intro w hSw; (try dsimp only at hSw); go_simp
  simp only [Act.put, List.setIfInBounds_toArray, List.set_cons_zero, List.set_cons_succ]
  refine wpAnyH_take (i := 4) (v := .pointer (some ⟨P, 1, none⟩)) rfl (by kernel_rfl) (by kernel_rfl) (by kernel_rfl) (fun _ _ _ h => h) (Or.inl ⟨by rfl, ?_⟩) (by assumption) ?_
  · intro w hSw; (try dsimp only at hSw); go_simp
  simp only [Act.put, List.setIfInBounds_toArray, List.set_cons_zero, List.set_cons_succ]
  refine wpAnyH_take (i := 5) (v := .int .i64 src) rfl (by kernel_rfl) (by kernel_rfl) (by kernel_rfl) (fun _ _ _ h => h) (Or.inl ⟨by rfl, ?_⟩) (by assumption) ?_
  · intro w hSw; (try dsimp only at hSw); go_simp
  simp only [Act.put, List.setIfInBounds_toArray, List.set_cons_zero, List.set_cons_succ]
  refine wpAnyH_ready (rs := [6]) (by kernel_rfl) (by simp) ?_
  refine AllReadyH.cons rfl (fun K hK => ?_) AllReadyH.nil
  go_simp
  refine (rmsg_any g s r1 src _ HR3.out hs).mono ?_
  cases hmm : msgP src r1 with
  | error z =>
    rintro e w4 ⟨rfl, ho1⟩
    rw [show bodyP 1 src dst l = .error z by unfold bodyP; (try simp only [hc, hmm, andP, restP]); (try simp [hc, hmm, andP])]
    exact ⟨rfl, rfl, HO3.out.only ho1, _, (ho1.block P (blk_lt HP3.out) (by simpa using hPg)).trans HP3.out, rfl⟩
  | ok y =>
  obtain ⟨⟨mf, ms, mt, mv, md, my⟩, r4⟩ := y
  clear hHeld
  rintro e w4 ⟨⟨Am, cm, rfl, hown⟩, hfm, hr1, ho1⟩
  replace hown := own_low_any hown HO3.out.size
  have HB4 := Lib.hid ((ho1.block w.heap.size (blk_lt HB3.out) (by simpa using nb)).trans HB3.out)
  have HP4 := Lib.hid ((ho1.block P (blk_lt HP3.out) (by simpa using hPg)).trans HP3.out)
  have HO4 := Lib.hid (HO3.out.only ho1)
  have HR4 := Lib.hid hr1
  clear HB3 HP3 HO3 ho1 hr1 HR3
  have HM4 := Lib.hid hown
  clear hown
  have HFM := Lib.hid hfm
  clear hfm
  unfold msV
  refine hK.out _ _ ⟨blk_cell HB4.out, cell_of_row _ _ 1 _ _ _ HP4.out⟩ (fun hHeld => ?_)
  clear hK K
  refine wpAnyH_take (i := 7) (v := .pointer (some ⟨P, 0, none⟩)) rfl (by kernel_rfl) (by kernel_rfl) (by kernel_rfl) (fun _ _ _ h => h) (Or.inl ⟨by rfl, ?_⟩) (by assumption) ?_
  · intro w hSw; (try dsimp only at hSw); go_simp
  simp only [Act.put, List.setIfInBounds_toArray, List.set_cons_zero, List.set_cons_succ]
  refine wpAnyH_take (i := 8) (v := .pointer (some ⟨P, 5, none⟩)) rfl (by kernel_rfl) (by kernel_rfl) (by kernel_rfl) (fun _ _ _ h => h) (Or.inl ⟨by rfl, ?_⟩) (by assumption) ?_
  · intro w hSw; (try dsimp only at hSw); go_simp
  simp only [Act.put, List.setIfInBounds_toArray, List.set_cons_zero, List.set_cons_succ]
  have k5 : w4.cell? ⟨P, 5, none⟩ = some (.int .i64 0) := cell_of_row _ _ 5 _ _ _ HP4.out
  have f5 : w4.frozen? ⟨P, 5, none⟩ = false := by simp [World.frozen?, HP4.out]
  have k6 : w4.cell? ⟨P, 6, none⟩ = some (.int .u32 0) := cell_of_row _ _ 6 _ _ _ HP4.out
  have f6 : w4.frozen? ⟨P, 6, none⟩ = false := by simp [World.frozen?, HP4.out]
  have k7 : w4.cell? ⟨P, 7, none⟩ = some (.int .u64 0) := cell_of_row _ _ 7 _ _ _ HP4.out
  have f7 : w4.frozen? ⟨P, 7, none⟩ = false := by simp [World.frozen?, HP4.out]
  have k8 : w4.cell? ⟨P, 8, none⟩ = some (.int .i64 0) := cell_of_row _ _ 8 _ _ _ HP4.out
  have f8 : w4.frozen? ⟨P, 8, none⟩ = false := by simp [World.frozen?, HP4.out]
  have k9 : w4.cell? ⟨P, 9, none⟩ = some (.slice none 0 0) := cell_of_row _ _ 9 _ _ _ HP4.out
  have f9 : w4.frozen? ⟨P, 9, none⟩ = false := by simp [World.frozen?, HP4.out]
  have k10 : w4.cell? ⟨P, 10, none⟩ = some (.string ⟨#[]⟩) := cell_of_row _ _ 10 _ _ _ HP4.out
  have f10 : w4.frozen? ⟨P, 10, none⟩ = false := by simp [World.frozen?, HP4.out]
  have HP5 : Hid (((((((w4.setCell ⟨P, 5, none⟩ (.int .i64 mf)).setCell ⟨P, 6, none⟩ (.int .u32 (ms : Int))).setCell ⟨P, 7, none⟩ (.int .u64 (mt : Int))).setCell ⟨P, 8, none⟩ (.int .i64 mv)).setCell ⟨P, 9, none⟩ (.slice Am md.length cm)).setCell ⟨P, 10, none⟩ (.string my)).heap[P]? = some (.cells #[.int .i64 1, .int .i64 src, .int .i64 dst, .int .u64 (ce : Int), .int .i64 cr, .int .i64 mf, .int .u32 (ms : Int), .int .u64 (mt : Int), .int .i64 mv, .slice Am md.length cm, .string my, .int .u64 0, .int .u32 0, .slice none 0 0, .int .u64 0, .int .i64 0, .int .u32 0, .int .u64 0, .int .u64 0, .int .i64 0, .int .u64 0, .slice none 0 0] 73 (0, 0))) := (blk_setj (blk_setj (blk_setj (blk_setj (blk_setj (blk_setj HP4.out 5 (.int .i64 mf)) 6 (.int .u32 (ms : Int))) 7 (.int .u64 (mt : Int))) 8 (.int .i64 mv)) 9 (.slice Am md.length cm)) 10 (.string my))
  have HB5 := Lib.hid ((Below.heap_setCell (((((w4.setCell ⟨P, 5, none⟩ (.int .i64 mf)).setCell ⟨P, 6, none⟩ (.int .u32 (ms : Int))).setCell ⟨P, 7, none⟩ (.int .u64 (mt : Int))).setCell ⟨P, 8, none⟩ (.int .i64 mv)).setCell ⟨P, 9, none⟩ (.slice Am md.length cm)) ⟨P, 10, none⟩ (.string my) w.heap.size nP).trans ((Below.heap_setCell ((((w4.setCell ⟨P, 5, none⟩ (.int .i64 mf)).setCell ⟨P, 6, none⟩ (.int .u32 (ms : Int))).setCell ⟨P, 7, none⟩ (.int .u64 (mt : Int))).setCell ⟨P, 8, none⟩ (.int .i64 mv)) ⟨P, 9, none⟩ (.slice Am md.length cm) w.heap.size nP).trans ((Below.heap_setCell (((w4.setCell ⟨P, 5, none⟩ (.int .i64 mf)).setCell ⟨P, 6, none⟩ (.int .u32 (ms : Int))).setCell ⟨P, 7, none⟩ (.int .u64 (mt : Int))) ⟨P, 8, none⟩ (.int .i64 mv) w.heap.size nP).trans ((Below.heap_setCell ((w4.setCell ⟨P, 5, none⟩ (.int .i64 mf)).setCell ⟨P, 6, none⟩ (.int .u32 (ms : Int))) ⟨P, 7, none⟩ (.int .u64 (mt : Int)) w.heap.size nP).trans ((Below.heap_setCell (w4.setCell ⟨P, 5, none⟩ (.int .i64 mf)) ⟨P, 6, none⟩ (.int .u32 (ms : Int)) w.heap.size nP).trans ((Below.heap_setCell w4 ⟨P, 5, none⟩ (.int .i64 mf) w.heap.size nP).trans HB4.out))))))
  have HR5 := Lib.hid (RdL.set (RdL.set (RdL.set (RdL.set (RdL.set (RdL.set HR4.out hPg 5 (.int .i64 mf)) hPg 6 (.int .u32 (ms : Int))) hPg 7 (.int .u64 (mt : Int))) hPg 8 (.int .i64 mv)) hPg 9 (.slice Am md.length cm)) hPg 10 (.string my))
  have HO5 := Lib.hid (Two.set (Two.set (Two.set (Two.set (Two.set (Two.set HO4.out 5 (.int .i64 mf)) 6 (.int .u32 (ms : Int))) 7 (.int .u64 (mt : Int))) 8 (.int .i64 mv)) 9 (.slice Am md.length cm)) 10 (.string my))
  have HM5 := Lib.hid (own_keep_set (own_keep_set (own_keep_set (own_keep_set (own_keep_set (own_keep_set HM4.out hPl 5 (.int .i64 mf)) hPl 6 (.int .u32 (ms : Int))) hPl 7 (.int .u64 (mt : Int))) hPl 8 (.int .i64 mv)) hPl 9 (.slice Am md.length cm)) hPl 10 (.string my))
  clear HP4 HB4 HR4 HO4 HM4
  refine wpAnyH_ready (rs := [9]) (by kernel_rfl) (by simp) ?_
  refine AllReadyH.cons rfl (fun K hK => ?_) AllReadyH.nil
  go_simp
  clear hHeld
  clear k5 f5
  clear k6 f6
  clear k7 f7
  clear k8 f8
  clear k9 f9
  clear k10 f10
  generalize ((((((w4.setCell ⟨P, 5, none⟩ (.int .i64 mf)).setCell ⟨P, 6, none⟩ (.int .u32 (ms : Int))).setCell ⟨P, 7, none⟩ (.int .u64 (mt : Int))).setCell ⟨P, 8, none⟩ (.int .i64 mv)).setCell ⟨P, 9, none⟩ (.slice Am md.length cm)).setCell ⟨P, 10, none⟩ (.string my)) = w5 at *
  refine hK.out _ _ ⟨blk_cell HB5.out, cell_of_row _ _ 1 _ _ _ HP5.out⟩ (fun hHeld => ?_)
  clear hK K
  refine wpAnyH_done (by kernel_rfl) ?_ _
  have bx := blk_cell HB5.out
  go_wp2_with fail
  refine (left_rd g s r4 w5 HR5.out hs).mono ?_
  rintro e w6 ⟨rfl, q, rfl⟩
  cases hl : r4 with
  | nil =>
    go_wp2_with fail
    refine (bad_no _ _).mono ?_
    rintro e w9 ⟨rfl, rfl⟩
    go_wp2_with fail
    go_end0
    rw [show bodyP 1 src dst l = .ok (⟨1, src, dst, ⟨ce, cr⟩, ⟨mf, ms, mt, mv, md, my⟩, 0, 0, [], 0, 0, 0, 0, .zero, 0, []⟩ : Pk) by unfold bodyP; (try simp [hc, hmm, andP, restP, hl, Pk.zero])]
    exact ⟨rfl, ⟨_, _, _, _, _, _, HP5.out, HM5.out, World.ownsRow_nil _ _ _ _, XOwn.nil _ _⟩, ⟨hfc, HFM.out, z64, z32, znil, z64, z32, z64, z64, z64, zex⟩, HO5.out.drewN q⟩
  | cons b r =>
    have hd : decide ((0 : Int) < (((b :: r).length : Nat) : Int)) = true := by simp
    go_wp2_with fail
    refine (bad_yes _ _).mono ?_
    rintro e w9 ⟨rfl, rfl⟩
    go_wp2_with fail
    rw [show bodyP 1 src dst l = .error 4 by unfold bodyP; (try simp [hc, hmm, andP, restP, hl])]
    exact ⟨rfl, rfl, HO5.out.drewN q, _, HP5.out, rfl⟩
end Go.Proofs.Ythkfgjdbgnbjkaa
