/- The walk of packet's reader: fields, kind 7. (Printed by pkfields.py.) -/
import Derived.Test.YthkfgjdbgnbjkaaPkQ
namespace Go.Proofs.Ythkfgjdbgnbjkaa
open Go.RowKit
set_option linter.unusedSimpArgs false
set_option linter.unusedVariables false

set_option maxHeartbeats 3200000 in
set_option maxRecDepth 8000 in
theorem rfields7 (g P : Nat) (s : ByteArray) (l : List UInt8) (src dst : Int) (w : World) (h : RdL w g s l) (hs : s.size ≤ 1000000) (hP : w.heap[P]? = some (.cells #[.int .i64 7, .int .i64 src, .int .i64 dst, .int .u64 0, .int .i64 0, .int .i64 0, .int .u32 0, .int .u64 0, .int .i64 0, .slice none 0 0, .string ⟨#[]⟩, .int .u64 0, .int .u32 0, .slice none 0 0, .int .u64 0, .int .i64 0, .int .u32 0, .int .u64 0, .int .u64 0, .int .i64 0, .int .u64 0, .slice none 0 0] 73 (0, 0))) (hPg : P ≠ g) :
    Calls Try.prog 69 #[.agg #[.pointer (some ⟨g, 0, none⟩)], .pointer (some ⟨P, 0, none⟩)] w (FOut g P w (bodyP 7 src dst l)) := by
  have hg := h.lt
  have hPl := blk_lt hP
  have nb : w.heap.size ≠ g := by omega
  have nP : w.heap.size ≠ P := by omega
  have hb0 : Below w.heap.size w (w.alloc (.cells #[.pointer (some ⟨g, 0, none⟩)] 110)) := below_alloc (Below.refl _ _) _
  have HO0 := Lib.hid (Two.of_below (g := g) (P := P) hb0)
  have HB0 := Lib.hid (heap_alloc_new w (.cells #[.pointer (some ⟨g, 0, none⟩)] 110))
  have HP0 := Lib.hid ((Below.heap_alloc w (.cells #[.pointer (some ⟨g, 0, none⟩)] 110) P hPl).trans hP)
  have H1 := Lib.hid (rconf_any g s l _ (h.kept hb0) hs)
  clear hb0 h hP
  go_enter Try.func69, Try.ntmps69
  go_wp2_with fail
  refine H1.out.mono ?_
  cases hc : confP l with
  | error z =>
    rintro e w1 ⟨rfl, ho1⟩
    go_wp2_with fail
    rw [show bodyP 7 src dst l = .error z by unfold bodyP; (try simp only [hc, andP, restP]); (try simp [hc, andP])]
    exact ⟨rfl, rfl, HO0.out.only ho1, _, (ho1.block P (blk_lt HP0.out) (by simpa using hPg)).trans HP0.out, rfl⟩
  | ok y =>
  obtain ⟨⟨ce, cr⟩, r1⟩ := y
  rintro e w1 ⟨rfl, hr1, ho1⟩
  have HB1 := Lib.hid ((ho1.block w.heap.size (blk_lt HB0.out) (by simpa using nb)).trans HB0.out)
  have HP1 := Lib.hid ((ho1.block P (blk_lt HP0.out) (by simpa using hPg)).trans HP0.out)
  have HO1 := Lib.hid (HO0.out.only ho1)
  have HR1 := Lib.hid hr1
  clear HB0 HP0 HO0 ho1 hr1
  have k3 : w1.cell? ⟨P, 3, none⟩ = some (.int .u64 0) := cell_of_row _ _ 3 _ _ _ HP1.out
  have f3 : w1.frozen? ⟨P, 3, none⟩ = false := by simp [World.frozen?, HP1.out]
  have k4 : w1.cell? ⟨P, 4, none⟩ = some (.int .i64 0) := cell_of_row _ _ 4 _ _ _ HP1.out
  have f4 : w1.frozen? ⟨P, 4, none⟩ = false := by simp [World.frozen?, HP1.out]
  have HP2 : Hid (((w1.setCell ⟨P, 3, none⟩ (.int .u64 (ce : Int))).setCell ⟨P, 4, none⟩ (.int .i64 cr)).heap[P]? = some (.cells #[.int .i64 7, .int .i64 src, .int .i64 dst, .int .u64 (ce : Int), .int .i64 cr, .int .i64 0, .int .u32 0, .int .u64 0, .int .i64 0, .slice none 0 0, .string ⟨#[]⟩, .int .u64 0, .int .u32 0, .slice none 0 0, .int .u64 0, .int .i64 0, .int .u32 0, .int .u64 0, .int .u64 0, .int .i64 0, .int .u64 0, .slice none 0 0] 73 (0, 0))) := (blk_setj (blk_setj HP1.out 3 (.int .u64 (ce : Int))) 4 (.int .i64 cr))
  have HB2 := Lib.hid ((Below.heap_setCell (w1.setCell ⟨P, 3, none⟩ (.int .u64 (ce : Int))) ⟨P, 4, none⟩ (.int .i64 cr) w.heap.size nP).trans ((Below.heap_setCell w1 ⟨P, 3, none⟩ (.int .u64 (ce : Int)) w.heap.size nP).trans HB1.out))
  have HR2 := Lib.hid (RdL.set (RdL.set HR1.out hPg 3 (.int .u64 (ce : Int))) hPg 4 (.int .i64 cr))
  have HO2 := Lib.hid (Two.set (Two.set HO1.out 3 (.int .u64 (ce : Int))) 4 (.int .i64 cr))
  clear HP1 HB1 HR1 HO1
  have bx : ((w1.setCell ⟨P, 3, none⟩ (.int .u64 (ce : Int))).setCell ⟨P, 4, none⟩ (.int .i64 cr)).cell? ⟨w.heap.size, 0, none⟩ = some (.pointer (some ⟨g, 0, none⟩)) := blk_cell HB2.out
  have a0 : ((w1.setCell ⟨P, 3, none⟩ (.int .u64 (ce : Int))).setCell ⟨P, 4, none⟩ (.int .i64 cr)).cell? ⟨P, 0, none⟩ = some (.int .i64 7) := cell_of_row _ _ 0 _ _ _ HP2.out
  have a1 : ((w1.setCell ⟨P, 3, none⟩ (.int .u64 (ce : Int))).setCell ⟨P, 4, none⟩ (.int .i64 cr)).cell? ⟨P, 1, none⟩ = some (.int .i64 src) := cell_of_row _ _ 1 _ _ _ HP2.out
  have hfc := confP_shape hc
  go_wp2_with fail
  clear k3 f3
  clear k4 f4
  generalize ((w1.setCell ⟨P, 3, none⟩ (.int .u64 (ce : Int))).setCell ⟨P, 4, none⟩ (.int .i64 cr)) = w2 at *
  refine (rnum_any g s r1 8 _ HR2.out hs (by omega)).mono ?_
  cases h1 : numP 8 r1 with
  | error z =>
    rintro e w3 ⟨rfl, ho1⟩
    go_wp2_with fail
    rw [show bodyP 7 src dst l = .error z by unfold bodyP; (try simp only [hc, h1, andP, restP]); (try simp [hc, h1, andP])]
    exact ⟨rfl, rfl, HO2.out.only ho1, _, (ho1.block P (blk_lt HP2.out) (by simpa using hPg)).trans HP2.out, rfl⟩
  | ok y =>
  obtain ⟨me, r3⟩ := y
  rintro e w3 ⟨rfl, hr1, ho1⟩
  have HB3 := Lib.hid ((ho1.block w.heap.size (blk_lt HB2.out) (by simpa using nb)).trans HB2.out)
  have HP3 := Lib.hid ((ho1.block P (blk_lt HP2.out) (by simpa using hPg)).trans HP2.out)
  have HO3 := Lib.hid (HO2.out.only ho1)
  have HR3 := Lib.hid hr1
  clear HB2 HP2 HO2 ho1 hr1 HR2
  have hfe : U64 me := (numP_ok h1).1
  have k17 : w3.cell? ⟨P, 17, none⟩ = some (.int .u64 0) := cell_of_row _ _ 17 _ _ _ HP3.out
  have f17 : w3.frozen? ⟨P, 17, none⟩ = false := by simp [World.frozen?, HP3.out]
  have HP4 : Hid ((w3.setCell ⟨P, 17, none⟩ (.int .u64 (me : Int))).heap[P]? = some (.cells #[.int .i64 7, .int .i64 src, .int .i64 dst, .int .u64 (ce : Int), .int .i64 cr, .int .i64 0, .int .u32 0, .int .u64 0, .int .i64 0, .slice none 0 0, .string ⟨#[]⟩, .int .u64 0, .int .u32 0, .slice none 0 0, .int .u64 0, .int .i64 0, .int .u32 0, .int .u64 (me : Int), .int .u64 0, .int .i64 0, .int .u64 0, .slice none 0 0] 73 (0, 0))) := (blk_setj HP3.out 17 (.int .u64 (me : Int)))
  have HB4 := Lib.hid ((Below.heap_setCell w3 ⟨P, 17, none⟩ (.int .u64 (me : Int)) w.heap.size nP).trans HB3.out)
  have HR4 := Lib.hid (RdL.set HR3.out hPg 17 (.int .u64 (me : Int)))
  have HO4 := Lib.hid (Two.set HO3.out 17 (.int .u64 (me : Int)))
  clear HP3 HB3 HR3 HO3
  have bx : (w3.setCell ⟨P, 17, none⟩ (.int .u64 (me : Int))).cell? ⟨w.heap.size, 0, none⟩ = some (.pointer (some ⟨g, 0, none⟩)) := blk_cell HB4.out
  clear bx
  have bx := blk_cell HB4.out
  go_wp2_with fail
  clear k17 f17
  generalize (w3.setCell ⟨P, 17, none⟩ (.int .u64 (me : Int))) = w4 at *
  refine (rnum_any g s r3 1 _ HR4.out hs (by omega)).mono ?_
  cases h2 : numP 1 r3 with
  | error z =>
    rintro e w5 ⟨rfl, ho1⟩
    go_wp2_with fail
    rw [show bodyP 7 src dst l = .error z by unfold bodyP; (try simp only [hc, h1, h2, andP, restP]); (try simp [hc, h1, h2, andP])]
    exact ⟨rfl, rfl, HO4.out.only ho1, _, (ho1.block P (blk_lt HP4.out) (by simpa using hPg)).trans HP4.out, rfl⟩
  | ok y =>
  obtain ⟨n, r5⟩ := y
  rintro e w5 ⟨rfl, hr1, ho1⟩
  have HB5 := Lib.hid ((ho1.block w.heap.size (blk_lt HB4.out) (by simpa using nb)).trans HB4.out)
  have HP5 := Lib.hid ((ho1.block P (blk_lt HP4.out) (by simpa using hPg)).trans HP4.out)
  have HO5 := Lib.hid (HO4.out.only ho1)
  have HR5 := Lib.hid hr1
  clear HB4 HP4 HO4 ho1 hr1 HR4
  have hn6 : n < 256 := (numP_ok h2).1
  have ewn : IntKind.i64.wrap (n : Int) = (n : Int) := IntWalk.i64_in _ (by omega)
  by_cases h64 : 64 < n
  · have hd : decide ((64 : Int) < (n : Int)) = true := by simp; omega
    have hdn : decide (64 < n) = true := by simpa using h64
    go_wp2_with fail
    refine (bad_yes _ _).mono ?_
    rintro e w9 ⟨rfl, rfl⟩
    go_wp2_with fail
    rw [show bodyP 7 src dst l = .error 3 by unfold bodyP; (try simp only [hc, h1, h2, andP, restP]); (try simp [h64])]
    exact ⟨rfl, rfl, HO5.out, _, HP5.out, rfl⟩
  have hd : decide ((64 : Int) < (n : Int)) = false := by simp; omega
  have hdn : decide (64 < n) = false := by simpa using h64
  obtain ⟨i0, hi, hz0, hz1, hz2⟩ := parts86
  clear bx
  go_wp2_with fail
  refine (bad_no _ _).mono ?_
  rintro e w9 ⟨rfl, rfl⟩
  go_wp2_with fail
  go_loopw [117] (fun i w20 => ∃ (k : Nat) (xs : List Ex) (r20 : List UInt8) (Ax : Option Addr) (cx : Nat), k ≤ n ∧ i = .int .i64 k ∧ Hid (exsP k r5 = .ok (xs, r20)) ∧ Hid (w20.heap[P]? = some (.cells #[.int .i64 7, .int .i64 src, .int .i64 dst, .int .u64 (ce : Int), .int .i64 cr, .int .i64 0, .int .u32 0, .int .u64 0, .int .i64 0, .slice none 0 0, .string ⟨#[]⟩, .int .u64 0, .int .u32 0, .slice none 0 0, .int .u64 0, .int .i64 0, .int .u32 0, .int .u64 (me : Int), .int .u64 0, .int .i64 0, .int .u64 0, .slice Ax k cx] 73 (0, 0))) ∧ Hid (XOwn w20 w.heap.size (.slice Ax k cx) xs) ∧ Hid (RdL w20 g s r20) ∧ Hid (Two g P w w20) ∧ Hid (w20.heap[w.heap.size]? = some (.cells #[.pointer (some ⟨g, 0, none⟩)] 110 (0, 0)))) (fun i _ => n - (intOf i).toNat)
  case atStart => exact ⟨0, [], r5, none, 0, by omega, rfl, rfl, HP5, XOwn.nil _ _, HR5, HO5, HB5⟩
  case round =>
    clear HP5 HR5 HO5 HB5
    obtain ⟨k, xs, r20, Ax, cx, hk, rfl, HF, HP20, HX20, HR20, HO20, HB20⟩ := hrel
    generalize wr = w20 at *
    by_cases hlt : k < n
    · have bx := blk_cell HB20.out
      go_wp2_with fail
      refine wp_region_held_drew (S := fun w' => w'.cell? ⟨w.heap.size, 0, none⟩ = some (.pointer (some ⟨g, 0, none⟩))) (by kernel_rfl) ?_ (fun hHeld => ?_)
      · exact (blk_cell HB20.out)
      have HP21 : Hid (w20.drew.heap[P]? = some (.cells #[.int .i64 7, .int .i64 src, .int .i64 dst, .int .u64 (ce : Int), .int .i64 cr, .int .i64 0, .int .u32 0, .int .u64 0, .int .i64 0, .slice none 0 0, .string ⟨#[]⟩, .int .u64 0, .int .u32 0, .slice none 0 0, .int .u64 0, .int .i64 0, .int .u32 0, .int .u64 (me : Int), .int .u64 0, .int .i64 0, .int .u64 0, .slice Ax k cx] 73 (0, 0))) := HP20
      have HB21 : Hid (w20.drew.heap[w.heap.size]? = some (.cells #[.pointer (some ⟨g, 0, none⟩)] 110 (0, 0))) := HB20
      have HR21 : Hid (RdL w20.drew g s r20) := HR20
      have HO21 := Lib.hid HO20.out.drew
      have HX21 : Hid (XOwn w20.drew w.heap.size (.slice Ax k cx) xs) := HX20
      clear HP20 HB20 HR20 HO20 HX20
      generalize w20.drew = w21 at *
      refine wpAnyH_take (i := 0) (v := .pointer (some ⟨P, 0, none⟩)) rfl (by kernel_rfl) (by kernel_rfl) (by kernel_rfl) (fun _ _ _ h => h) (Or.inl ⟨by rfl, ?_⟩) (by assumption) ?_
      · intro w hSw; (try dsimp only at hSw); go_simp
      simp only [Act.put, List.setIfInBounds_toArray, List.set_cons_zero, List.set_cons_succ]
      refine wpAnyH_take (i := 1) (v := .pointer (some ⟨P, 0, none⟩)) rfl (by kernel_rfl) (by kernel_rfl) (by kernel_rfl) (fun _ _ _ h => h) (Or.inl ⟨by rfl, ?_⟩) (by assumption) ?_
      · intro w hSw; (try dsimp only at hSw); go_simp
      simp only [Act.put, List.setIfInBounds_toArray, List.set_cons_zero, List.set_cons_succ]
      refine wpAnyH_take (i := 2) (v := .pointer (some ⟨P, 0, none⟩)) rfl (by kernel_rfl) (by kernel_rfl) (by kernel_rfl) (fun _ _ _ h => h) (Or.inl ⟨by rfl, ?_⟩) (by assumption) ?_
      · intro w hSw; (try dsimp only at hSw); go_simp
      simp only [Act.put, List.setIfInBounds_toArray, List.set_cons_zero, List.set_cons_succ]
      refine wpAnyH_take (i := 3) (v := .pointer (some ⟨P, 21, none⟩)) rfl (by kernel_rfl) (by kernel_rfl) (by kernel_rfl) (fun _ _ _ h => h) (Or.inl ⟨by rfl, ?_⟩) (by assumption) ?_
      · intro w hSw; (try dsimp only at hSw); go_simp
      simp only [Act.put, List.setIfInBounds_toArray, List.set_cons_zero, List.set_cons_succ]
      refine wpAnyH_take (i := 5) (v := .agg #[.pointer (some ⟨g, 0, none⟩)]) rfl (by kernel_rfl) (by kernel_rfl) (by kernel_rfl) (fun _ _ _ h => h) (Or.inl ⟨by rfl, ?_⟩) (by assumption) ?_
      · intro w hSw; (try dsimp only at hSw); go_simp
      simp only [Act.put, List.setIfInBounds_toArray, List.set_cons_zero, List.set_cons_succ]
      refine wpAnyH_ready (rs := [4, 6]) (by kernel_rfl) (by simp) ?_
      refine AllReadyH.cons rfl (fun K hK => ?_) (AllReadyH.cons rfl (fun K hK => ?_) AllReadyH.nil)
      · have x21 : w21.cell? ⟨P, 21, none⟩ = some (.slice Ax k cx) := cell_of_row _ _ 21 _ _ _ HP21.out
        go_simp
        clear x21 hHeld
        refine hK.out _ _ (blk_cell HB21.out) (fun hHeld => ?_)
        clear hK K
        refine wpAnyH_ready (rs := [6]) (by kernel_rfl) (by simp) ?_
        refine AllReadyH.cons rfl (fun K hK => ?_) AllReadyH.nil
        go_simp
        refine (rex_any g s r20 _ HR21.out hs).mono ?_
        cases hx : exP r20 with
        | error z =>
          rintro e w22 ⟨rfl, ho1⟩
          have hst := exsP_stop hlt HF.out hx
          have hres : bodyP 7 src dst l = .error z := by unfold bodyP; (try simp only [hc, h1, h2, andP, restP]); (try simp [hst, h64, andP])
          have hfo : FOut g P w (bodyP 7 src dst l) (.panicked [pv z]) w22 := by rw [hres]; exact ⟨rfl, HO21.out.only ho1, _, (ho1.block P (blk_lt HP21.out) (by simpa using hPg)).trans HP21.out, rfl⟩
          exact ⟨rfl, hfo⟩
        | ok y =>
        obtain ⟨⟨xw, ⟨xe, xr⟩, xc, ⟨ks, kf⟩⟩, r22⟩ := y
        clear hHeld
        rintro e w22 ⟨⟨Ac, cc, rfl, hown⟩, hfx, hr1, ho1⟩
        replace hown := own_low_any hown HO21.out.size
        have HB22 := Lib.hid ((ho1.block w.heap.size (blk_lt HB21.out) (by simpa using nb)).trans HB21.out)
        have HP22 := Lib.hid ((ho1.block P (blk_lt HP21.out) (by simpa using hPg)).trans HP21.out)
        have HO22 := Lib.hid (HO21.out.only ho1)
        have HR22 := Lib.hid hr1
        have HX22 := Lib.hid (XOwn.keep_only HX21.out ho1 (by omega))
        clear HB21 HP21 HO21 ho1 hr1 HR21 HX21
        have HN22 := Lib.hid hown
        have HFX := Lib.hid hfx
        clear hown hfx
        unfold exV
        refine hK.out _ _ (blk_cell HB22.out) (fun hHeld => ?_)
        clear hK K
        refine wpAnyH_ready (rs := [7]) (by kernel_rfl) (by simp) ?_
        refine AllReadyH.cons rfl (fun K hK => ?_) AllReadyH.nil
        go_simp
        have hK0 := HO22.out.size
        have HK := Lib.hid (heap_alloc_new w22 (.cells #[.int .i64 xw, .int .u64 (xe : Int), .int .i64 xr, .slice Ac xc.length cc, .int .u64 (ks : Int), .int .i64 kf] 86))
        have HX23 := Lib.hid (HX22.out.kept_below (below_alloc (Below.refl _ _) (.cells #[.int .i64 xw, .int .u64 (xe : Int), .int .i64 xr, .slice Ac xc.length cc, .int .u64 (ks : Int), .int .i64 kf] 86)))
        have HN23 := Lib.hid (HN22.out.alloc (.cells #[.int .i64 xw, .int .u64 (xe : Int), .int .i64 xr, .slice Ac xc.length cc, .int .u64 (ks : Int), .int .i64 kf] 86))
        have HP23 := Lib.hid ((Below.heap_alloc w22 (.cells #[.int .i64 xw, .int .u64 (xe : Int), .int .i64 xr, .slice Ac xc.length cc, .int .u64 (ks : Int), .int .i64 kf] 86) P (blk_lt HP22.out)).trans HP22.out)
        have HB23 := Lib.hid ((Below.heap_alloc w22 (.cells #[.int .i64 xw, .int .u64 (xe : Int), .int .i64 xr, .slice Ac xc.length cc, .int .u64 (ks : Int), .int .i64 kf] 86) w.heap.size (blk_lt HB22.out)).trans HB22.out)
        have HR23 := Lib.hid (HR22.out.kept (below_alloc (Below.refl _ _) (.cells #[.int .i64 xw, .int .u64 (xe : Int), .int .i64 xr, .slice Ac xc.length cc, .int .u64 (ks : Int), .int .i64 kf] 86)))
        have HO23 := Lib.hid (HO22.out.alloc (.cells #[.int .i64 xw, .int .u64 (xe : Int), .int .i64 xr, .slice Ac xc.length cc, .int .u64 (ks : Int), .int .i64 kf] 86))
        clear HX22 HN22 HP22 HB22 HR22 HO22 hHeld
        refine hK.out _ _ (blk_cell HB23.out) (fun hHeld => ?_)
        clear hK K
        generalize w22.heap.size = Kb at *
        generalize w22.alloc (.cells #[.int .i64 xw, .int .u64 (xe : Int), .int .i64 xr, .slice Ac xc.length cc, .int .u64 (ks : Int), .int .i64 kf] 86) = w23 at *
        refine wpAnyH_ready (rs := [8]) (by kernel_rfl) (by simp) ?_
        refine AllReadyH.cons rfl (fun K hK => ?_) AllReadyH.nil
        rw [if_pos (by rfl)]
        obtain ⟨rs, hq1, hq2, hq3⟩ := HX23.out
        have hxl := (exsP_len HF.out).1
        rw [hxl] at hq1 hq2 hq3
        refine wp_append_own _ (.tmp 123) (.tmp 126) 71 rfl w.heap.size 86 i0 _ 6 64 Try.underlying71 hi hz0 hz1 hz2 rfl (by decide) (.slice Ax k cx) k (xcs xs rs) rfl hq2 ⟨Kb, 0, none⟩ 1 1 [.int .i64 xw, .int .u64 (xe : Int), .int .i64 xr, .slice Ac xc.length cc, .int .u64 (ks : Int), .int .i64 kf] rfl rfl (news_cells HK.out) ?c2 ?c3 ?c4 ?c5 ?_
        case c2 => intro u hu; simp only [List.mem_cons, List.not_mem_nil, or_false] at hu; rcases hu with rfl | rfl | rfl | rfl | rfl | rfl <;> rfl
        case c3 => unfold maxLen; omega
        case c4 => omega
        case c5 => exact HO23.out.size
        intro v9 w24 hown hgrow _
        obtain ⟨A', c', rfl⟩ := own_form_any hown
        have hbase := fun q hq => own_base_any (k := q) hq2 hq
        have HX24 : Hid (XOwn w24 w.heap.size (.slice A' (k + 1) c') (xs ++ [⟨xw, ⟨xe, xr⟩, xc, ⟨ks, kf⟩⟩])) := XOwn.grow (hq1.trans hxl.symm) (by rw [hxl]; exact hq2) (by rw [hxl]; exact hq3) HN23.out hgrow (by rw [hxl]; exact hown)
        have hnP : some P ≠ (Value.slice Ax k cx).ownBlock := fun e => by have := hbase P e.symm; omega
        have hng : some g ≠ (Value.slice Ax k cx).ownBlock := fun e => by have := hbase g e.symm; omega
        have hnb : some w.heap.size ≠ (Value.slice Ax k cx).ownBlock := fun e => own_apart_any HB23.out hq2 (by decide) e.symm
        have HP24 := Lib.hid ((hgrow.block P (blk_lt HP23.out) hnP).trans HP23.out)
        have HB24 := Lib.hid ((hgrow.block w.heap.size (blk_lt HB23.out) hnb).trans HB23.out)
        have HR24 := Lib.hid (HR23.out.grown hgrow hng)
        have HO24 := Lib.hid (HO23.out.rows hgrow hbase)
        clear hown hgrow hq1 hq2 hq3 hbase hnP hng hnb HK HX23 HN23 HP23 HB23 HR23 HO23 hHeld
        refine hK.out _ _ (blk_cell HB24.out) (fun hHeld => ?_)
        clear hK K
        refine wpAnyH_take (i := 9) (v := .pointer (some ⟨P, 0, none⟩)) rfl (by kernel_rfl) (by kernel_rfl) (by kernel_rfl) (fun _ _ _ h => h) (Or.inl ⟨by rfl, ?_⟩) (by assumption) ?_
        · intro w hSw; (try dsimp only at hSw); go_simp
        simp only [Act.put, List.setIfInBounds_toArray, List.set_cons_zero, List.set_cons_succ]
        refine wpAnyH_take (i := 10) (v := .pointer (some ⟨P, 21, none⟩)) rfl (by kernel_rfl) (by kernel_rfl) (by kernel_rfl) (fun _ _ _ h => h) (Or.inl ⟨by rfl, ?_⟩) (by assumption) ?_
        · intro w hSw; (try dsimp only at hSw); go_simp
        simp only [Act.put, List.setIfInBounds_toArray, List.set_cons_zero, List.set_cons_succ]
        have k21 : w24.cell? ⟨P, 21, none⟩ = some (.slice Ax k cx) := cell_of_row _ _ 21 _ _ _ HP24.out
        have f21 : w24.frozen? ⟨P, 21, none⟩ = false := by simp [World.frozen?, HP24.out]
        have HP25 : Hid ((w24.setCell ⟨P, 21, none⟩ ((.slice A' (k + 1) c'))).heap[P]? = some (.cells #[.int .i64 7, .int .i64 src, .int .i64 dst, .int .u64 (ce : Int), .int .i64 cr, .int .i64 0, .int .u32 0, .int .u64 0, .int .i64 0, .slice none 0 0, .string ⟨#[]⟩, .int .u64 0, .int .u32 0, .slice none 0 0, .int .u64 0, .int .i64 0, .int .u32 0, .int .u64 (me : Int), .int .u64 0, .int .i64 0, .int .u64 0, (.slice A' (k + 1) c')] 73 (0, 0))) := (blk_setj HP24.out 21 ((.slice A' (k + 1) c')))
        have HB25 := Lib.hid ((Below.heap_setCell w24 ⟨P, 21, none⟩ ((.slice A' (k + 1) c')) w.heap.size nP).trans HB24.out)
        have HR25 := Lib.hid (RdL.set HR24.out hPg 21 ((.slice A' (k + 1) c')))
        have HO25 := Lib.hid (Two.set HO24.out 21 ((.slice A' (k + 1) c')))
        have HX25 := Lib.hid (XOwn.keep_set HX24.out hPl 21 ((.slice A' (k + 1) c')))
        clear HP24 HB24 HR24 HO24 HX24
        refine wpAnyH_ready (rs := [11]) (by kernel_rfl) (by simp) ?_
        refine AllReadyH.cons rfl (fun K hK => ?_) AllReadyH.nil
        go_simp
        clear hHeld
        clear k21 f21
        generalize (w24.setCell ⟨P, 21, none⟩ ((.slice A' (k + 1) c'))) = w25 at *
        refine hK.out _ _ (blk_cell HB25.out) (fun hHeld => ?_)
        clear hK K
        refine wpAnyH_done (by kernel_rfl) ?_ _
        go_wp2_with fail
        go_roundw
        case rel => exact ⟨k + 1, xs ++ [⟨xw, ⟨xe, xr⟩, xc, ⟨ks, kf⟩⟩], r22, A', c', by omega, by go_num, exsP_snoc HF.out hx, HP25, HX25, HR25, HO25, HB25⟩
        case measure => simp [intOf]; omega
      · go_simp
        refine (rex_any g s r20 _ HR21.out hs).mono ?_
        cases hx : exP r20 with
        | error z =>
          rintro e w22 ⟨rfl, ho1⟩
          have hst := exsP_stop hlt HF.out hx
          have hres : bodyP 7 src dst l = .error z := by unfold bodyP; (try simp only [hc, h1, h2, andP, restP]); (try simp [hst, h64, andP])
          have hfo : FOut g P w (bodyP 7 src dst l) (.panicked [pv z]) w22 := by rw [hres]; exact ⟨rfl, HO21.out.only ho1, _, (ho1.block P (blk_lt HP21.out) (by simpa using hPg)).trans HP21.out, rfl⟩
          exact ⟨rfl, hfo⟩
        | ok y =>
        obtain ⟨⟨xw, ⟨xe, xr⟩, xc, ⟨ks, kf⟩⟩, r22⟩ := y
        clear hHeld
        rintro e w22 ⟨⟨Ac, cc, rfl, hown⟩, hfx, hr1, ho1⟩
        replace hown := own_low_any hown HO21.out.size
        have HB22 := Lib.hid ((ho1.block w.heap.size (blk_lt HB21.out) (by simpa using nb)).trans HB21.out)
        have HP22 := Lib.hid ((ho1.block P (blk_lt HP21.out) (by simpa using hPg)).trans HP21.out)
        have HO22 := Lib.hid (HO21.out.only ho1)
        have HR22 := Lib.hid hr1
        have HX22 := Lib.hid (XOwn.keep_only HX21.out ho1 (by omega))
        clear HB21 HP21 HO21 ho1 hr1 HR21 HX21
        have HN22 := Lib.hid hown
        have HFX := Lib.hid hfx
        clear hown hfx
        unfold exV
        refine hK.out _ _ (blk_cell HB22.out) (fun hHeld => ?_)
        clear hK K
        refine wpAnyH_ready (rs := [4, 7]) (by kernel_rfl) (by simp) ?_
        refine AllReadyH.cons rfl (fun K hK => ?_) (AllReadyH.cons rfl (fun K hK => ?_) AllReadyH.nil)
        · have x21 : w22.cell? ⟨P, 21, none⟩ = some (.slice Ax k cx) := cell_of_row _ _ 21 _ _ _ HP22.out
          go_simp
          clear x21 hHeld
          refine hK.out _ _ (blk_cell HB22.out) (fun hHeld => ?_)
          clear hK K
          refine wpAnyH_ready (rs := [7]) (by kernel_rfl) (by simp) ?_
          refine AllReadyH.cons rfl (fun K hK => ?_) AllReadyH.nil
          go_simp
          have hK0 := HO22.out.size
          have HK := Lib.hid (heap_alloc_new w22 (.cells #[.int .i64 xw, .int .u64 (xe : Int), .int .i64 xr, .slice Ac xc.length cc, .int .u64 (ks : Int), .int .i64 kf] 86))
          have HX23 := Lib.hid (HX22.out.kept_below (below_alloc (Below.refl _ _) (.cells #[.int .i64 xw, .int .u64 (xe : Int), .int .i64 xr, .slice Ac xc.length cc, .int .u64 (ks : Int), .int .i64 kf] 86)))
          have HN23 := Lib.hid (HN22.out.alloc (.cells #[.int .i64 xw, .int .u64 (xe : Int), .int .i64 xr, .slice Ac xc.length cc, .int .u64 (ks : Int), .int .i64 kf] 86))
          have HP23 := Lib.hid ((Below.heap_alloc w22 (.cells #[.int .i64 xw, .int .u64 (xe : Int), .int .i64 xr, .slice Ac xc.length cc, .int .u64 (ks : Int), .int .i64 kf] 86) P (blk_lt HP22.out)).trans HP22.out)
          have HB23 := Lib.hid ((Below.heap_alloc w22 (.cells #[.int .i64 xw, .int .u64 (xe : Int), .int .i64 xr, .slice Ac xc.length cc, .int .u64 (ks : Int), .int .i64 kf] 86) w.heap.size (blk_lt HB22.out)).trans HB22.out)
          have HR23 := Lib.hid (HR22.out.kept (below_alloc (Below.refl _ _) (.cells #[.int .i64 xw, .int .u64 (xe : Int), .int .i64 xr, .slice Ac xc.length cc, .int .u64 (ks : Int), .int .i64 kf] 86)))
          have HO23 := Lib.hid (HO22.out.alloc (.cells #[.int .i64 xw, .int .u64 (xe : Int), .int .i64 xr, .slice Ac xc.length cc, .int .u64 (ks : Int), .int .i64 kf] 86))
          clear HX22 HN22 HP22 HB22 HR22 HO22 hHeld
          refine hK.out _ _ (blk_cell HB23.out) (fun hHeld => ?_)
          clear hK K
          generalize w22.heap.size = Kb at *
          generalize w22.alloc (.cells #[.int .i64 xw, .int .u64 (xe : Int), .int .i64 xr, .slice Ac xc.length cc, .int .u64 (ks : Int), .int .i64 kf] 86) = w23 at *
          refine wpAnyH_ready (rs := [8]) (by kernel_rfl) (by simp) ?_
          refine AllReadyH.cons rfl (fun K hK => ?_) AllReadyH.nil
          rw [if_pos (by rfl)]
          obtain ⟨rs, hq1, hq2, hq3⟩ := HX23.out
          have hxl := (exsP_len HF.out).1
          rw [hxl] at hq1 hq2 hq3
          refine wp_append_own _ (.tmp 123) (.tmp 126) 71 rfl w.heap.size 86 i0 _ 6 64 Try.underlying71 hi hz0 hz1 hz2 rfl (by decide) (.slice Ax k cx) k (xcs xs rs) rfl hq2 ⟨Kb, 0, none⟩ 1 1 [.int .i64 xw, .int .u64 (xe : Int), .int .i64 xr, .slice Ac xc.length cc, .int .u64 (ks : Int), .int .i64 kf] rfl rfl (news_cells HK.out) ?c2 ?c3 ?c4 ?c5 ?_
          case c2 => intro u hu; simp only [List.mem_cons, List.not_mem_nil, or_false] at hu; rcases hu with rfl | rfl | rfl | rfl | rfl | rfl <;> rfl
          case c3 => unfold maxLen; omega
          case c4 => omega
          case c5 => exact HO23.out.size
          intro v9 w24 hown hgrow _
          obtain ⟨A', c', rfl⟩ := own_form_any hown
          have hbase := fun q hq => own_base_any (k := q) hq2 hq
          have HX24 : Hid (XOwn w24 w.heap.size (.slice A' (k + 1) c') (xs ++ [⟨xw, ⟨xe, xr⟩, xc, ⟨ks, kf⟩⟩])) := XOwn.grow (hq1.trans hxl.symm) (by rw [hxl]; exact hq2) (by rw [hxl]; exact hq3) HN23.out hgrow (by rw [hxl]; exact hown)
          have hnP : some P ≠ (Value.slice Ax k cx).ownBlock := fun e => by have := hbase P e.symm; omega
          have hng : some g ≠ (Value.slice Ax k cx).ownBlock := fun e => by have := hbase g e.symm; omega
          have hnb : some w.heap.size ≠ (Value.slice Ax k cx).ownBlock := fun e => own_apart_any HB23.out hq2 (by decide) e.symm
          have HP24 := Lib.hid ((hgrow.block P (blk_lt HP23.out) hnP).trans HP23.out)
          have HB24 := Lib.hid ((hgrow.block w.heap.size (blk_lt HB23.out) hnb).trans HB23.out)
          have HR24 := Lib.hid (HR23.out.grown hgrow hng)
          have HO24 := Lib.hid (HO23.out.rows hgrow hbase)
          clear hown hgrow hq1 hq2 hq3 hbase hnP hng hnb HK HX23 HN23 HP23 HB23 HR23 HO23 hHeld
          refine hK.out _ _ (blk_cell HB24.out) (fun hHeld => ?_)
          clear hK K
          refine wpAnyH_take (i := 9) (v := .pointer (some ⟨P, 0, none⟩)) rfl (by kernel_rfl) (by kernel_rfl) (by kernel_rfl) (fun _ _ _ h => h) (Or.inl ⟨by rfl, ?_⟩) (by assumption) ?_
          · intro w hSw; (try dsimp only at hSw); go_simp
          simp only [Act.put, List.setIfInBounds_toArray, List.set_cons_zero, List.set_cons_succ]
          refine wpAnyH_take (i := 10) (v := .pointer (some ⟨P, 21, none⟩)) rfl (by kernel_rfl) (by kernel_rfl) (by kernel_rfl) (fun _ _ _ h => h) (Or.inl ⟨by rfl, ?_⟩) (by assumption) ?_
          · intro w hSw; (try dsimp only at hSw); go_simp
          simp only [Act.put, List.setIfInBounds_toArray, List.set_cons_zero, List.set_cons_succ]
          have k21 : w24.cell? ⟨P, 21, none⟩ = some (.slice Ax k cx) := cell_of_row _ _ 21 _ _ _ HP24.out
          have f21 : w24.frozen? ⟨P, 21, none⟩ = false := by simp [World.frozen?, HP24.out]
          have HP25 : Hid ((w24.setCell ⟨P, 21, none⟩ ((.slice A' (k + 1) c'))).heap[P]? = some (.cells #[.int .i64 7, .int .i64 src, .int .i64 dst, .int .u64 (ce : Int), .int .i64 cr, .int .i64 0, .int .u32 0, .int .u64 0, .int .i64 0, .slice none 0 0, .string ⟨#[]⟩, .int .u64 0, .int .u32 0, .slice none 0 0, .int .u64 0, .int .i64 0, .int .u32 0, .int .u64 (me : Int), .int .u64 0, .int .i64 0, .int .u64 0, (.slice A' (k + 1) c')] 73 (0, 0))) := (blk_setj HP24.out 21 ((.slice A' (k + 1) c')))
          have HB25 := Lib.hid ((Below.heap_setCell w24 ⟨P, 21, none⟩ ((.slice A' (k + 1) c')) w.heap.size nP).trans HB24.out)
          have HR25 := Lib.hid (RdL.set HR24.out hPg 21 ((.slice A' (k + 1) c')))
          have HO25 := Lib.hid (Two.set HO24.out 21 ((.slice A' (k + 1) c')))
          have HX25 := Lib.hid (XOwn.keep_set HX24.out hPl 21 ((.slice A' (k + 1) c')))
          clear HP24 HB24 HR24 HO24 HX24
          refine wpAnyH_ready (rs := [11]) (by kernel_rfl) (by simp) ?_
          refine AllReadyH.cons rfl (fun K hK => ?_) AllReadyH.nil
          go_simp
          clear hHeld
          clear k21 f21
          generalize (w24.setCell ⟨P, 21, none⟩ ((.slice A' (k + 1) c'))) = w25 at *
          refine hK.out _ _ (blk_cell HB25.out) (fun hHeld => ?_)
          clear hK K
          refine wpAnyH_done (by kernel_rfl) ?_ _
          go_wp2_with fail
          go_roundw
          case rel => exact ⟨k + 1, xs ++ [⟨xw, ⟨xe, xr⟩, xc, ⟨ks, kf⟩⟩], r22, A', c', by omega, by go_num, exsP_snoc HF.out hx, HP25, HX25, HR25, HO25, HB25⟩
          case measure => simp [intOf]; omega
        · go_simp
          have hK0 := HO22.out.size
          have HK := Lib.hid (heap_alloc_new w22 (.cells #[.int .i64 xw, .int .u64 (xe : Int), .int .i64 xr, .slice Ac xc.length cc, .int .u64 (ks : Int), .int .i64 kf] 86))
          have HX23 := Lib.hid (HX22.out.kept_below (below_alloc (Below.refl _ _) (.cells #[.int .i64 xw, .int .u64 (xe : Int), .int .i64 xr, .slice Ac xc.length cc, .int .u64 (ks : Int), .int .i64 kf] 86)))
          have HN23 := Lib.hid (HN22.out.alloc (.cells #[.int .i64 xw, .int .u64 (xe : Int), .int .i64 xr, .slice Ac xc.length cc, .int .u64 (ks : Int), .int .i64 kf] 86))
          have HP23 := Lib.hid ((Below.heap_alloc w22 (.cells #[.int .i64 xw, .int .u64 (xe : Int), .int .i64 xr, .slice Ac xc.length cc, .int .u64 (ks : Int), .int .i64 kf] 86) P (blk_lt HP22.out)).trans HP22.out)
          have HB23 := Lib.hid ((Below.heap_alloc w22 (.cells #[.int .i64 xw, .int .u64 (xe : Int), .int .i64 xr, .slice Ac xc.length cc, .int .u64 (ks : Int), .int .i64 kf] 86) w.heap.size (blk_lt HB22.out)).trans HB22.out)
          have HR23 := Lib.hid (HR22.out.kept (below_alloc (Below.refl _ _) (.cells #[.int .i64 xw, .int .u64 (xe : Int), .int .i64 xr, .slice Ac xc.length cc, .int .u64 (ks : Int), .int .i64 kf] 86)))
          have HO23 := Lib.hid (HO22.out.alloc (.cells #[.int .i64 xw, .int .u64 (xe : Int), .int .i64 xr, .slice Ac xc.length cc, .int .u64 (ks : Int), .int .i64 kf] 86))
          clear HX22 HN22 HP22 HB22 HR22 HO22 hHeld
          refine hK.out _ _ (blk_cell HB23.out) (fun hHeld => ?_)
          clear hK K
          generalize w22.heap.size = Kb at *
          generalize w22.alloc (.cells #[.int .i64 xw, .int .u64 (xe : Int), .int .i64 xr, .slice Ac xc.length cc, .int .u64 (ks : Int), .int .i64 kf] 86) = w23 at *
          refine wpAnyH_ready (rs := [4]) (by kernel_rfl) (by simp) ?_
          refine AllReadyH.cons rfl (fun K hK => ?_) AllReadyH.nil
          have x21 : w23.cell? ⟨P, 21, none⟩ = some (.slice Ax k cx) := cell_of_row _ _ 21 _ _ _ HP23.out
          go_simp
          clear x21 hHeld
          refine hK.out _ _ (blk_cell HB23.out) (fun hHeld => ?_)
          clear hK K
          refine wpAnyH_ready (rs := [8]) (by kernel_rfl) (by simp) ?_
          refine AllReadyH.cons rfl (fun K hK => ?_) AllReadyH.nil
          rw [if_pos (by rfl)]
          obtain ⟨rs, hq1, hq2, hq3⟩ := HX23.out
          have hxl := (exsP_len HF.out).1
          rw [hxl] at hq1 hq2 hq3
          refine wp_append_own _ (.tmp 123) (.tmp 126) 71 rfl w.heap.size 86 i0 _ 6 64 Try.underlying71 hi hz0 hz1 hz2 rfl (by decide) (.slice Ax k cx) k (xcs xs rs) rfl hq2 ⟨Kb, 0, none⟩ 1 1 [.int .i64 xw, .int .u64 (xe : Int), .int .i64 xr, .slice Ac xc.length cc, .int .u64 (ks : Int), .int .i64 kf] rfl rfl (news_cells HK.out) ?c2 ?c3 ?c4 ?c5 ?_
          case c2 => intro u hu; simp only [List.mem_cons, List.not_mem_nil, or_false] at hu; rcases hu with rfl | rfl | rfl | rfl | rfl | rfl <;> rfl
          case c3 => unfold maxLen; omega
          case c4 => omega
          case c5 => exact HO23.out.size
          intro v9 w24 hown hgrow _
          obtain ⟨A', c', rfl⟩ := own_form_any hown
          have hbase := fun q hq => own_base_any (k := q) hq2 hq
          have HX24 : Hid (XOwn w24 w.heap.size (.slice A' (k + 1) c') (xs ++ [⟨xw, ⟨xe, xr⟩, xc, ⟨ks, kf⟩⟩])) := XOwn.grow (hq1.trans hxl.symm) (by rw [hxl]; exact hq2) (by rw [hxl]; exact hq3) HN23.out hgrow (by rw [hxl]; exact hown)
          have hnP : some P ≠ (Value.slice Ax k cx).ownBlock := fun e => by have := hbase P e.symm; omega
          have hng : some g ≠ (Value.slice Ax k cx).ownBlock := fun e => by have := hbase g e.symm; omega
          have hnb : some w.heap.size ≠ (Value.slice Ax k cx).ownBlock := fun e => own_apart_any HB23.out hq2 (by decide) e.symm
          have HP24 := Lib.hid ((hgrow.block P (blk_lt HP23.out) hnP).trans HP23.out)
          have HB24 := Lib.hid ((hgrow.block w.heap.size (blk_lt HB23.out) hnb).trans HB23.out)
          have HR24 := Lib.hid (HR23.out.grown hgrow hng)
          have HO24 := Lib.hid (HO23.out.rows hgrow hbase)
          clear hown hgrow hq1 hq2 hq3 hbase hnP hng hnb HK HX23 HN23 HP23 HB23 HR23 HO23 hHeld
          refine hK.out _ _ (blk_cell HB24.out) (fun hHeld => ?_)
          clear hK K
          refine wpAnyH_take (i := 9) (v := .pointer (some ⟨P, 0, none⟩)) rfl (by kernel_rfl) (by kernel_rfl) (by kernel_rfl) (fun _ _ _ h => h) (Or.inl ⟨by rfl, ?_⟩) (by assumption) ?_
          · intro w hSw; (try dsimp only at hSw); go_simp
          simp only [Act.put, List.setIfInBounds_toArray, List.set_cons_zero, List.set_cons_succ]
          refine wpAnyH_take (i := 10) (v := .pointer (some ⟨P, 21, none⟩)) rfl (by kernel_rfl) (by kernel_rfl) (by kernel_rfl) (fun _ _ _ h => h) (Or.inl ⟨by rfl, ?_⟩) (by assumption) ?_
          · intro w hSw; (try dsimp only at hSw); go_simp
          simp only [Act.put, List.setIfInBounds_toArray, List.set_cons_zero, List.set_cons_succ]
          have k21 : w24.cell? ⟨P, 21, none⟩ = some (.slice Ax k cx) := cell_of_row _ _ 21 _ _ _ HP24.out
          have f21 : w24.frozen? ⟨P, 21, none⟩ = false := by simp [World.frozen?, HP24.out]
          have HP25 : Hid ((w24.setCell ⟨P, 21, none⟩ ((.slice A' (k + 1) c'))).heap[P]? = some (.cells #[.int .i64 7, .int .i64 src, .int .i64 dst, .int .u64 (ce : Int), .int .i64 cr, .int .i64 0, .int .u32 0, .int .u64 0, .int .i64 0, .slice none 0 0, .string ⟨#[]⟩, .int .u64 0, .int .u32 0, .slice none 0 0, .int .u64 0, .int .i64 0, .int .u32 0, .int .u64 (me : Int), .int .u64 0, .int .i64 0, .int .u64 0, (.slice A' (k + 1) c')] 73 (0, 0))) := (blk_setj HP24.out 21 ((.slice A' (k + 1) c')))
          have HB25 := Lib.hid ((Below.heap_setCell w24 ⟨P, 21, none⟩ ((.slice A' (k + 1) c')) w.heap.size nP).trans HB24.out)
          have HR25 := Lib.hid (RdL.set HR24.out hPg 21 ((.slice A' (k + 1) c')))
          have HO25 := Lib.hid (Two.set HO24.out 21 ((.slice A' (k + 1) c')))
          have HX25 := Lib.hid (XOwn.keep_set HX24.out hPl 21 ((.slice A' (k + 1) c')))
          clear HP24 HB24 HR24 HO24 HX24
          refine wpAnyH_ready (rs := [11]) (by kernel_rfl) (by simp) ?_
          refine AllReadyH.cons rfl (fun K hK => ?_) AllReadyH.nil
          go_simp
          clear hHeld
          clear k21 f21
          generalize (w24.setCell ⟨P, 21, none⟩ ((.slice A' (k + 1) c'))) = w25 at *
          refine hK.out _ _ (blk_cell HB25.out) (fun hHeld => ?_)
          clear hK K
          refine wpAnyH_done (by kernel_rfl) ?_ _
          go_wp2_with fail
          go_roundw
          case rel => exact ⟨k + 1, xs ++ [⟨xw, ⟨xe, xr⟩, xc, ⟨ks, kf⟩⟩], r22, A', c', by omega, by go_num, exsP_snoc HF.out hx, HP25, HX25, HR25, HO25, HB25⟩
          case measure => simp [intOf]; omega
    · obtain rfl : k = n := by omega
      have bx := blk_cell HB20.out
      go_wp2_with fail
      have hex := HF.out
      obtain ⟨hxl, hxf⟩ := exsP_len hex
      have HXL := Lib.hid hxl
      have HXF := Lib.hid hxf
      clear hxl hxf
      refine (left_rd g s r20 w20 HR20.out hs).mono ?_
      rintro e w21 ⟨rfl, q, rfl⟩
      cases hl : r20 with
      | nil =>
        go_wp2_with fail
        refine (bad_no _ _).mono ?_
        rintro e w9 ⟨rfl, rfl⟩
        go_wp2_with fail
        go_end0
        rw [show bodyP 7 src dst l = .ok (⟨7, src, dst, ⟨ce, cr⟩, .zero, 0, 0, [], 0, 0, 0, me, .zero, 0, xs⟩ : Pk) by unfold bodyP; (try simp only [hc, h1, h2, andP, restP]); (try simp [hex, h64, hl, andP, Pk.zero])]
        have hp := HP20.out
        have hx := HX20.out
        rw [← HXL.out] at hp hx
        exact ⟨rfl, ⟨_, _, _, _, _, _, hp, World.ownsRow_nil _ _ _ _, World.ownsRow_nil _ _ _ _, hx⟩, ⟨hfc, zms, z64, z32, znil, z64, z32, hfe, z64, z64, HXF.out⟩, HO20.out.drewN q⟩
      | cons b r =>
        have hd : decide ((0 : Int) < (((b :: r).length : Nat) : Int)) = true := by simp
        go_wp2_with fail
        refine (bad_yes _ _).mono ?_
        rintro e w9 ⟨rfl, rfl⟩
        go_wp2_with fail
        rw [show bodyP 7 src dst l = .error 4 by unfold bodyP; (try simp only [hc, h1, h2, andP, restP]); (try simp [hex, h64, hl, andP])]
        exact ⟨rfl, rfl, HO20.out.drewN q, _, HP20.out, rfl⟩
end Go.Proofs.Ythkfgjdbgnbjkaa
