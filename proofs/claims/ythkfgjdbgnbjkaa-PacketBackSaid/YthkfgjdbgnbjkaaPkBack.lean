/- The walk of PacketBack. (Printed by pkback.py.) -/
import Derived.Test.YthkfgjdbgnbjkaaPkOne
import Derived.Test.YthkfgjdbgnbjkaaPkZ2
import Derived.Test.YthkfgjdbgnbjkaaPkFew
namespace Go.Proofs.Ythkfgjdbgnbjkaa
open Go.RowKit
set_option linter.unusedSimpArgs false
set_option linter.unusedVariables false

theorem wpList_load_row_on {P : Program} {ops : Array Oper} {rest : List Oper} {o : Oper} {a : Act} {w : World} {Q : Exit → Act → World → Prop} (hw : Region.wanted o (yielded ops a.tmps) = true) (ty : TypeId) (x : Operand) (ho : o.op = .load ty x)
    (g : Nat) (hx : a.eval x = .pointer (some ⟨g, 0, none⟩)) (t : TypeId) (cs : Array Value) (fr : Nat × Nat) (d : TypeDesc) (hg : w.heap[g]? = some (.cells cs t fr))
    (hu : P.underlying ty = some d) (hd : (match d with | .struct _ | .array _ _ => true | _ => false) = true) (hi : (P.info? ty).map (·.size) = some cs.size)
    (h : wpList P ops Q rest (a.put o.dst (.agg cs)) w) : wpList P ops Q (o :: rest) a w :=
  wpList_step fun K hK => by simp only [hw, if_true]; exact wp_load_row ty x ho g hx t cs fr d hg hu hd hi (hK _ _ h)
/-- what the heap bears of a packet that came in. -/
structure Pk.borne (p : Pk) : Prop where
  s : p.small maxLen
  pay : p.m.pay.size ≤ maxLen
  got : p.got.length ≤ 35184372088832
  m : p.m.deps.length ≤ 35184372088832
theorem Pk.borne.okay {p : Pk} (h : p.borne) (hx : p.x.length ≤ 50000) (hc : ∀ e ∈ p.x, e.cnt.length ≤ 50000) : p.okay := ⟨h.m, h.got, by omega, fun e he => by have := hc e he; omega⟩
theorem few_v {w : World} {p : Pk} {v : Value} (h : PerV w p v) (hb : p.borne) : Calls Try.prog 47 #[v] w fun e w' => (∃ b, e = .returned (.bool b) ∧ (b = true → p.okay)) ∧ Below w.heap.size w w' := by
  obtain ⟨Am, cm, Ag, cg, Ax, cx, rfl, h1, h2, h3⟩ := h
  refine (few_pk p Am cm Ag cg Ax cx w h3 hb.s.m hb.s.got hb.s.x hb.s.c hb.pay).mono ?_
  rintro e w' ⟨⟨b, rfl, hbb⟩, hbl⟩
  exact ⟨⟨b, rfl, fun h => hb.okay (hbb h).1 (hbb h).2⟩, hbl⟩

set_option maxHeartbeats 3200000 in
set_option maxRecDepth 8000 in
theorem pback_walk (p : Pk) (v : Value) (w : World) (hv : PerV w p v) (hf : p.fits) (hbo : p.borne) :
    Calls Try.prog 18 #[v] w fun e w' => e = .returned (.bool true) ∧ Below w.heap.size w w' := by
  obtain ⟨V, rfl, hvs, hone, -⟩ := hv.agg
  have i1 : (Try.prog.info? 73).map (·.size) = some V.size := by rw [hvs]; exact info73
  have hb0 := below_alloc (Below.refl w.heap.size w) (.cells V 73)
  have HK0 := Lib.hid (heap_alloc_new w (.cells V 73))
  have HV0 := Lib.hid (hv.on hb0)
  have HBO := Lib.hid hbo
  have HF := Lib.hid hf
  have hlt0 : w.heap.size < (w.alloc (.cells V 73)).heap.size := by simp
  clear hv hbo hf
  go_enter Try.func18, Try.ntmps18
  go_wp2_with fail
  generalize w.alloc (.cells V 73) = w0 at *
  refine (awake06 w0).mono ?_
  rintro e w1 ⟨rfl, hb1⟩
  have HK1 := Lib.hid ((hb1.block w.heap.size hlt0).trans HK0.out)
  have HV1 := Lib.hid (HV0.out.on hb1)
  have hbl1 := below_step hb0 hb1
  have hlt1 := Nat.lt_of_lt_of_le hlt0 hb1.size
  clear hb0 hb1 HK0 HV0 hlt0
  go_wp2_with (refine wpList_load_row rfl 73 (.tmp 1) rfl w.heap.size (by simp [Act.eval, Act.put]) 73 V (0, 0) _ HK1.out Try.underlying73 rfl i1 ?_)
  refine (few_v HV1.out HBO.out).mono ?_
  rintro e w2 ⟨⟨b, rfl, hfew⟩, hb2⟩
  have HK2 := Lib.hid ((hb2.block w.heap.size hlt1).trans HK1.out)
  have HV2 := Lib.hid (HV1.out.on hb2)
  have hbl2 := below_step hbl1 hb2
  have hlt2 := Nat.lt_of_lt_of_le hlt1 hb2.size
  clear hbl1 hb2 HK1 HV1 hlt1 HBO
  cases b with
  | false =>
    go_wp2_with fail
    go_ret
    exact ⟨rfl, hbl2⟩
  | true =>
  have HOK := Lib.hid (hfew rfl)
  clear hfew
  go_wp2_with (refine wpList_load_row rfl 73 (.tmp 1) rfl w.heap.size (by simp [Act.eval, Act.put]) 73 V (0, 0) _ HK2.out Try.underlying73 rfl i1 ?_)
  refine (clean_v HV2.out HOK.out).mono ?_
  rintro e w3 ⟨⟨u, rfl, hu⟩, hb3⟩
  have hup := hu.per
  obtain ⟨U, rfl, hus, huone, -⟩ := PerV.agg (show PerV w3 (cleanF p) u from hup)
  have i2 : (Try.prog.info? 73).map (·.size) = some U.size := by rw [hus]; exact info73
  have hzs : (#[.int .i64 0, .int .i64 0, .int .i64 0, .int .u64 0, .int .i64 0, .int .i64 0, .int .u32 0, .int .u64 0, .int .i64 0, .slice none 0 0, .string ⟨#[]⟩, .int .u64 0, .int .u32 0, .slice none 0 0, .int .u64 0, .int .i64 0, .int .u32 0, .int .u64 0, .int .u64 0, .int .i64 0, .int .u64 0, .slice none 0 0] : Array Value).size = U.size := by rw [hus]; rfl
  have HK3 := (hb3.block w.heap.size hlt2).trans HK2.out
  have HV3 := HV2.out.on hb3
  have hbl3 := below_step hbl2 hb3
  have hlt3 := Nat.lt_of_lt_of_le hlt2 hb3.size
  have D0 := heap_alloc_new w3 (.cells #[.int .i64 0, .int .i64 0, .int .i64 0, .int .u64 0, .int .i64 0, .int .i64 0, .int .u32 0, .int .u64 0, .int .i64 0, .slice none 0 0, .string ⟨#[]⟩, .int .u64 0, .int .u32 0, .slice none 0 0, .int .u64 0, .int .i64 0, .int .u32 0, .int .u64 0, .int .u64 0, .int .i64 0, .int .u64 0, .slice none 0 0] 73)
  have hbA := below_setRow (below_alloc (Below.refl w3.heap.size w3) (.cells #[.int .i64 0, .int .i64 0, .int .i64 0, .int .u64 0, .int .i64 0, .int .i64 0, .int .u32 0, .int .u64 0, .int .i64 0, .slice none 0 0, .string ⟨#[]⟩, .int .u64 0, .int .u32 0, .slice none 0 0, .int .u64 0, .int .i64 0, .int .u32 0, .int .u64 0, .int .u64 0, .int .i64 0, .int .u64 0, .slice none 0 0] 73)) (Nat.le_refl _) U
  have HKa := Lib.hid ((hbA.block w.heap.size hlt3).trans HK3)
  have HKu := Lib.hid (setRow_heap (w3.alloc (.cells #[.int .i64 0, .int .i64 0, .int .i64 0, .int .u64 0, .int .i64 0, .int .i64 0, .int .u32 0, .int .u64 0, .int .i64 0, .slice none 0 0, .string ⟨#[]⟩, .int .u64 0, .int .u32 0, .slice none 0 0, .int .u64 0, .int .i64 0, .int .u32 0, .int .u64 0, .int .u64 0, .int .i64 0, .int .u64 0, .slice none 0 0] 73)) w3.heap.size #[.int .i64 0, .int .i64 0, .int .i64 0, .int .u64 0, .int .i64 0, .int .i64 0, .int .u32 0, .int .u64 0, .int .i64 0, .slice none 0 0, .string ⟨#[]⟩, .int .u64 0, .int .u32 0, .slice none 0 0, .int .u64 0, .int .i64 0, .int .u32 0, .int .u64 0, .int .u64 0, .int .i64 0, .int .u64 0, .slice none 0 0] U 73 (0, 0) D0)
  have HVa := Lib.hid (HV3.on hbA)
  have HUa := Lib.hid (PerV.on (show PerV w3 (cleanF p) (.agg U) from hup) hbA)
  have hbla := below_step hbl3 hbA
  have hlta : w3.heap.size < ((w3.alloc (.cells #[.int .i64 0, .int .i64 0, .int .i64 0, .int .u64 0, .int .i64 0, .int .i64 0, .int .u32 0, .int .u64 0, .int .i64 0, .slice none 0 0, .string ⟨#[]⟩, .int .u64 0, .int .u32 0, .slice none 0 0, .int .u64 0, .int .i64 0, .int .u32 0, .int .u64 0, .int .u64 0, .int .i64 0, .int .u64 0, .slice none 0 0] 73)).setRow w3.heap.size U).heap.size := by simp
  have hlt3' := hlt3
  clear hu hup hb3 hbl2 hbl3 HK2 HV2 HK3 HV3 hlt2 hbA
  go_wp2_with (first | (refine wpList_store_row rfl 73 (.tmp 3) (.tmp 16) rfl w3.heap.size U (by simp [Act.eval, Act.put]) (by simp [Act.eval, Act.put]) 73 #[.int .i64 0, .int .i64 0, .int .i64 0, .int .u64 0, .int .i64 0, .int .i64 0, .int .u32 0, .int .u64 0, .int .i64 0, .slice none 0 0, .string ⟨#[]⟩, .int .u64 0, .int .u32 0, .slice none 0 0, .int .u64 0, .int .i64 0, .int .u32 0, .int .u64 0, .int .u64 0, .int .i64 0, .int .u64 0, .slice none 0 0] D0 (by assumption) (by assumption) (by assumption) ?_; clear D0; generalize (w3.alloc (.cells #[.int .i64 0, .int .i64 0, .int .i64 0, .int .u64 0, .int .i64 0, .int .i64 0, .int .u32 0, .int .u64 0, .int .i64 0, .slice none 0 0, .string ⟨#[]⟩, .int .u64 0, .int .u32 0, .slice none 0 0, .int .u64 0, .int .i64 0, .int .u32 0, .int .u64 0, .int .u64 0, .int .i64 0, .int .u64 0, .slice none 0 0] 73)).setRow w3.heap.size U = w3a at *) | (have hmk := w3a.heap; clear hmk; refine wpList_load_row rfl 73 (.tmp 1) rfl w.heap.size (by simp [Act.eval, Act.put]) 73 V (0, 0) _ HKa.out Try.underlying73 rfl i1 ?_))
  generalize w3.heap.size = K at *
  have HPR := Lib.hid (print_v HVa.out HF.out)
  refine HPR.out.mono ?_
  rintro e w4 ⟨rfl, hb4⟩
  have HKu4 := Lib.hid ((hb4.block K hlta).trans HKu.out)
  have HV4 := Lib.hid (HVa.out.on hb4)
  have HU4 := Lib.hid (HUa.out.on hb4)
  have hbl4 := below_step hbla hb4
  have hlt4 := Nat.lt_of_lt_of_le hlta hb4.size
  clear HPR HKa HKu HVa HUa hbla hb4 hlta
  have HPC := Lib.hid (print_v HU4.out (clean_fits HF.out))
  rw [clean_print] at HPC
  have HBL := Lib.hid (back_law HF.out)
  generalize (printP p).1 = s at *
  generalize (printP p).2 = c at *
  go_wp2_with (refine wpList_load_row rfl 73 (.tmp 3) rfl K (by simp [Act.eval, Act.put]) 73 U (0, 0) _ HKu4.out Try.underlying73 rfl i2 ?_)
  refine HPC.out.mono ?_
  rintro e w5 ⟨rfl, hb5⟩
  have HK := Lib.hid ((hb5.block K hlt4).trans HKu4.out)
  have HU := Lib.hid (HU4.out.on hb5)
  have hbl5 := below_step hbl4 hb5
  have hlt := Nat.lt_of_lt_of_le hlt4 hb5.size
  have HCO := Lib.hid (clean_okay HOK.out)
  clear HPC HKu4 HV4 HU4 hbl4 hb5 hlt4 HOK hlt3 hlt3'
  go_wp2_with fail
  refine wp_region_held_drew (S := fun w' => Below w5.heap.size w5 w') (by kernel_rfl) ?_ (fun hHeld => ?_)
  · exact (Below.refl _ _).drew
  refine wpAnyH_take (i := 0) (v := .string s) rfl (by kernel_rfl) (by kernel_rfl) (by kernel_rfl) (fun _ _ _ h => h) (Or.inl ⟨by kernel_rfl, ?_⟩) (by assumption) ?_
  · intro w hSw; (try dsimp only at hSw); go_simp
  simp only [Act.put, List.setIfInBounds_toArray, List.set_cons_zero, List.set_cons_succ]
  refine wpAnyH_take (i := 1) (v := .string s) rfl (by kernel_rfl) (by kernel_rfl) (by kernel_rfl) (fun _ _ _ h => h) (Or.inl ⟨by kernel_rfl, ?_⟩) (by assumption) ?_
  · intro w hSw; (try dsimp only at hSw); go_simp
  simp only [Act.put, List.setIfInBounds_toArray, List.set_cons_zero, List.set_cons_succ]
  refine wpAnyH_take (i := 2) (v := .bool false) rfl (by kernel_rfl) (by kernel_rfl) (by kernel_rfl) (fun _ _ _ h => h) (Or.inl ⟨by kernel_rfl, ?_⟩) (by assumption) ?_
  · intro w hSw; (try dsimp only at hSw); go_simp
  simp only [Act.put, List.setIfInBounds_toArray, List.set_cons_zero, List.set_cons_succ]
  refine wpAnyH_take (i := 3) (v := .bool false) rfl (by kernel_rfl) (by kernel_rfl) (by kernel_rfl) (fun _ _ _ h => h) (Or.inl ⟨by kernel_rfl, ?_⟩) (by assumption) ?_
  · intro w hSw; (try dsimp only at hSw); go_simp
  simp only [Act.put, List.setIfInBounds_toArray, List.set_cons_zero, List.set_cons_succ]
  refine wpAnyH_take (i := 4) (v := .int .i64 c) rfl (by kernel_rfl) (by kernel_rfl) (by kernel_rfl) (fun _ _ _ h => h) (Or.inl ⟨by kernel_rfl, ?_⟩) (by assumption) ?_
  · intro w hSw; (try dsimp only at hSw); go_simp
  simp only [Act.put, List.setIfInBounds_toArray, List.set_cons_zero, List.set_cons_succ]
  refine wpAnyH_take (i := 5) (v := .int .i64 c) rfl (by kernel_rfl) (by kernel_rfl) (by kernel_rfl) (fun _ _ _ h => h) (Or.inl ⟨by kernel_rfl, ?_⟩) (by assumption) ?_
  · intro w hSw; (try dsimp only at hSw); go_simp
  simp only [Act.put, List.setIfInBounds_toArray, List.set_cons_zero, List.set_cons_succ]
  refine wpAnyH_take (i := 6) (v := .bool false) rfl (by kernel_rfl) (by kernel_rfl) (by kernel_rfl) (fun _ _ _ h => h) (Or.inl ⟨by kernel_rfl, ?_⟩) (by assumption) ?_
  · intro w hSw; (try dsimp only at hSw); go_simp
  simp only [Act.put, List.setIfInBounds_toArray, List.set_cons_zero, List.set_cons_succ]
  refine wpAnyH_take (i := 7) (v := .bool false) rfl (by kernel_rfl) (by kernel_rfl) (by kernel_rfl) (fun _ _ _ h => h) (Or.inl ⟨by kernel_rfl, ?_⟩) (by assumption) ?_
  · intro w hSw; (try dsimp only at hSw); go_simp
  simp only [Act.put, List.setIfInBounds_toArray, List.set_cons_zero, List.set_cons_succ]
  refine wpAnyH_take (i := 8) (v := .bool false) rfl (by kernel_rfl) (by kernel_rfl) (by kernel_rfl) (fun _ _ _ h => h) (Or.inl ⟨by kernel_rfl, ?_⟩) (by assumption) ?_
  · intro w hSw; (try dsimp only at hSw); go_simp
  simp only [Act.put, List.setIfInBounds_toArray, List.set_cons_zero, List.set_cons_succ]
  refine wpAnyH_take (i := 9) (v := .agg U) rfl (by kernel_rfl) (by kernel_rfl) (by kernel_rfl) (fun _ _ _ h => h) (yields_load_row 73 (.tmp 3) (by kernel_rfl) (by kernel_rfl) K (by kernel_rfl) 73 U (0, 0) _ (fun w hS => (hS.block K (by omega)).trans HK.out) Try.underlying73 rfl i2) (by assumption) ?_
  simp only [Act.put, List.setIfInBounds_toArray, List.set_cons_zero, List.set_cons_succ]
  refine wpAnyH_take (i := 11) (v := .agg U) rfl (by kernel_rfl) (by kernel_rfl) (by kernel_rfl) (fun _ _ _ h => h) (yields_load_row 73 (.tmp 3) (by kernel_rfl) (by kernel_rfl) K (by kernel_rfl) 73 U (0, 0) _ (fun w hS => (hS.block K (by omega)).trans HK.out) Try.underlying73 rfl i2) (by assumption) ?_
  simp only [Act.put, List.setIfInBounds_toArray, List.set_cons_zero, List.set_cons_succ]
  refine wpAnyH_ready (rs := [10]) (by kernel_rfl) (by simp) ?_
  refine AllReadyH.cons rfl (fun Kq hK => ?_) AllReadyH.nil
  go_simp
  refine (clean_v (HU.out.on hHeld) HCO.out).mono ?_
  rintro e w6 ⟨⟨u2, rfl, hu2⟩, hb6⟩
  rw [clean_twice] at hu2
  have HU2 := Lib.hid hu2.per
  have hB6 := below_step hHeld hb6
  clear hu2 hb6 hHeld
  refine hK.out _ _ hB6 (fun hHeld => ?_)
  clear hK Kq
  refine wpAnyH_ready (rs := [12]) (by kernel_rfl) (by simp) ?_
  refine AllReadyH.cons rfl (fun Kq hK => ?_) AllReadyH.nil
  go_simp
  refine (same_v HU2.out (HU.out.on hHeld) HCO.out).mono ?_
  rintro e w7 ⟨rfl, hb7⟩
  have hB7 := below_step hHeld hb7
  clear hB6 hb7 hHeld HU2
  refine hK.out _ _ hB7 (fun hHeld => ?_)
  clear hK Kq
  refine wpAnyH_take (i := 13) (v := .bool false) rfl (by kernel_rfl) (by kernel_rfl) (by kernel_rfl) (fun _ _ _ h => h) (Or.inl ⟨by kernel_rfl, ?_⟩) (by assumption) ?_
  · intro w hSw; (try dsimp only at hSw); go_simp
  simp only [Act.put, List.setIfInBounds_toArray, List.set_cons_zero, List.set_cons_succ]
  refine wpAnyH_take (i := 14) (v := .bool false) rfl (by kernel_rfl) (by kernel_rfl) (by kernel_rfl) (fun _ _ _ h => h) (Or.inl ⟨by kernel_rfl, ?_⟩) (by assumption) ?_
  · intro w hSw; (try dsimp only at hSw); go_simp
  simp only [Act.put, List.setIfInBounds_toArray, List.set_cons_zero, List.set_cons_succ]
  refine wpAnyH_done (by kernel_rfl) ?_ _
  replace HK := Lib.hid ((hHeld.block K hlt).trans HK.out)
  replace HU := Lib.hid (HU.out.on hHeld)
  have hbl7 := below_step hbl5 hHeld
  replace hlt := Nat.lt_of_lt_of_le hlt hHeld.size
  clear hHeld hB7 hbl5
  by_cases hc : c = 0
  case neg =>
    have hdc : decide (c = 0) = false := by simpa using hc
    have hse := HBL.out.2 hc
    subst hse
    go_wp2_with fail
    go_ret
    exact ⟨rfl, hbl7⟩
  subst hc
  obtain ⟨hsz, hpp⟩ := HBL.out.1 rfl
  have HP := Lib.hid (parse_v s w7 (by omega))
  rw [hpp] at HP
  clear HBL hpp
  go_wp2_with fail
  refine HP.out.mono ?_
  rintro e w8 ⟨⟨x, rfl, hx⟩, -, hb8⟩
  obtain ⟨X, rfl, hxs, hxone, -⟩ := PerV.agg (show PerV w8 (cleanF p) x from hx)
  have i3 : (Try.prog.info? 73).map (·.size) = some X.size := by rw [hxs]; exact info73
  have hzx : (#[.int .i64 0, .int .i64 0, .int .i64 0, .int .u64 0, .int .i64 0, .int .i64 0, .int .u32 0, .int .u64 0, .int .i64 0, .slice none 0 0, .string ⟨#[]⟩, .int .u64 0, .int .u32 0, .slice none 0 0, .int .u64 0, .int .i64 0, .int .u32 0, .int .u64 0, .int .u64 0, .int .i64 0, .int .u64 0, .slice none 0 0] : Array Value).size = X.size := by rw [hxs]; rfl
  have HK8 := (hb8.block K hlt).trans HK.out
  have HU8 := HU.out.on hb8
  have hbl8 := below_step hbl7 hb8
  have hlt8 := Nat.lt_of_lt_of_le hlt hb8.size
  have D0 := heap_alloc_new w8 (.cells #[.int .i64 0, .int .i64 0, .int .i64 0, .int .u64 0, .int .i64 0, .int .i64 0, .int .u32 0, .int .u64 0, .int .i64 0, .slice none 0 0, .string ⟨#[]⟩, .int .u64 0, .int .u32 0, .slice none 0 0, .int .u64 0, .int .i64 0, .int .u32 0, .int .u64 0, .int .u64 0, .int .i64 0, .int .u64 0, .slice none 0 0] 73)
  have hbA := below_setRow (below_alloc (Below.refl w8.heap.size w8) (.cells #[.int .i64 0, .int .i64 0, .int .i64 0, .int .u64 0, .int .i64 0, .int .i64 0, .int .u32 0, .int .u64 0, .int .i64 0, .slice none 0 0, .string ⟨#[]⟩, .int .u64 0, .int .u32 0, .slice none 0 0, .int .u64 0, .int .i64 0, .int .u32 0, .int .u64 0, .int .u64 0, .int .i64 0, .int .u64 0, .slice none 0 0] 73)) (Nat.le_refl _) X
  have HKa := Lib.hid ((hbA.block K hlt8).trans HK8)
  have HKx := Lib.hid (setRow_heap (w8.alloc (.cells #[.int .i64 0, .int .i64 0, .int .i64 0, .int .u64 0, .int .i64 0, .int .i64 0, .int .u32 0, .int .u64 0, .int .i64 0, .slice none 0 0, .string ⟨#[]⟩, .int .u64 0, .int .u32 0, .slice none 0 0, .int .u64 0, .int .i64 0, .int .u32 0, .int .u64 0, .int .u64 0, .int .i64 0, .int .u64 0, .slice none 0 0] 73)) w8.heap.size #[.int .i64 0, .int .i64 0, .int .i64 0, .int .u64 0, .int .i64 0, .int .i64 0, .int .u32 0, .int .u64 0, .int .i64 0, .slice none 0 0, .string ⟨#[]⟩, .int .u64 0, .int .u32 0, .slice none 0 0, .int .u64 0, .int .i64 0, .int .u32 0, .int .u64 0, .int .u64 0, .int .i64 0, .int .u64 0, .slice none 0 0] X 73 (0, 0) D0)
  have HUa := Lib.hid (HU8.on hbA)
  have HXa := Lib.hid (PerV.on (show PerV w8 (cleanF p) (.agg X) from hx) hbA)
  have hbla := below_step hbl8 hbA
  clear hx hb8 hbl7 hbl8 HK HU HK8 HU8 hlt hlt8 hbA HP
  go_wp2_with (first | (refine wpList_store_row rfl 73 (.tmp 8) (.tmp 49) rfl w8.heap.size X (by simp [Act.eval, Act.put]) (by simp [Act.eval, Act.put]) 73 #[.int .i64 0, .int .i64 0, .int .i64 0, .int .u64 0, .int .i64 0, .int .i64 0, .int .u32 0, .int .u64 0, .int .i64 0, .slice none 0 0, .string ⟨#[]⟩, .int .u64 0, .int .u32 0, .slice none 0 0, .int .u64 0, .int .i64 0, .int .u32 0, .int .u64 0, .int .u64 0, .int .i64 0, .int .u64 0, .slice none 0 0] D0 (by assumption) (by assumption) (by assumption) ?_; clear D0; generalize (w8.alloc (.cells #[.int .i64 0, .int .i64 0, .int .i64 0, .int .u64 0, .int .i64 0, .int .i64 0, .int .u32 0, .int .u64 0, .int .i64 0, .slice none 0 0, .string ⟨#[]⟩, .int .u64 0, .int .u32 0, .slice none 0 0, .int .u64 0, .int .i64 0, .int .u32 0, .int .u64 0, .int .u64 0, .int .i64 0, .int .u64 0, .slice none 0 0] 73)).setRow w8.heap.size X = w8a at *) | (have hmk := w8a.heap; clear hmk; refine wpList_load_row_on (by kernel_rfl) 73 (.tmp 8) rfl w8.heap.size (by simp [Act.eval, Act.put]) 73 X (0, 0) _ HKx.out Try.underlying73 rfl i3 ?_) | (have hmk := w8a.heap; clear hmk; refine wpList_load_row_on (by kernel_rfl) 73 (.tmp 3) rfl K (by simp [Act.eval, Act.put]) 73 U (0, 0) _ HKa.out Try.underlying73 rfl i2 ?_))
  refine (same_v HXa.out HUa.out HCO.out).mono ?_
  rintro e w9 ⟨rfl, hb9⟩
  go_wp2_with fail
  go_ret
  exact ⟨rfl, below_step hbla hb9⟩
end Go.Proofs.Ythkfgjdbgnbjkaa
