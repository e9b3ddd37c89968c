/- The walk of PacketOne. (Printed by pkone.py.) -/
import Derived.Test.YthkfgjdbgnbjkaaPkZ
import Derived.Test.YthkfgjdbgnbjkaaPkV
import Derived.Test.YthkfgjdbgnbjkaaPkT
import Derived.Test.YthkfgjdbgnbjkaaPkK3
namespace Go.Proofs.Ythkfgjdbgnbjkaa
open Go.RowKit
set_option linter.unusedSimpArgs false
set_option linter.unusedVariables false

theorem yields_load_row {P : Program} {ops : Array Oper} {S : World → Prop} {o : Oper} {a : Act} (ty : TypeId) (x : Operand) (ho : o.op = .load ty x) (hw : Region.wanted o (yielded ops a.tmps) = true) (g : Nat) (hx : a.eval x = .pointer (some ⟨g, 0, none⟩)) (t : TypeId) (cs : Array Value) (fr : Nat × Nat) (d : TypeDesc)
    (hS : ∀ w, S w → w.heap[g]? = some (.cells cs t fr)) (hu : P.underlying ty = some d) (hd : (match d with | .struct _ | .array _ _ => true | _ => false) = true) (hi : (P.info? ty).map (·.size) = some cs.size) : YieldsIf P ops S o (.agg cs) a :=
  Or.inl ⟨hw, fun w h => by
    unfold execOp
    simp only [ho, hx, Instr.loadAt, Instr.sureAddr, Sem.run_bind, Sem.run_pure, Result.andThen_ok, run_loadVar_row w g t ty cs fr d (hS w h) hu hd hi]⟩
theorem OwnV.per {w : World} {B : Nat} {p : Pk} {v : Value} (h : OwnV w B p v) : ∃ Am cm Ag cg Ax cx, v = pkV p Am cm Ag cg Ax cx ∧ PerU w Am p.m.deps ∧ PerU w Ag p.got ∧ PerX w Ax p.x := by
  obtain ⟨Am, cm, Ag, cg, Ax, cx, rfl, h1, h2, h3⟩ := h
  exact ⟨Am, cm, Ag, cg, Ax, cx, rfl, per_own h1, per_own h2, per_xown h3⟩
/-- a packet's value, whose rows stay while blocks are laid. -/
def PerV (w : World) (p : Pk) (v : Value) : Prop := ∃ Am cm Ag cg Ax cx, v = pkV p Am cm Ag cg Ax cx ∧ PerU w Am p.m.deps ∧ PerU w Ag p.got ∧ PerX w Ax p.x
theorem PerV.on {w w' : World} {p : Pk} {v : Value} (h : PerV w p v) (hb : Below w.heap.size w w') : PerV w' p v := by
  obtain ⟨Am, cm, Ag, cg, Ax, cx, rfl, h1, h2, h3⟩ := h
  exact ⟨Am, cm, Ag, cg, Ax, cx, rfl, h1.on hb, h2.on hb, h3.on hb⟩
theorem PerV.zero (w : World) : PerV w .zero (.agg zpk) := ⟨none, 0, none, 0, none, 0, rfl, PerU.nil _ _, PerU.nil _ _, PerX.nil _ _⟩
theorem PerV.agg {w : World} {p : Pk} {v : Value} (h : PerV w p v) : ∃ V : Array Value, v = .agg V ∧ V.size = 22 ∧ V.all (·.oneCell') = true ∧ V[0]? = some (.int .i64 p.kind) ∧ V[1]? = some (.int .i64 p.src) ∧ V[2]? = some (.int .i64 p.dst) := by
  obtain ⟨Am, cm, Ag, cg, Ax, cx, rfl, _⟩ := h
  exact ⟨_, rfl, rfl, by kernel_rfl, rfl, rfl, rfl⟩
theorem same_v {w : World} {p : Pk} {v u : Value} (h : PerV w p v) (k : PerV w p u) (hs : p.okay) : Calls Try.prog 46 #[v, u] w fun e w' => e = .returned (.bool true) ∧ Below w.heap.size w w' := by
  obtain ⟨Am, cm, Ag, cg, Ax, cx, rfl, h1, h2, h3⟩ := h
  obtain ⟨Bm, dm, Bg, dg, Bx, dx, rfl, k1, k2, k3⟩ := k
  exact pk_same p Am cm Ag cg Ax cx Bm dm Bg dg Bx dx w h1 k1 h2 k2 h3 k3 hs.m hs.got hs.x hs.c
theorem print_v {w : World} {p : Pk} {v : Value} (h : PerV w p v) (hf : p.fits) : Calls Try.prog 49 #[v] w fun e w' => e = .returned (.tuple #[.string (printP p).1, .int .i64 (printP p).2]) ∧ Below w.heap.size w w' := by
  obtain ⟨Am, cm, Ag, cg, Ax, cx, rfl, h1, h2, h3⟩ := h
  exact pprint_whole p Am cm Ag cg Ax cx w hf h1 h2 h3
theorem clean_v {w : World} {p : Pk} {v : Value} (h : PerV w p v) (hs : p.okay) : Calls Try.prog 48 #[v] w fun e w' => (∃ u, e = .returned u ∧ OwnV w' w.heap.size (cleanF p) u) ∧ Below w.heap.size w w' := by
  obtain ⟨Am, cm, Ag, cg, Ax, cx, rfl, h1, h2, h3⟩ := h
  exact clean_any p Am cm Ag cg Ax cx w h1 h2 h3 hs.m hs.got hs.x hs.c
theorem parse_v (s : ByteArray) (w : World) (hs : s.size ≤ 1000004) :
    Calls Try.prog 44 #[.string s] w fun e w' => (∃ v, e = .returned (.tuple #[v, .int .i64 (parseP s).2]) ∧ PerV w' (parseP s).1 v) ∧ (parseP s).1.fits ∧ Below w.heap.size w w' := by
  refine (rparse_whole s w hs).mono ?_
  rintro e w' ⟨⟨v, rfl, hv⟩, h⟩
  exact ⟨⟨v, rfl, hv.per⟩, h⟩

set_option maxHeartbeats 3200000 in
set_option maxRecDepth 8000 in
theorem pone_walk (s : ByteArray) (kind src : Int) (ws : s.size ≤ maxLen) (w : World) :
    Calls Try.prog 19 #[.string s, .int .i64 kind, .int .i64 src] w fun e w' => e = .returned (.bool true) ∧ Below w.heap.size w w' := by
  by_cases hbig : 40000 < s.size
  · have hd : decide (40000 < (s.size : Int)) = true := by simp; omega
    go_enter Try.func19, Try.ntmps19
    go_wp2_with fail
    refine (awake06 w).mono ?_
    rintro e w1 ⟨rfl, hb1⟩
    go_wp2_with fail
    go_ret
    exact ⟨rfl, hb1⟩
  have hd : decide (40000 < (s.size : Int)) = false := by simp; omega
  have HR := Lib.hid (fun W => rprint_any kind src 1 s W (by omega))
  by_cases he : printE kind src 1 s = 0
  case neg =>
    have hde : decide (printE kind src 1 s = 0) = false := by simpa using he
    generalize printE kind src 1 s = E at *
    generalize printS kind src 1 s = F at *
    go_enter Try.func19, Try.ntmps19
    go_wp2_with fail
    refine (awake06 w).mono ?_
    rintro e w1 ⟨rfl, hb1⟩
    go_wp2_with fail
    refine (HR.out _).mono ?_
    rintro e w2 ⟨rfl, hb2⟩
    go_wp2_with fail
    go_ret
    exact ⟨rfl, below_step hb1 hb2⟩
  have hps := printS_yes he
  have hpf := parse_print he
  have hsz : (frameB kind src 1 s).size = 11 + s.size := frameB_size kind src 1 s
  rw [he, hps] at HR
  generalize frameB kind src 1 s = F at *
  obtain ⟨hsm, hok, hno⟩ := one_law F
  rw [hpf] at hok
  dsimp only at hok
  have HP := Lib.hid (fun W => parse_v F W (by omega))
  have hsm' := hsm.okay (by omega)
  clear hsm hpf hps he hsz
  generalize (parseP F).1 = p at *
  generalize (parseP F).2 = c at *
  have HOK := Lib.hid hok
  have HNO := Lib.hid hno
  have HSM := Lib.hid hsm'
  clear hok hno hsm'
  go_enter Try.func19, Try.ntmps19
  go_wp2_with fail
  refine (awake06 w).mono ?_
  rintro e w1 ⟨rfl, hb1⟩
  go_wp2_with fail
  refine (HR.out _).mono ?_
  rintro e w2 ⟨rfl, hb2⟩
  have hbl2 := below_step hb1 hb2
  clear HR hb1 hb2
  go_wp2_with fail
  refine (HP.out _).mono ?_
  rintro e w3 ⟨⟨v, rfl, hv⟩, hf, hb3⟩
  have hbl3 := below_step hbl2 hb3
  clear HP hbl2 hb3
  obtain ⟨V, rfl, hvs, hone, v0, v1, v2⟩ := hv.agg
  have i1 : (Try.prog.info? 73).map (·.size) = some V.size := by rw [hvs]; exact info73
  have D0 := heap_alloc_new w3 (.cells #[.int .i64 0, .int .i64 0, .int .i64 0, .int .u64 0, .int .i64 0, .int .i64 0, .int .u32 0, .int .u64 0, .int .i64 0, .slice none 0 0, .string ⟨#[]⟩, .int .u64 0, .int .u32 0, .slice none 0 0, .int .u64 0, .int .i64 0, .int .u32 0, .int .u64 0, .int .u64 0, .int .i64 0, .int .u64 0, .slice none 0 0] 73)
  have hbA := below_setRow (below_alloc (Below.refl w3.heap.size w3) (.cells #[.int .i64 0, .int .i64 0, .int .i64 0, .int .u64 0, .int .i64 0, .int .i64 0, .int .u32 0, .int .u64 0, .int .i64 0, .slice none 0 0, .string ⟨#[]⟩, .int .u64 0, .int .u32 0, .slice none 0 0, .int .u64 0, .int .i64 0, .int .u32 0, .int .u64 0, .int .u64 0, .int .i64 0, .int .u64 0, .slice none 0 0] 73)) (Nat.le_refl _) V
  have HK := Lib.hid (setRow_heap (w3.alloc (.cells #[.int .i64 0, .int .i64 0, .int .i64 0, .int .u64 0, .int .i64 0, .int .i64 0, .int .u32 0, .int .u64 0, .int .i64 0, .slice none 0 0, .string ⟨#[]⟩, .int .u64 0, .int .u32 0, .slice none 0 0, .int .u64 0, .int .i64 0, .int .u32 0, .int .u64 0, .int .u64 0, .int .i64 0, .int .u64 0, .slice none 0 0] 73)) w3.heap.size #[.int .i64 0, .int .i64 0, .int .i64 0, .int .u64 0, .int .i64 0, .int .i64 0, .int .u32 0, .int .u64 0, .int .i64 0, .slice none 0 0, .string ⟨#[]⟩, .int .u64 0, .int .u32 0, .slice none 0 0, .int .u64 0, .int .i64 0, .int .u32 0, .int .u64 0, .int .u64 0, .int .i64 0, .int .u64 0, .slice none 0 0] V 73 (0, 0) D0)
  have hlt : w3.heap.size < ((w3.alloc (.cells #[.int .i64 0, .int .i64 0, .int .i64 0, .int .u64 0, .int .i64 0, .int .i64 0, .int .u32 0, .int .u64 0, .int .i64 0, .slice none 0 0, .string ⟨#[]⟩, .int .u64 0, .int .u32 0, .slice none 0 0, .int .u64 0, .int .i64 0, .int .u32 0, .int .u64 0, .int .u64 0, .int .i64 0, .int .u64 0, .slice none 0 0] 73)).setRow w3.heap.size V).heap.size := by simp
  have HV := Lib.hid (hv.on hbA)
  have hbl4 := below_step hbl3 hbA
  have HF := Lib.hid hf
  clear hv hbA hbl3 hf
  by_cases hc : c = 0
  case neg =>
    have hdc : decide (c = 0) = false := by simpa using hc
    have hp0 := HNO.out hc
    subst hp0
    go_wp2_with (first | (refine wpList_store_row rfl 73 (.tmp 9) (.tmp 30) rfl w3.heap.size V (by simp [Act.eval, Act.put]) (by simp [Act.eval, Act.put]) 73 #[.int .i64 0, .int .i64 0, .int .i64 0, .int .u64 0, .int .i64 0, .int .i64 0, .int .u32 0, .int .u64 0, .int .i64 0, .slice none 0 0, .string ⟨#[]⟩, .int .u64 0, .int .u32 0, .slice none 0 0, .int .u64 0, .int .i64 0, .int .u32 0, .int .u64 0, .int .u64 0, .int .i64 0, .int .u64 0, .slice none 0 0] D0 (by rw [hvs]; exact info73) (by rw [hvs]; rfl) hone ?_; clear D0; generalize (w3.alloc (.cells #[.int .i64 0, .int .i64 0, .int .i64 0, .int .u64 0, .int .i64 0, .int .i64 0, .int .u32 0, .int .u64 0, .int .i64 0, .slice none 0 0, .string ⟨#[]⟩, .int .u64 0, .int .u32 0, .slice none 0 0, .int .u64 0, .int .i64 0, .int .u32 0, .int .u64 0, .int .u64 0, .int .i64 0, .int .u64 0, .slice none 0 0] 73)).setRow w3.heap.size V = w4 at *) | (have hw4 := w4.heap; clear hw4; refine wpList_load_row rfl 73 (.tmp 9) rfl w3.heap.size (by simp [Act.eval, Act.put]) 73 V (0, 0) _ HK.out Try.underlying73 rfl i1 ?_))
    refine (same_v HV.out (PerV.zero _) HSM.out).mono ?_
    rintro e w5 ⟨rfl, hb5⟩
    go_wp2_with fail
    go_ret
    exact ⟨rfl, below_step hbl4 hb5⟩
  subst hc
  obtain ⟨hpr, hcl, hk0, hk1, hk2⟩ := HOK.out rfl
  have HCL := Lib.hid hcl
  have HPR := Lib.hid (fun W (h : PerV W p (.agg V)) => print_v h HF.out)
  rw [hpr] at HPR
  clear HOK HNO hpr hcl HF
  rw [hk0] at v0
  rw [hk1] at v1
  rw [hk2] at v2
  have HC0 := Lib.hid v0
  have HC1 := Lib.hid v1
  have HC2 := Lib.hid v2
  clear v0 v1 v2 hk0 hk1 hk2
  go_wp2_with (first | (refine wpList_store_row rfl 73 (.tmp 9) (.tmp 30) rfl w3.heap.size V (by simp [Act.eval, Act.put]) (by simp [Act.eval, Act.put]) 73 #[.int .i64 0, .int .i64 0, .int .i64 0, .int .u64 0, .int .i64 0, .int .i64 0, .int .u32 0, .int .u64 0, .int .i64 0, .slice none 0 0, .string ⟨#[]⟩, .int .u64 0, .int .u32 0, .slice none 0 0, .int .u64 0, .int .i64 0, .int .u32 0, .int .u64 0, .int .u64 0, .int .i64 0, .int .u64 0, .slice none 0 0] D0 (by rw [hvs]; exact info73) (by rw [hvs]; rfl) hone ?_; clear D0; generalize (w3.alloc (.cells #[.int .i64 0, .int .i64 0, .int .i64 0, .int .u64 0, .int .i64 0, .int .i64 0, .int .u32 0, .int .u64 0, .int .i64 0, .slice none 0 0, .string ⟨#[]⟩, .int .u64 0, .int .u32 0, .slice none 0 0, .int .u64 0, .int .i64 0, .int .u32 0, .int .u64 0, .int .u64 0, .int .i64 0, .int .u64 0, .slice none 0 0] 73)).setRow w3.heap.size V = w4 at *) | (have hw4 := w4.heap; clear hw4; refine wpList_load_row rfl 73 (.tmp 9) rfl w3.heap.size (by simp [Act.eval, Act.put]) 73 V (0, 0) _ HK.out Try.underlying73 rfl i1 ?_))
  generalize w3.heap.size = K at *
  refine (HPR.out _ HV.out).mono ?_
  rintro e w5 ⟨rfl, hb5⟩
  replace HK := Lib.hid ((hb5.block K hlt).trans HK.out)
  replace HV := Lib.hid (HV.out.on hb5)
  have hbl5 := below_step hbl4 hb5
  replace hlt := Nat.lt_of_lt_of_le hlt hb5.size
  clear HPR hbl4 hb5
  go_wp2_with fail
  refine wp_region_held_drew (S := fun w' => Below w5.heap.size w5 w') (by kernel_rfl) ?_ (fun hHeld => ?_)
  · exact (Below.refl _ _).drew
  refine wpAnyH_take (i := 0) (v := .string F) rfl (by kernel_rfl) (by kernel_rfl) (by kernel_rfl) (fun _ _ _ h => h) (Or.inl ⟨by kernel_rfl, ?_⟩) (by assumption) ?_
  · intro w hSw; (try dsimp only at hSw); go_simp
  simp only [Act.put, List.setIfInBounds_toArray, List.set_cons_zero, List.set_cons_succ]
  refine wpAnyH_take (i := 1) (v := .string F) rfl (by kernel_rfl) (by kernel_rfl) (by kernel_rfl) (fun _ _ _ h => h) (Or.inl ⟨by kernel_rfl, ?_⟩) (by assumption) ?_
  · intro w hSw; (try dsimp only at hSw); go_simp
  simp only [Act.put, List.setIfInBounds_toArray, List.set_cons_zero, List.set_cons_succ]
  refine wpAnyH_take (i := 2) (v := .bool true) rfl (by kernel_rfl) (by kernel_rfl) (by kernel_rfl) (fun _ _ _ h => h) (Or.inl ⟨by kernel_rfl, ?_⟩) (by assumption) ?_
  · intro w hSw; (try dsimp only at hSw); go_simp
  simp only [Act.put, List.setIfInBounds_toArray, List.set_cons_zero, List.set_cons_succ]
  refine wpAnyH_take (i := 3) (v := .bool true) rfl (by kernel_rfl) (by kernel_rfl) (by kernel_rfl) (fun _ _ _ h => h) (Or.inl ⟨by kernel_rfl, ?_⟩) (by assumption) ?_
  · intro w hSw; (try dsimp only at hSw); go_simp
  simp only [Act.put, List.setIfInBounds_toArray, List.set_cons_zero, List.set_cons_succ]
  refine wpAnyH_take (i := 4) (v := .int .i64 0) rfl (by kernel_rfl) (by kernel_rfl) (by kernel_rfl) (fun _ _ _ h => h) (Or.inl ⟨by kernel_rfl, ?_⟩) (by assumption) ?_
  · intro w hSw; (try dsimp only at hSw); go_simp
  simp only [Act.put, List.setIfInBounds_toArray, List.set_cons_zero, List.set_cons_succ]
  refine wpAnyH_take (i := 5) (v := .bool true) rfl (by kernel_rfl) (by kernel_rfl) (by kernel_rfl) (fun _ _ _ h => h) (Or.inl ⟨by kernel_rfl, ?_⟩) (by assumption) ?_
  · intro w hSw; (try dsimp only at hSw); go_simp
  simp only [Act.put, List.setIfInBounds_toArray, List.set_cons_zero, List.set_cons_succ]
  refine wpAnyH_take (i := 6) (v := .bool true) rfl (by kernel_rfl) (by kernel_rfl) (by kernel_rfl) (fun _ _ _ h => h) (Or.inl ⟨by kernel_rfl, ?_⟩) (by assumption) ?_
  · intro w hSw; (try dsimp only at hSw); go_simp
  simp only [Act.put, List.setIfInBounds_toArray, List.set_cons_zero, List.set_cons_succ]
  refine wpAnyH_take (i := 7) (v := .bool true) rfl (by kernel_rfl) (by kernel_rfl) (by kernel_rfl) (fun _ _ _ h => h) (Or.inl ⟨by kernel_rfl, ?_⟩) (by assumption) ?_
  · intro w hSw; (try dsimp only at hSw); go_simp
  simp only [Act.put, List.setIfInBounds_toArray, List.set_cons_zero, List.set_cons_succ]
  refine wpAnyH_take (i := 8) (v := .agg V) rfl (by kernel_rfl) (by kernel_rfl) (by kernel_rfl) (fun _ _ _ h => h) (yields_load_row 73 (.tmp 9) (by kernel_rfl) (by kernel_rfl) K (by kernel_rfl) 73 V (0, 0) _ (fun w hS => (hS.block K (by omega)).trans HK.out) Try.underlying73 rfl i1) (by assumption) ?_
  simp only [Act.put, List.setIfInBounds_toArray, List.set_cons_zero, List.set_cons_succ]
  refine wpAnyH_take (i := 10) (v := .agg V) rfl (by kernel_rfl) (by kernel_rfl) (by kernel_rfl) (fun _ _ _ h => h) (yields_load_row 73 (.tmp 9) (by kernel_rfl) (by kernel_rfl) K (by kernel_rfl) 73 V (0, 0) _ (fun w hS => (hS.block K (by omega)).trans HK.out) Try.underlying73 rfl i1) (by assumption) ?_
  simp only [Act.put, List.setIfInBounds_toArray, List.set_cons_zero, List.set_cons_succ]
  refine wpAnyH_ready (rs := [9]) (by kernel_rfl) (by simp) ?_
  refine AllReadyH.cons rfl (fun Kq hK => ?_) AllReadyH.nil
  go_simp
  refine (clean_v (HV.out.on hHeld) HSM.out).mono ?_
  rintro e w6 ⟨⟨u, rfl, hu⟩, hb6⟩
  rw [HCL.out] at hu
  have HU := Lib.hid hu.per
  have hB6 := below_step hHeld hb6
  clear hu hb6 hHeld
  refine hK.out _ _ hB6 (fun hHeld => ?_)
  clear hK Kq
  refine wpAnyH_ready (rs := [11]) (by kernel_rfl) (by simp) ?_
  refine AllReadyH.cons rfl (fun Kq hK => ?_) AllReadyH.nil
  go_simp
  refine (same_v HU.out (HV.out.on hHeld) HSM.out).mono ?_
  rintro e w7 ⟨rfl, hb7⟩
  have hB7 := below_step hHeld hb7
  clear hB6 hb7 hHeld HU
  refine hK.out _ _ hB7 (fun hHeld => ?_)
  clear hK Kq
  refine wpAnyH_take (i := 12) (v := .bool true) rfl (by kernel_rfl) (by kernel_rfl) (by kernel_rfl) (fun _ _ _ h => h) (Or.inl ⟨by kernel_rfl, ?_⟩) (by assumption) ?_
  · intro w hSw; (try dsimp only at hSw); go_simp
  simp only [Act.put, List.setIfInBounds_toArray, List.set_cons_zero, List.set_cons_succ]
  refine wpAnyH_take (i := 13) (v := .bool true) rfl (by kernel_rfl) (by kernel_rfl) (by kernel_rfl) (fun _ _ _ h => h) (Or.inl ⟨by kernel_rfl, ?_⟩) (by assumption) ?_
  · intro w hSw; (try dsimp only at hSw); go_simp
  simp only [Act.put, List.setIfInBounds_toArray, List.set_cons_zero, List.set_cons_succ]
  refine wpAnyH_take (i := 14) (v := .pointer (some ⟨K, 0, none⟩)) rfl (by kernel_rfl) (by kernel_rfl) (by kernel_rfl) (fun _ _ _ h => h) (Or.inl ⟨by kernel_rfl, ?_⟩) (by assumption) ?_
  · intro w hSw; (try dsimp only at hSw); go_simp
  simp only [Act.put, List.setIfInBounds_toArray, List.set_cons_zero, List.set_cons_succ]
  refine wpAnyH_take (i := 15) (v := .int .i64 kind) rfl (by kernel_rfl) (by kernel_rfl) (by kernel_rfl) (fun _ _ _ h => h) (Or.inl ⟨by kernel_rfl, ?_⟩) (by assumption) ?_
  · intro w hSw; have hc : w.cell? ⟨K, 0, none⟩ = some (.int .i64 kind) := (cell_of_row _ _ 0 _ _ _ ((hSw.block K (by omega)).trans HK.out)).trans HC0.out; go_simp
  simp only [Act.put, List.setIfInBounds_toArray, List.set_cons_zero, List.set_cons_succ]
  refine wpAnyH_take (i := 16) (v := .int .i64 kind) rfl (by kernel_rfl) (by kernel_rfl) (by kernel_rfl) (fun _ _ _ h => h) (Or.inl ⟨by kernel_rfl, ?_⟩) (by assumption) ?_
  · intro w hSw; (try dsimp only at hSw); go_simp
  simp only [Act.put, List.setIfInBounds_toArray, List.set_cons_zero, List.set_cons_succ]
  refine wpAnyH_take (i := 17) (v := .bool true) rfl (by kernel_rfl) (by kernel_rfl) (by kernel_rfl) (fun _ _ _ h => h) (Or.inl ⟨by kernel_rfl, ?_⟩) (by assumption) ?_
  · intro w hSw; (try dsimp only at hSw); go_simp
  simp only [Act.put, List.setIfInBounds_toArray, List.set_cons_zero, List.set_cons_succ]
  refine wpAnyH_take (i := 18) (v := .bool true) rfl (by kernel_rfl) (by kernel_rfl) (by kernel_rfl) (fun _ _ _ h => h) (Or.inl ⟨by kernel_rfl, ?_⟩) (by assumption) ?_
  · intro w hSw; (try dsimp only at hSw); go_simp
  simp only [Act.put, List.setIfInBounds_toArray, List.set_cons_zero, List.set_cons_succ]
  refine wpAnyH_take (i := 19) (v := .bool true) rfl (by kernel_rfl) (by kernel_rfl) (by kernel_rfl) (fun _ _ _ h => h) (Or.inl ⟨by kernel_rfl, ?_⟩) (by assumption) ?_
  · intro w hSw; (try dsimp only at hSw); go_simp
  simp only [Act.put, List.setIfInBounds_toArray, List.set_cons_zero, List.set_cons_succ]
  refine wpAnyH_take (i := 20) (v := .pointer (some ⟨K, 1, none⟩)) rfl (by kernel_rfl) (by kernel_rfl) (by kernel_rfl) (fun _ _ _ h => h) (Or.inl ⟨by kernel_rfl, ?_⟩) (by assumption) ?_
  · intro w hSw; (try dsimp only at hSw); go_simp
  simp only [Act.put, List.setIfInBounds_toArray, List.set_cons_zero, List.set_cons_succ]
  refine wpAnyH_take (i := 21) (v := .int .i64 src) rfl (by kernel_rfl) (by kernel_rfl) (by kernel_rfl) (fun _ _ _ h => h) (Or.inl ⟨by kernel_rfl, ?_⟩) (by assumption) ?_
  · intro w hSw; have hc : w.cell? ⟨K, 1, none⟩ = some (.int .i64 src) := (cell_of_row _ _ 1 _ _ _ ((hSw.block K (by omega)).trans HK.out)).trans HC1.out; go_simp
  simp only [Act.put, List.setIfInBounds_toArray, List.set_cons_zero, List.set_cons_succ]
  refine wpAnyH_take (i := 22) (v := .int .i64 src) rfl (by kernel_rfl) (by kernel_rfl) (by kernel_rfl) (fun _ _ _ h => h) (Or.inl ⟨by kernel_rfl, ?_⟩) (by assumption) ?_
  · intro w hSw; (try dsimp only at hSw); go_simp
  simp only [Act.put, List.setIfInBounds_toArray, List.set_cons_zero, List.set_cons_succ]
  refine wpAnyH_take (i := 23) (v := .bool true) rfl (by kernel_rfl) (by kernel_rfl) (by kernel_rfl) (fun _ _ _ h => h) (Or.inl ⟨by kernel_rfl, ?_⟩) (by assumption) ?_
  · intro w hSw; (try dsimp only at hSw); go_simp
  simp only [Act.put, List.setIfInBounds_toArray, List.set_cons_zero, List.set_cons_succ]
  refine wpAnyH_take (i := 24) (v := .bool true) rfl (by kernel_rfl) (by kernel_rfl) (by kernel_rfl) (fun _ _ _ h => h) (Or.inl ⟨by kernel_rfl, ?_⟩) (by assumption) ?_
  · intro w hSw; (try dsimp only at hSw); go_simp
  simp only [Act.put, List.setIfInBounds_toArray, List.set_cons_zero, List.set_cons_succ]
  refine wpAnyH_take (i := 25) (v := .bool true) rfl (by kernel_rfl) (by kernel_rfl) (by kernel_rfl) (fun _ _ _ h => h) (Or.inl ⟨by kernel_rfl, ?_⟩) (by assumption) ?_
  · intro w hSw; (try dsimp only at hSw); go_simp
  simp only [Act.put, List.setIfInBounds_toArray, List.set_cons_zero, List.set_cons_succ]
  refine wpAnyH_take (i := 26) (v := .pointer (some ⟨K, 2, none⟩)) rfl (by kernel_rfl) (by kernel_rfl) (by kernel_rfl) (fun _ _ _ h => h) (Or.inl ⟨by kernel_rfl, ?_⟩) (by assumption) ?_
  · intro w hSw; (try dsimp only at hSw); go_simp
  simp only [Act.put, List.setIfInBounds_toArray, List.set_cons_zero, List.set_cons_succ]
  refine wpAnyH_take (i := 27) (v := .int .i64 1) rfl (by kernel_rfl) (by kernel_rfl) (by kernel_rfl) (fun _ _ _ h => h) (Or.inl ⟨by kernel_rfl, ?_⟩) (by assumption) ?_
  · intro w hSw; have hc : w.cell? ⟨K, 2, none⟩ = some (.int .i64 1) := (cell_of_row _ _ 2 _ _ _ ((hSw.block K (by omega)).trans HK.out)).trans HC2.out; go_simp
  simp only [Act.put, List.setIfInBounds_toArray, List.set_cons_zero, List.set_cons_succ]
  refine wpAnyH_take (i := 28) (v := .bool true) rfl (by kernel_rfl) (by kernel_rfl) (by kernel_rfl) (fun _ _ _ h => h) (Or.inl ⟨by kernel_rfl, ?_⟩) (by assumption) ?_
  · intro w hSw; (try dsimp only at hSw); go_simp
  simp only [Act.put, List.setIfInBounds_toArray, List.set_cons_zero, List.set_cons_succ]
  refine wpAnyH_take (i := 29) (v := .bool true) rfl (by kernel_rfl) (by kernel_rfl) (by kernel_rfl) (fun _ _ _ h => h) (Or.inl ⟨by kernel_rfl, ?_⟩) (by assumption) ?_
  · intro w hSw; (try dsimp only at hSw); go_simp
  simp only [Act.put, List.setIfInBounds_toArray, List.set_cons_zero, List.set_cons_succ]
  refine wpAnyH_ready (rs := [30]) (by kernel_rfl) (by simp) ?_
  refine AllReadyH.cons rfl (fun Kq hK => ?_) AllReadyH.nil
  go_simp
  refine hK.out _ _ hHeld (fun hHeld2 => ?_)
  clear hK Kq
  refine wpAnyH_done (by kernel_rfl) ?_ _
  go_wp2_with fail
  go_ret
  exact ⟨rfl, below_step hbl5 hHeld⟩
end Go.Proofs.Ythkfgjdbgnbjkaa
