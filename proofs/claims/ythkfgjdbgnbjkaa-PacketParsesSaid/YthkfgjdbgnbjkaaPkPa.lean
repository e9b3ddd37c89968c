/- The walk of PacketParses. (Printed by pkpar.py.) -/
import Derived.Test.YthkfgjdbgnbjkaaPkTw
import Derived.Test.YthkfgjdbgnbjkaaPkZ
import Derived.Test.YthkfgjdbgnbjkaaPkV
import Derived.Test.YthkfgjdbgnbjkaaPkT
import Derived.Test.YthkfgjdbgnbjkaaPkW
namespace Go.Proofs.Ythkfgjdbgnbjkaa
open Go.RowKit
set_option linter.unusedSimpArgs false
set_option linter.unusedVariables false

theorem OwnV.per {w : World} {B : Nat} {p : Pk} {v : Value} (h : OwnV w B p v) : ∃ Am cm Ag cg Ax cx, v = pkV p Am cm Ag cg Ax cx ∧ PerU w Am p.m.deps ∧ PerU w Ag p.got ∧ PerX w Ax p.x := by
  obtain ⟨Am, cm, Ag, cg, Ax, cx, rfl, h1, h2, h3⟩ := h
  exact ⟨Am, cm, Ag, cg, Ax, cx, rfl, per_own h1, per_own h2, per_xown h3⟩
/-- a packet's value, whose rows stay while blocks are laid. -/
def PerV (w : World) (p : Pk) (v : Value) : Prop := ∃ Am cm Ag cg Ax cx, v = pkV p Am cm Ag cg Ax cx ∧ PerU w Am p.m.deps ∧ PerU w Ag p.got ∧ PerX w Ax p.x
theorem PerV.on {w w' : World} {p : Pk} {v : Value} (h : PerV w p v) (hb : Below w.heap.size w w') : PerV w' p v := by
  obtain ⟨Am, cm, Ag, cg, Ax, cx, rfl, h1, h2, h3⟩ := h
  exact ⟨Am, cm, Ag, cg, Ax, cx, rfl, h1.on hb, h2.on hb, h3.on hb⟩
theorem PerV.zero (w : World) : PerV w .zero (.agg zpk) := ⟨none, 0, none, 0, none, 0, rfl, PerU.nil _ _, PerU.nil _ _, PerX.nil _ _⟩
theorem PerV.agg {w : World} {p : Pk} {v : Value} (h : PerV w p v) : ∃ V : Array Value, v = .agg V ∧ V.size = 22 ∧ V.all (·.oneCell') = true ∧ V[0]? = some (.int .i64 p.kind) ∧ V[1]? = some (.int .i64 p.src) ∧ V[2]? = some (.int .i64 p.dst) := by
  obtain ⟨Am, cm, Ag, cg, Ax, cx, rfl, _⟩ := h
  exact ⟨_, rfl, rfl, by kernel_rfl, rfl, rfl, rfl⟩
theorem same_v {w : World} {p : Pk} {v u : Value} (h : PerV w p v) (k : PerV w p u) (hs : p.okay) : Calls Try.prog 46 #[v, u] w fun e w' => e = .returned (.bool true) ∧ Below w.heap.size w w' := by
  obtain ⟨Am, cm, Ag, cg, Ax, cx, rfl, h1, h2, h3⟩ := h
  obtain ⟨Bm, dm, Bg, dg, Bx, dx, rfl, k1, k2, k3⟩ := k
  exact pk_same p Am cm Ag cg Ax cx Bm dm Bg dg Bx dx w h1 k1 h2 k2 h3 k3 hs.m hs.got hs.x hs.c
theorem parse_v (s : ByteArray) (w : World) (hs : s.size ≤ 1000004) :
    Calls Try.prog 44 #[.string s] w fun e w' => (∃ v, e = .returned (.tuple #[v, .int .i64 (parseP s).2]) ∧ PerV w' (parseP s).1 v) ∧ (parseP s).1.fits ∧ Below w.heap.size w w' := by
  refine (rparse_whole s w hs).mono ?_
  rintro e w' ⟨⟨v, rfl, hv⟩, h⟩
  exact ⟨⟨v, rfl, hv.per⟩, h⟩


theorem tparse_v (s : ByteArray) (w : World) (hs : s.size ≤ 100000) :
    Calls Try.prog 45 #[.string s] w fun e w' => (∃ v, e = .returned (.tuple #[v, .int .i64 (parseP s).2]) ∧ PerV w' (parseP s).1 v) ∧ Below w.heap.size w w' := by
  refine (tparse_whole s w hs).mono ?_
  rintro e w' ⟨⟨v, rfl, hv⟩, h⟩
  exact ⟨⟨v, rfl, hv.per⟩, h⟩
theorem okay_of (s : ByteArray) : (parseP s).1.okay := (one_law s).1.okay (by omega)

set_option maxHeartbeats 3200000 in
set_option maxRecDepth 8000 in
theorem ppar_walk (s : ByteArray) (kind src : Int) (ws : s.size ≤ maxLen) (w : World) :
    Calls Try.prog 17 #[.string s, .int .i64 kind, .int .i64 src] w fun e w' => e = .returned (.bool true) ∧ Below w.heap.size w w' := by
  by_cases hbig : 40000 < s.size
  · have hd : decide (40000 < (s.size : Int)) = true := by simp; omega
    go_enter Try.func17, Try.ntmps17
    go_wp2_with fail
    refine (awake06 w).mono ?_
    rintro e w1 ⟨rfl, hb1⟩
    go_wp2_with fail
    go_ret
    exact ⟨rfl, hb1⟩
  have hd : decide (40000 < (s.size : Int)) = false := by simp; omega
  have HR := Lib.hid (fun W => rprint_any kind src 0 s W (by omega))
  have hsz : printE kind src 0 s = 0 → (printS kind src 0 s).size ≤ 100000 := fun he => by
    rw [printS_yes he, frameB_size kind src 0 s]
    omega
  generalize printE kind src 0 s = E at *
  generalize printS kind src 0 s = F at *
  have HSZ := Lib.hid hsz
  clear hsz
  go_enter Try.func17, Try.ntmps17
  go_wp2_with fail
  refine (awake06 w).mono ?_
  rintro e w1 ⟨rfl, hb1⟩
  go_wp2_with fail
  refine (HR.out _).mono ?_
  rintro e w2 ⟨rfl, hb2⟩
  have hbl2 := below_step hb1 hb2
  have hsz2 := hbl2.size
  clear HR hb1 hb2
  have HQ := Lib.hid (heap_alloc_new w2 (.cells #[.string s, .string F] 34))
  have HB := Lib.hid (below_alloc hbl2 (.cells #[.string s, .string F] 34))
  have hKb : w.heap.size ≤ w2.heap.size := hsz2
  clear hbl2 hsz2
  go_wp2_with fail
  generalize w2.alloc (.cells #[.string s, .string F] 34) = w3 at *
  generalize w2.heap.size = Kb at *
  go_loopw [10] (fun i wr => ∃ k : Nat, k ≤ 2 ∧ i = .int .i64 k ∧ Hid (wr.heap[Kb]? = some (.cells #[.string s, .string F] 34 (0, 0))) ∧ Hid (Below w.heap.size w wr)) (fun i _ => 2 - (intOf i).toNat)
  case atStart => exact ⟨0, by omega, rfl, HQ, HB⟩
  case round =>
    clear HQ HB
    obtain ⟨k, hk, rfl, HQ, HB⟩ := hrel
    obtain rfl | rfl | rfl : k = 0 ∨ k = 1 ∨ k = 2 := by omega
    · have hx : s.size ≤ 100000 := by omega
      have HP := Lib.hid (fun W => parse_v s W (by omega))
      have HPR := Lib.hid (fun W => tparse_v s W hx)
      have hok := okay_of s
      have HOK := Lib.hid hok
      clear hok
      generalize (parseP s).1 = p at *
      generalize (parseP s).2 = c at *
      have b1 := cell_of_row _ _ 0 _ _ _ HQ.out
      simp at b1
      go_wp2_with fail
      clear b1
      refine (HP.out _).mono ?_
      rintro e w4 ⟨⟨v, rfl, hv⟩, hf, hb4⟩
      have HQ4 := Lib.hid ((hb4.block Kb (blk_lt HQ.out)).trans HQ.out)
      have HB4 := Lib.hid (below_step HB.out hb4)
      clear HP HQ HB hb4 hf
      obtain ⟨V, rfl, hvs, hone, v0, v1, v2⟩ := hv.agg
      have i1 : (Try.prog.info? 73).map (·.size) = some V.size := by rw [hvs]; exact info73
      have D0 := heap_alloc_new w4 (.cells #[.int .i64 0, .int .i64 0, .int .i64 0, .int .u64 0, .int .i64 0, .int .i64 0, .int .u32 0, .int .u64 0, .int .i64 0, .slice none 0 0, .string ⟨#[]⟩, .int .u64 0, .int .u32 0, .slice none 0 0, .int .u64 0, .int .i64 0, .int .u32 0, .int .u64 0, .int .u64 0, .int .i64 0, .int .u64 0, .slice none 0 0] 73)
      have hbA := below_setRow (below_alloc (Below.refl w4.heap.size w4) (.cells #[.int .i64 0, .int .i64 0, .int .i64 0, .int .u64 0, .int .i64 0, .int .i64 0, .int .u32 0, .int .u64 0, .int .i64 0, .slice none 0 0, .string ⟨#[]⟩, .int .u64 0, .int .u32 0, .slice none 0 0, .int .u64 0, .int .i64 0, .int .u32 0, .int .u64 0, .int .u64 0, .int .i64 0, .int .u64 0, .slice none 0 0] 73)) (Nat.le_refl _) V
      obtain ⟨w5, hw5⟩ : ∃ W, W = (w4.alloc (.cells #[.int .i64 0, .int .i64 0, .int .i64 0, .int .u64 0, .int .i64 0, .int .i64 0, .int .u32 0, .int .u64 0, .int .i64 0, .slice none 0 0, .string ⟨#[]⟩, .int .u64 0, .int .u32 0, .slice none 0 0, .int .u64 0, .int .i64 0, .int .u32 0, .int .u64 0, .int .u64 0, .int .i64 0, .int .u64 0, .slice none 0 0] 73)).setRow w4.heap.size V := ⟨_, rfl⟩
      have HK5 := Lib.hid (setRow_heap (w4.alloc (.cells #[.int .i64 0, .int .i64 0, .int .i64 0, .int .u64 0, .int .i64 0, .int .i64 0, .int .u32 0, .int .u64 0, .int .i64 0, .slice none 0 0, .string ⟨#[]⟩, .int .u64 0, .int .u32 0, .slice none 0 0, .int .u64 0, .int .i64 0, .int .u32 0, .int .u64 0, .int .u64 0, .int .i64 0, .int .u64 0, .slice none 0 0] 73)) w4.heap.size #[.int .i64 0, .int .i64 0, .int .i64 0, .int .u64 0, .int .i64 0, .int .i64 0, .int .u32 0, .int .u64 0, .int .i64 0, .slice none 0 0, .string ⟨#[]⟩, .int .u64 0, .int .u32 0, .slice none 0 0, .int .u64 0, .int .i64 0, .int .u32 0, .int .u64 0, .int .u64 0, .int .i64 0, .int .u64 0, .slice none 0 0] V 73 (0, 0) D0)
      rw [← hw5] at hbA HK5
      have HV5 := Lib.hid (hv.on hbA)
      have HQ5 := Lib.hid ((hbA.block Kb (blk_lt HQ4.out)).trans HQ4.out)
      have HB5 := Lib.hid (below_step HB4.out hbA)
      have HW5 := Lib.hid hw5
      clear hv hbA HQ4 HB4 hw5 v0 v1 v2
      have b1 := cell_of_row _ _ 0 _ _ _ HQ5.out
      simp at b1
      go_wp2_with (refine wpList_store_row rfl 73 (.tmp 11) (.tmp 45) rfl w4.heap.size V (by simp [Act.eval, Act.put]) (by simp [Act.eval, Act.put]) 73 #[.int .i64 0, .int .i64 0, .int .i64 0, .int .u64 0, .int .i64 0, .int .i64 0, .int .u32 0, .int .u64 0, .int .i64 0, .slice none 0 0, .string ⟨#[]⟩, .int .u64 0, .int .u32 0, .slice none 0 0, .int .u64 0, .int .i64 0, .int .u32 0, .int .u64 0, .int .u64 0, .int .i64 0, .int .u64 0, .slice none 0 0] D0 i1 (by rw [hvs]; rfl) hone ?_; rw [← HW5.out]; clear D0 HW5)
      clear b1
      generalize w4.heap.size = K1 at *
      refine (HPR.out _).mono ?_
      rintro e w6 ⟨⟨u, rfl, hu⟩, hb6⟩
      have HQ6 := Lib.hid ((hb6.block Kb (blk_lt HQ5.out)).trans HQ5.out)
      have HK6 := Lib.hid ((hb6.block K1 (blk_lt HK5.out)).trans HK5.out)
      have HV6 := Lib.hid (HV5.out.on hb6)
      have HB6 := Lib.hid (below_step HB5.out hb6)
      clear HPR HQ5 HB5 HK5 HV5 hb6
      obtain ⟨U, rfl, hus, huo, v0, v1, v2⟩ := hu.agg
      have i2 : (Try.prog.info? 73).map (·.size) = some U.size := by rw [hus]; exact info73
      have D0 := heap_alloc_new w6 (.cells #[.int .i64 0, .int .i64 0, .int .i64 0, .int .u64 0, .int .i64 0, .int .i64 0, .int .u32 0, .int .u64 0, .int .i64 0, .slice none 0 0, .string ⟨#[]⟩, .int .u64 0, .int .u32 0, .slice none 0 0, .int .u64 0, .int .i64 0, .int .u32 0, .int .u64 0, .int .u64 0, .int .i64 0, .int .u64 0, .slice none 0 0] 73)
      have hbA := below_setRow (below_alloc (Below.refl w6.heap.size w6) (.cells #[.int .i64 0, .int .i64 0, .int .i64 0, .int .u64 0, .int .i64 0, .int .i64 0, .int .u32 0, .int .u64 0, .int .i64 0, .slice none 0 0, .string ⟨#[]⟩, .int .u64 0, .int .u32 0, .slice none 0 0, .int .u64 0, .int .i64 0, .int .u32 0, .int .u64 0, .int .u64 0, .int .i64 0, .int .u64 0, .slice none 0 0] 73)) (Nat.le_refl _) U
      obtain ⟨w7, hw7⟩ : ∃ W, W = (w6.alloc (.cells #[.int .i64 0, .int .i64 0, .int .i64 0, .int .u64 0, .int .i64 0, .int .i64 0, .int .u32 0, .int .u64 0, .int .i64 0, .slice none 0 0, .string ⟨#[]⟩, .int .u64 0, .int .u32 0, .slice none 0 0, .int .u64 0, .int .i64 0, .int .u32 0, .int .u64 0, .int .u64 0, .int .i64 0, .int .u64 0, .slice none 0 0] 73)).setRow w6.heap.size U := ⟨_, rfl⟩
      have hL := setRow_heap (w6.alloc (.cells #[.int .i64 0, .int .i64 0, .int .i64 0, .int .u64 0, .int .i64 0, .int .i64 0, .int .u32 0, .int .u64 0, .int .i64 0, .slice none 0 0, .string ⟨#[]⟩, .int .u64 0, .int .u32 0, .slice none 0 0, .int .u64 0, .int .i64 0, .int .u32 0, .int .u64 0, .int .u64 0, .int .i64 0, .int .u64 0, .slice none 0 0] 73)) w6.heap.size #[.int .i64 0, .int .i64 0, .int .i64 0, .int .u64 0, .int .i64 0, .int .i64 0, .int .u32 0, .int .u64 0, .int .i64 0, .slice none 0 0, .string ⟨#[]⟩, .int .u64 0, .int .u32 0, .slice none 0 0, .int .u64 0, .int .i64 0, .int .u32 0, .int .u64 0, .int .u64 0, .int .i64 0, .int .u64 0, .slice none 0 0] U 73 (0, 0) D0
      rw [← hw7] at hbA hL
      have HV7 := Lib.hid (HV6.out.on hbA)
      have HU7 := Lib.hid (hu.on hbA)
      have HQ7 := Lib.hid ((hbA.block Kb (blk_lt HQ6.out)).trans HQ6.out)
      have hK := (hbA.block K1 (blk_lt HK6.out)).trans HK6.out
      have HB7 := Lib.hid (below_step HB6.out hbA)
      have HW7 := Lib.hid hw7
      clear hu hbA HQ6 HB6 HK6 HV6 hw7 v0 v1 v2
      have hcc : (c != c) = false := by simp
      have mk1 := True.intro
      go_wp2_with (first | (clear mk1; refine wpList_store_row rfl 73 (.tmp 13) (.tmp 52) rfl w6.heap.size U (by simp [Act.eval, Act.put]) (by simp [Act.eval, Act.put]) 73 #[.int .i64 0, .int .i64 0, .int .i64 0, .int .u64 0, .int .i64 0, .int .i64 0, .int .u32 0, .int .u64 0, .int .i64 0, .slice none 0 0, .string ⟨#[]⟩, .int .u64 0, .int .u32 0, .slice none 0 0, .int .u64 0, .int .i64 0, .int .u32 0, .int .u64 0, .int .u64 0, .int .i64 0, .int .u64 0, .slice none 0 0] D0 i2 (by rw [hus]; rfl) huo ?_; rw [← HW7.out]; clear D0 HW7; have mk2 := True.intro) | (clear mk2; refine wpList_load_row rfl 73 (.tmp 11) rfl K1 (by simp [Act.eval, Act.put]) 73 V (0, 0) _ hK Try.underlying73 rfl i1 ?_; have mk3 := True.intro) | (clear mk3; refine wpList_load_row rfl 73 (.tmp 13) rfl w6.heap.size (by simp [Act.eval, Act.put]) 73 U (0, 0) _ hL Try.underlying73 rfl i2 ?_))
      refine (same_v HV7.out HU7.out HOK.out).mono ?_
      rintro e w8 ⟨rfl, hb8⟩
      have HQ8 := Lib.hid ((hb8.block Kb (blk_lt HQ7.out)).trans HQ7.out)
      have HB8 := Lib.hid (below_step HB7.out hb8)
      clear HQ7 HB7 hb8 HV7 HU7 hK hL
      go_wp2_with fail
      go_roundw
      case rel => exact ⟨1, by omega, by go_num, HQ8, HB8⟩
      case measure => simp [intOf]
    · by_cases he : E = 0
      · have hx : F.size ≤ 100000 := HSZ.out he
        subst he
        have HP := Lib.hid (fun W => parse_v F W (by omega))
        have HPR := Lib.hid (fun W => tparse_v F W hx)
        have hok := okay_of F
        have HOK := Lib.hid hok
        clear hok
        generalize (parseP F).1 = p at *
        generalize (parseP F).2 = c at *
        have b1 := cell_of_row _ _ 1 _ _ _ HQ.out
        simp at b1
        go_wp2_with fail
        clear b1
        refine (HP.out _).mono ?_
        rintro e w4 ⟨⟨v, rfl, hv⟩, hf, hb4⟩
        have HQ4 := Lib.hid ((hb4.block Kb (blk_lt HQ.out)).trans HQ.out)
        have HB4 := Lib.hid (below_step HB.out hb4)
        clear HP HQ HB hb4 hf
        obtain ⟨V, rfl, hvs, hone, v0, v1, v2⟩ := hv.agg
        have i1 : (Try.prog.info? 73).map (·.size) = some V.size := by rw [hvs]; exact info73
        have D0 := heap_alloc_new w4 (.cells #[.int .i64 0, .int .i64 0, .int .i64 0, .int .u64 0, .int .i64 0, .int .i64 0, .int .u32 0, .int .u64 0, .int .i64 0, .slice none 0 0, .string ⟨#[]⟩, .int .u64 0, .int .u32 0, .slice none 0 0, .int .u64 0, .int .i64 0, .int .u32 0, .int .u64 0, .int .u64 0, .int .i64 0, .int .u64 0, .slice none 0 0] 73)
        have hbA := below_setRow (below_alloc (Below.refl w4.heap.size w4) (.cells #[.int .i64 0, .int .i64 0, .int .i64 0, .int .u64 0, .int .i64 0, .int .i64 0, .int .u32 0, .int .u64 0, .int .i64 0, .slice none 0 0, .string ⟨#[]⟩, .int .u64 0, .int .u32 0, .slice none 0 0, .int .u64 0, .int .i64 0, .int .u32 0, .int .u64 0, .int .u64 0, .int .i64 0, .int .u64 0, .slice none 0 0] 73)) (Nat.le_refl _) V
        obtain ⟨w5, hw5⟩ : ∃ W, W = (w4.alloc (.cells #[.int .i64 0, .int .i64 0, .int .i64 0, .int .u64 0, .int .i64 0, .int .i64 0, .int .u32 0, .int .u64 0, .int .i64 0, .slice none 0 0, .string ⟨#[]⟩, .int .u64 0, .int .u32 0, .slice none 0 0, .int .u64 0, .int .i64 0, .int .u32 0, .int .u64 0, .int .u64 0, .int .i64 0, .int .u64 0, .slice none 0 0] 73)).setRow w4.heap.size V := ⟨_, rfl⟩
        have HK5 := Lib.hid (setRow_heap (w4.alloc (.cells #[.int .i64 0, .int .i64 0, .int .i64 0, .int .u64 0, .int .i64 0, .int .i64 0, .int .u32 0, .int .u64 0, .int .i64 0, .slice none 0 0, .string ⟨#[]⟩, .int .u64 0, .int .u32 0, .slice none 0 0, .int .u64 0, .int .i64 0, .int .u32 0, .int .u64 0, .int .u64 0, .int .i64 0, .int .u64 0, .slice none 0 0] 73)) w4.heap.size #[.int .i64 0, .int .i64 0, .int .i64 0, .int .u64 0, .int .i64 0, .int .i64 0, .int .u32 0, .int .u64 0, .int .i64 0, .slice none 0 0, .string ⟨#[]⟩, .int .u64 0, .int .u32 0, .slice none 0 0, .int .u64 0, .int .i64 0, .int .u32 0, .int .u64 0, .int .u64 0, .int .i64 0, .int .u64 0, .slice none 0 0] V 73 (0, 0) D0)
        rw [← hw5] at hbA HK5
        have HV5 := Lib.hid (hv.on hbA)
        have HQ5 := Lib.hid ((hbA.block Kb (blk_lt HQ4.out)).trans HQ4.out)
        have HB5 := Lib.hid (below_step HB4.out hbA)
        have HW5 := Lib.hid hw5
        clear hv hbA HQ4 HB4 hw5 v0 v1 v2
        have b1 := cell_of_row _ _ 1 _ _ _ HQ5.out
        simp at b1
        go_wp2_with (refine wpList_store_row rfl 73 (.tmp 11) (.tmp 45) rfl w4.heap.size V (by simp [Act.eval, Act.put]) (by simp [Act.eval, Act.put]) 73 #[.int .i64 0, .int .i64 0, .int .i64 0, .int .u64 0, .int .i64 0, .int .i64 0, .int .u32 0, .int .u64 0, .int .i64 0, .slice none 0 0, .string ⟨#[]⟩, .int .u64 0, .int .u32 0, .slice none 0 0, .int .u64 0, .int .i64 0, .int .u32 0, .int .u64 0, .int .u64 0, .int .i64 0, .int .u64 0, .slice none 0 0] D0 i1 (by rw [hvs]; rfl) hone ?_; rw [← HW5.out]; clear D0 HW5)
        clear b1
        generalize w4.heap.size = K1 at *
        refine (HPR.out _).mono ?_
        rintro e w6 ⟨⟨u, rfl, hu⟩, hb6⟩
        have HQ6 := Lib.hid ((hb6.block Kb (blk_lt HQ5.out)).trans HQ5.out)
        have HK6 := Lib.hid ((hb6.block K1 (blk_lt HK5.out)).trans HK5.out)
        have HV6 := Lib.hid (HV5.out.on hb6)
        have HB6 := Lib.hid (below_step HB5.out hb6)
        clear HPR HQ5 HB5 HK5 HV5 hb6
        obtain ⟨U, rfl, hus, huo, v0, v1, v2⟩ := hu.agg
        have i2 : (Try.prog.info? 73).map (·.size) = some U.size := by rw [hus]; exact info73
        have D0 := heap_alloc_new w6 (.cells #[.int .i64 0, .int .i64 0, .int .i64 0, .int .u64 0, .int .i64 0, .int .i64 0, .int .u32 0, .int .u64 0, .int .i64 0, .slice none 0 0, .string ⟨#[]⟩, .int .u64 0, .int .u32 0, .slice none 0 0, .int .u64 0, .int .i64 0, .int .u32 0, .int .u64 0, .int .u64 0, .int .i64 0, .int .u64 0, .slice none 0 0] 73)
        have hbA := below_setRow (below_alloc (Below.refl w6.heap.size w6) (.cells #[.int .i64 0, .int .i64 0, .int .i64 0, .int .u64 0, .int .i64 0, .int .i64 0, .int .u32 0, .int .u64 0, .int .i64 0, .slice none 0 0, .string ⟨#[]⟩, .int .u64 0, .int .u32 0, .slice none 0 0, .int .u64 0, .int .i64 0, .int .u32 0, .int .u64 0, .int .u64 0, .int .i64 0, .int .u64 0, .slice none 0 0] 73)) (Nat.le_refl _) U
        obtain ⟨w7, hw7⟩ : ∃ W, W = (w6.alloc (.cells #[.int .i64 0, .int .i64 0, .int .i64 0, .int .u64 0, .int .i64 0, .int .i64 0, .int .u32 0, .int .u64 0, .int .i64 0, .slice none 0 0, .string ⟨#[]⟩, .int .u64 0, .int .u32 0, .slice none 0 0, .int .u64 0, .int .i64 0, .int .u32 0, .int .u64 0, .int .u64 0, .int .i64 0, .int .u64 0, .slice none 0 0] 73)).setRow w6.heap.size U := ⟨_, rfl⟩
        have hL := setRow_heap (w6.alloc (.cells #[.int .i64 0, .int .i64 0, .int .i64 0, .int .u64 0, .int .i64 0, .int .i64 0, .int .u32 0, .int .u64 0, .int .i64 0, .slice none 0 0, .string ⟨#[]⟩, .int .u64 0, .int .u32 0, .slice none 0 0, .int .u64 0, .int .i64 0, .int .u32 0, .int .u64 0, .int .u64 0, .int .i64 0, .int .u64 0, .slice none 0 0] 73)) w6.heap.size #[.int .i64 0, .int .i64 0, .int .i64 0, .int .u64 0, .int .i64 0, .int .i64 0, .int .u32 0, .int .u64 0, .int .i64 0, .slice none 0 0, .string ⟨#[]⟩, .int .u64 0, .int .u32 0, .slice none 0 0, .int .u64 0, .int .i64 0, .int .u32 0, .int .u64 0, .int .u64 0, .int .i64 0, .int .u64 0, .slice none 0 0] U 73 (0, 0) D0
        rw [← hw7] at hbA hL
        have HV7 := Lib.hid (HV6.out.on hbA)
        have HU7 := Lib.hid (hu.on hbA)
        have HQ7 := Lib.hid ((hbA.block Kb (blk_lt HQ6.out)).trans HQ6.out)
        have hK := (hbA.block K1 (blk_lt HK6.out)).trans HK6.out
        have HB7 := Lib.hid (below_step HB6.out hbA)
        have HW7 := Lib.hid hw7
        clear hu hbA HQ6 HB6 HK6 HV6 hw7 v0 v1 v2
        have hcc : (c != c) = false := by simp
        have mk1 := True.intro
        go_wp2_with (first | (clear mk1; refine wpList_store_row rfl 73 (.tmp 13) (.tmp 52) rfl w6.heap.size U (by simp [Act.eval, Act.put]) (by simp [Act.eval, Act.put]) 73 #[.int .i64 0, .int .i64 0, .int .i64 0, .int .u64 0, .int .i64 0, .int .i64 0, .int .u32 0, .int .u64 0, .int .i64 0, .slice none 0 0, .string ⟨#[]⟩, .int .u64 0, .int .u32 0, .slice none 0 0, .int .u64 0, .int .i64 0, .int .u32 0, .int .u64 0, .int .u64 0, .int .i64 0, .int .u64 0, .slice none 0 0] D0 i2 (by rw [hus]; rfl) huo ?_; rw [← HW7.out]; clear D0 HW7; have mk2 := True.intro) | (clear mk2; refine wpList_load_row rfl 73 (.tmp 11) rfl K1 (by simp [Act.eval, Act.put]) 73 V (0, 0) _ hK Try.underlying73 rfl i1 ?_; have mk3 := True.intro) | (clear mk3; refine wpList_load_row rfl 73 (.tmp 13) rfl w6.heap.size (by simp [Act.eval, Act.put]) 73 U (0, 0) _ hL Try.underlying73 rfl i2 ?_))
        refine (same_v HV7.out HU7.out HOK.out).mono ?_
        rintro e w8 ⟨rfl, hb8⟩
        have HQ8 := Lib.hid ((hb8.block Kb (blk_lt HQ7.out)).trans HQ7.out)
        have HB8 := Lib.hid (below_step HB7.out hb8)
        clear HQ7 HB7 hb8 HV7 HU7 hK hL
        go_wp2_with fail
        go_roundw
        case rel => exact ⟨2, by omega, by go_num, HQ8, HB8⟩
        case measure => simp [intOf]
      · have hde : decide (E = 0) = false := by simpa using he
        have hde2 : (E != 0) = true := by simpa using he
        go_wp2_with fail
        go_ret
        exact ⟨rfl, HB.out⟩
    · go_wp2_with fail
      go_ret
      exact ⟨rfl, HB.out⟩
end Go.Proofs.Ythkfgjdbgnbjkaa
