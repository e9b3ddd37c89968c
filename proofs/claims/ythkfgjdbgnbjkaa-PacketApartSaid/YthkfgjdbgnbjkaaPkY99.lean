/- The walk of packet's Clean, kind 99. (Printed by pkclean.py.) -/
import Derived.Test.YthkfgjdbgnbjkaaPkX
namespace Go.Proofs.Ythkfgjdbgnbjkaa
open Go.RowKit
set_option linter.unusedSimpArgs false
set_option linter.unusedVariables false

set_option maxHeartbeats 3200000 in
set_option maxRecDepth 8000 in
theorem clean99 (p : Pk) (Am : Option Addr) (cm : Nat) (Ag : Option Addr) (cg : Nat) (Ax : Option Addr) (cx : Nat) (w : World)
    (hm : PerU w Am p.m.deps) (hg : PerU w Ag p.got) (hx : PerX w Ax p.x) (h1 : p.m.deps.length ≤ 35184372088832) (h2 : p.got.length ≤ 35184372088832) (h3 : p.x.length ≤ 1000000) (h4 : ∀ e ∈ p.x, e.cnt.length ≤ 35184372088832) (hk : 11 < p.kind) :
    Calls Try.prog 48 #[pkV p Am cm Ag cg Ax cx] w fun e w' => (∃ v, e = .returned v ∧ OwnV w' w.heap.size (cleanF p) v) ∧ Below w.heap.size w w' := by
  obtain ⟨kind, src, dst, ⟨ce, cr⟩, ⟨mf, ms, mt, mv, md, my⟩, stamp, sent, got, horizon, whom, seq, members, ⟨pe, pr⟩, epoch, x⟩ := p
  unfold pkV
  dsimp only at *
  have hd1 : decide (kind = 1) = false := by simp; omega
  have hd2 : decide (kind = 2) = false := by simp; omega
  have hd3 : decide (kind = 3) = false := by simp; omega
  have hd4 : decide (kind = 4) = false := by simp; omega
  have hd5 : decide (kind = 5) = false := by simp; omega
  have hd6 : decide (kind = 6) = false := by simp; omega
  have hd7 : decide (kind = 7) = false := by simp; omega
  have hd8 : decide (kind = 8) = false := by simp; omega
  have hd9 : decide (kind = 9) = false := by simp; omega
  have hda : decide (1 ≤ kind) = true := by simp; omega
  have hdb : decide (kind ≤ 11) = false := by simp; omega
  have hq : cleanF (⟨kind, src, dst, ⟨ce, cr⟩, ⟨mf, ms, mt, mv, md, my⟩, stamp, sent, got, horizon, whom, seq, members, ⟨pe, pr⟩, epoch, x⟩ : Pk) = (⟨kind, src, dst, Cf.zero, Ms.zero, 0, 0, [], 0, 0, 0, 0, Cf.zero, 0, []⟩ : Pk) := by unfold cleanF; simp [show ¬ kind = 1 by omega, show ¬ kind = 2 by omega, show ¬ kind = 3 by omega, show ¬ kind = 4 by omega, show ¬ kind = 5 by omega, show ¬ kind = 6 by omega, show ¬ kind = 7 by omega, show ¬ kind = 8 by omega, show ¬ kind = 9 by omega, show ¬ (1 ≤ kind ∧ kind ≤ 11) by omega]
  rw [hq]
  clear hq
  have HO := Lib.hid (fun W (hb : Below w.heap.size w W) => own_any (⟨kind, src, dst, Cf.zero, Ms.zero, 0, 0, [], 0, 0, 0, 0, Cf.zero, 0, []⟩ : Pk) none 0 none 0 none 0 W (PerU.nilw _ _) (PerU.nilw _ _) (PerX.nilw _ _) (Nat.zero_le _) (Nat.zero_le _) (Nat.zero_le _) (fun e he => by cases he))
  unfold pkV at HO
  dsimp only [List.length_nil, Ms.zero, Cf.zero] at HO
  clear hm hg hx h1 h2 h3 h4
  obtain ⟨c, hc⟩ : ∃ c : Array Value, c = #[.int .i64 kind, .int .i64 src, .int .i64 dst, .int .u64 (ce : Int), .int .i64 cr, .int .i64 mf, .int .u32 (ms : Int), .int .u64 (mt : Int), .int .i64 mv, .slice Am md.length cm, .string my, .int .u64 (stamp : Int), .int .u32 (sent : Int), .slice Ag got.length cg, .int .u64 (horizon : Int), .int .i64 whom, .int .u32 (seq : Int), .int .u64 (members : Int), .int .u64 (pe : Int), .int .i64 pr, .int .u64 (epoch : Int), .slice Ax x.length cx] := ⟨_, rfl⟩
  rw [← hc]
  have A2 : Hid ((((w.alloc (.cells c 73)).alloc (.cells #[.int .i64 0, .int .i64 0, .int .i64 0, .int .u64 0, .int .i64 0, .int .i64 0, .int .u32 0, .int .u64 0, .int .i64 0, .slice none 0 0, .string ⟨#[]⟩, .int .u64 0, .int .u32 0, .slice none 0 0, .int .u64 0, .int .i64 0, .int .u32 0, .int .u64 0, .int .u64 0, .int .i64 0, .int .u64 0, .slice none 0 0] 73)).alloc (.cells #[.int .i64 0, .int .i64 0, .int .i64 0, .int .u64 0, .int .i64 0, .int .i64 0, .int .u32 0, .int .u64 0, .int .i64 0, .slice none 0 0, .string ⟨#[]⟩, .int .u64 0, .int .u32 0, .slice none 0 0, .int .u64 0, .int .i64 0, .int .u32 0, .int .u64 0, .int .u64 0, .int .i64 0, .int .u64 0, .slice none 0 0] 73)).heap[w.heap.size + 1 + 1]? = some (.cells #[.int .i64 0, .int .i64 0, .int .i64 0, .int .u64 0, .int .i64 0, .int .i64 0, .int .u32 0, .int .u64 0, .int .i64 0, .slice none 0 0, .string ⟨#[]⟩, .int .u64 0, .int .u32 0, .slice none 0 0, .int .u64 0, .int .i64 0, .int .u32 0, .int .u64 0, .int .u64 0, .int .i64 0, .int .u64 0, .slice none 0 0] 73 (0, 0))) := by
    show (((w.alloc (.cells c 73)).alloc (.cells #[.int .i64 0, .int .i64 0, .int .i64 0, .int .u64 0, .int .i64 0, .int .i64 0, .int .u32 0, .int .u64 0, .int .i64 0, .slice none 0 0, .string ⟨#[]⟩, .int .u64 0, .int .u32 0, .slice none 0 0, .int .u64 0, .int .i64 0, .int .u32 0, .int .u64 0, .int .u64 0, .int .i64 0, .int .u64 0, .slice none 0 0] 73)).alloc (.cells #[.int .i64 0, .int .i64 0, .int .i64 0, .int .u64 0, .int .i64 0, .int .i64 0, .int .u32 0, .int .u64 0, .int .i64 0, .slice none 0 0, .string ⟨#[]⟩, .int .u64 0, .int .u32 0, .slice none 0 0, .int .u64 0, .int .i64 0, .int .u32 0, .int .u64 0, .int .u64 0, .int .i64 0, .int .u64 0, .slice none 0 0] 73)).heap[w.heap.size + 1 + 1]? = _
    rw [show w.heap.size + 1 + 1 = ((w.alloc (.cells c 73)).alloc (.cells #[.int .i64 0, .int .i64 0, .int .i64 0, .int .u64 0, .int .i64 0, .int .i64 0, .int .u32 0, .int .u64 0, .int .i64 0, .slice none 0 0, .string ⟨#[]⟩, .int .u64 0, .int .u32 0, .slice none 0 0, .int .u64 0, .int .i64 0, .int .u32 0, .int .u64 0, .int .u64 0, .int .i64 0, .int .u64 0, .slice none 0 0] 73)).heap.size by simp]
    exact heap_alloc_new _ _
  obtain ⟨w2, hw2⟩ : ∃ w2, w2 = ((((w.alloc (.cells c 73)).alloc (.cells #[.int .i64 0, .int .i64 0, .int .i64 0, .int .u64 0, .int .i64 0, .int .i64 0, .int .u32 0, .int .u64 0, .int .i64 0, .slice none 0 0, .string ⟨#[]⟩, .int .u64 0, .int .u32 0, .slice none 0 0, .int .u64 0, .int .i64 0, .int .u32 0, .int .u64 0, .int .u64 0, .int .i64 0, .int .u64 0, .slice none 0 0] 73)).alloc (.cells #[.int .i64 0, .int .i64 0, .int .i64 0, .int .u64 0, .int .i64 0, .int .i64 0, .int .u32 0, .int .u64 0, .int .i64 0, .slice none 0 0, .string ⟨#[]⟩, .int .u64 0, .int .u32 0, .slice none 0 0, .int .u64 0, .int .i64 0, .int .u32 0, .int .u64 0, .int .u64 0, .int .i64 0, .int .u64 0, .slice none 0 0] 73)).setRow (w.heap.size + 1 + 1) #[.int .i64 kind, .int .i64 src, .int .i64 dst, .int .u64 0, .int .i64 0, .int .i64 0, .int .u32 0, .int .u64 0, .int .i64 0, .slice none 0 0, .string ⟨#[]⟩, .int .u64 0, .int .u32 0, .slice none 0 0, .int .u64 0, .int .i64 0, .int .u32 0, .int .u64 0, .int .u64 0, .int .i64 0, .int .u64 0, .slice none 0 0]) := ⟨_, rfl⟩
  have hbB : Hid (Below w.heap.size w w2) := Lib.hid (by rw [hw2]; exact below_setRow (below_alloc (below_alloc (below_alloc (Below.refl _ _) _) _) _) (by omega) _)
  have B0 : Hid (w2.heap[w.heap.size]? = some (.cells #[.int .i64 kind, .int .i64 src, .int .i64 dst, .int .u64 (ce : Int), .int .i64 cr, .int .i64 mf, .int .u32 (ms : Int), .int .u64 (mt : Int), .int .i64 mv, .slice Am md.length cm, .string my, .int .u64 (stamp : Int), .int .u32 (sent : Int), .slice Ag got.length cg, .int .u64 (horizon : Int), .int .i64 whom, .int .u32 (seq : Int), .int .u64 (members : Int), .int .u64 (pe : Int), .int .i64 pr, .int .u64 (epoch : Int), .slice Ax x.length cx] 73 (0, 0))) := Lib.hid (by rw [hw2, ← hc]; exact (setRow_other _ _ _ _ (by omega)).trans ((Below.heap_alloc _ _ _ (by simp; omega)).trans ((Below.heap_alloc _ _ _ (by simp)).trans (heap_alloc_new w _))))
  have B1 : Hid (w2.heap[w.heap.size + 1]? = some (.cells #[.int .i64 0, .int .i64 0, .int .i64 0, .int .u64 0, .int .i64 0, .int .i64 0, .int .u32 0, .int .u64 0, .int .i64 0, .slice none 0 0, .string ⟨#[]⟩, .int .u64 0, .int .u32 0, .slice none 0 0, .int .u64 0, .int .i64 0, .int .u32 0, .int .u64 0, .int .u64 0, .int .i64 0, .int .u64 0, .slice none 0 0] 73 (0, 0))) := Lib.hid (by rw [hw2]; exact (setRow_other _ _ _ _ (by omega)).trans ((Below.heap_alloc _ _ _ (by simp)).trans (by rw [show w.heap.size + 1 = (w.alloc (.cells c 73)).heap.size by simp]; exact heap_alloc_new _ _)))
  have B2 : Hid (w2.heap[w.heap.size + 1 + 1]? = some (.cells #[.int .i64 kind, .int .i64 src, .int .i64 dst, .int .u64 0, .int .i64 0, .int .i64 0, .int .u32 0, .int .u64 0, .int .i64 0, .slice none 0 0, .string ⟨#[]⟩, .int .u64 0, .int .u32 0, .slice none 0 0, .int .u64 0, .int .i64 0, .int .u32 0, .int .u64 0, .int .u64 0, .int .i64 0, .int .u64 0, .slice none 0 0] 73 (0, 0))) := Lib.hid (by rw [hw2]; exact setRow_heap _ _ #[.int .i64 0, .int .i64 0, .int .i64 0, .int .u64 0, .int .i64 0, .int .i64 0, .int .u32 0, .int .u64 0, .int .i64 0, .slice none 0 0, .string ⟨#[]⟩, .int .u64 0, .int .u32 0, .slice none 0 0, .int .u64 0, .int .i64 0, .int .u32 0, .int .u64 0, .int .u64 0, .int .i64 0, .int .u64 0, .slice none 0 0] _ 73 (0, 0) A2.out)
  have s0 : Hid (w.heap.size + 3 ≤ w2.heap.size) := Lib.hid (by rw [hw2]; simp)
  have i0 : ((w.alloc (.cells c 73)).alloc (.cells #[.int .i64 0, .int .i64 0, .int .i64 0, .int .u64 0, .int .i64 0, .int .i64 0, .int .u32 0, .int .u64 0, .int .i64 0, .slice none 0 0, .string ⟨#[]⟩, .int .u64 0, .int .u32 0, .slice none 0 0, .int .u64 0, .int .i64 0, .int .u32 0, .int .u64 0, .int .u64 0, .int .i64 0, .int .u64 0, .slice none 0 0] 73)).cell? ⟨w.heap.size, 0, none⟩ = some (.int .i64 kind) := (cell_of_row _ _ 0 _ _ _ ((Below.heap_alloc _ _ _ (by simp)).trans (heap_alloc_new w _))).trans (by rw [hc]; rfl)
  have i1 : ((w.alloc (.cells c 73)).alloc (.cells #[.int .i64 0, .int .i64 0, .int .i64 0, .int .u64 0, .int .i64 0, .int .i64 0, .int .u32 0, .int .u64 0, .int .i64 0, .slice none 0 0, .string ⟨#[]⟩, .int .u64 0, .int .u32 0, .slice none 0 0, .int .u64 0, .int .i64 0, .int .u32 0, .int .u64 0, .int .u64 0, .int .i64 0, .int .u64 0, .slice none 0 0] 73)).cell? ⟨w.heap.size, 1, none⟩ = some (.int .i64 src) := (cell_of_row _ _ 1 _ _ _ ((Below.heap_alloc _ _ _ (by simp)).trans (heap_alloc_new w _))).trans (by rw [hc]; rfl)
  have i2 : ((w.alloc (.cells c 73)).alloc (.cells #[.int .i64 0, .int .i64 0, .int .i64 0, .int .u64 0, .int .i64 0, .int .i64 0, .int .u32 0, .int .u64 0, .int .i64 0, .slice none 0 0, .string ⟨#[]⟩, .int .u64 0, .int .u32 0, .slice none 0 0, .int .u64 0, .int .i64 0, .int .u32 0, .int .u64 0, .int .u64 0, .int .i64 0, .int .u64 0, .slice none 0 0] 73)).cell? ⟨w.heap.size, 2, none⟩ = some (.int .i64 dst) := (cell_of_row _ _ 2 _ _ _ ((Below.heap_alloc _ _ _ (by simp)).trans (heap_alloc_new w _))).trans (by rw [hc]; rfl)
  have HW2 := Lib.hid hw2
  clear hw2 hc
  have a0 : w2.cell? ⟨w.heap.size, 0, none⟩ = some (.int .i64 kind) := cell_of_row _ _ 0 _ _ _ B0.out
  have H0x : Hid (w2.heap[w.heap.size]? = some (.cells #[.int .i64 kind, .int .i64 src, .int .i64 dst, .int .u64 (ce : Int), .int .i64 cr, .int .i64 mf, .int .u32 (ms : Int), .int .u64 (mt : Int), .int .i64 mv, .slice Am md.length cm, .string my, .int .u64 (stamp : Int), .int .u32 (sent : Int), .slice Ag got.length cg, .int .u64 (horizon : Int), .int .i64 whom, .int .u32 (seq : Int), .int .u64 (members : Int), .int .u64 (pe : Int), .int .i64 pr, .int .u64 (epoch : Int), .slice Ax x.length cx] 73 (0, 0))) := B0.out
  have H1x : Hid (w2.heap[w.heap.size + 1]? = some (.cells #[.int .i64 0, .int .i64 0, .int .i64 0, .int .u64 0, .int .i64 0, .int .i64 0, .int .u32 0, .int .u64 0, .int .i64 0, .slice none 0 0, .string ⟨#[]⟩, .int .u64 0, .int .u32 0, .slice none 0 0, .int .u64 0, .int .i64 0, .int .u32 0, .int .u64 0, .int .u64 0, .int .i64 0, .int .u64 0, .slice none 0 0] 73 (0, 0))) := B1.out
  have H2x : Hid (w2.heap[w.heap.size + 1 + 1]? = some (.cells #[.int .i64 kind, .int .i64 src, .int .i64 dst, .int .u64 0, .int .i64 0, .int .i64 0, .int .u32 0, .int .u64 0, .int .i64 0, .slice none 0 0, .string ⟨#[]⟩, .int .u64 0, .int .u32 0, .slice none 0 0, .int .u64 0, .int .i64 0, .int .u32 0, .int .u64 0, .int .u64 0, .int .i64 0, .int .u64 0, .slice none 0 0] 73 (0, 0))) := B2.out
  have HBx := Lib.hid hbB.out
  have sx : w.heap.size + 3 ≤ w2.heap.size := by simpa using s0.out
  have HL := H2x.out
  go_enter Try.func48, Try.ntmps48
  go_wp2_with (first | (refine wpList_store_row rfl 73 (.tmp 3) (.tmp 10) rfl (w.heap.size + 1 + 1) #[.int .i64 kind, .int .i64 src, .int .i64 dst, .int .u64 0, .int .i64 0, .int .i64 0, .int .u32 0, .int .u64 0, .int .i64 0, .slice none 0 0, .string ⟨#[]⟩, .int .u64 0, .int .u32 0, .slice none 0 0, .int .u64 0, .int .i64 0, .int .u32 0, .int .u64 0, .int .u64 0, .int .i64 0, .int .u64 0, .slice none 0 0] (by simp [Act.eval, Act.put]) (by simp [Act.eval, Act.put]) 73 #[.int .i64 0, .int .i64 0, .int .i64 0, .int .u64 0, .int .i64 0, .int .i64 0, .int .u32 0, .int .u64 0, .int .i64 0, .slice none 0 0, .string ⟨#[]⟩, .int .u64 0, .int .u32 0, .slice none 0 0, .int .u64 0, .int .i64 0, .int .u32 0, .int .u64 0, .int .u64 0, .int .i64 0, .int .u64 0, .slice none 0 0] A2.out info73 rfl (by kernel_rfl) ?_; rw [← HW2.out]; clear i0 i1 i2 A2 HW2; have mk := True.intro) | (clear mk; refine wpList_load_row rfl 73 (.tmp 3) rfl (w.heap.size + 1 + 1) (by simp [Act.eval, Act.put]) 73 _ (0, 0) _ H2x.out Try.underlying73 rfl info73 ?_))
  clear a0 B0 B1 B2 hbB s0
  generalize w2 = w3 at *
  try replace sx := sx.out
  refine (HO.out _ HBx.out).mono ?_
  rintro e w4 ⟨⟨v, rfl, hov⟩, hb4⟩
  have hz := (hb4.block (w.heap.size + 1) (by omega)).trans H1x.out
  have hbw := below_step HBx.out hb4
  clear HO H0x H1x H2x HBx
  have HOV := Lib.hid hov
  obtain ⟨V2, rfl, hvs, hone⟩ : ∃ c : Array Value, v = .agg c ∧ c.size = 22 ∧ c.all (·.oneCell') = true := by
    obtain ⟨Am1, cm1, Ag1, cg1, Ax1, cx1, rfl, -⟩ := hov
    exact ⟨_, rfl, rfl, by kernel_rfl⟩
  clear hov
  have i1 : (Try.prog.info? 73).map (·.size) = some V2.size := by rw [hvs]; exact info73
  go_wp2_with (refine wpList_store_row rfl 73 (.tmp 2) (.tmp 98) rfl (w.heap.size + 1) V2 (by simp [Act.eval, Act.put]) (by simp [Act.eval, Act.put]) 73 #[.int .i64 0, .int .i64 0, .int .i64 0, .int .u64 0, .int .i64 0, .int .i64 0, .int .u32 0, .int .u64 0, .int .i64 0, .slice none 0 0, .string ⟨#[]⟩, .int .u64 0, .int .u32 0, .slice none 0 0, .int .u64 0, .int .i64 0, .int .u32 0, .int .u64 0, .int .u64 0, .int .i64 0, .int .u64 0, .slice none 0 0] hz i1 (by rw [hvs]; rfl) hone ?_)
  have hr := setRow_heap w4 (w.heap.size + 1) #[.int .i64 0, .int .i64 0, .int .i64 0, .int .u64 0, .int .i64 0, .int .i64 0, .int .u32 0, .int .u64 0, .int .i64 0, .slice none 0 0, .string ⟨#[]⟩, .int .u64 0, .int .u32 0, .slice none 0 0, .int .u64 0, .int .i64 0, .int .u32 0, .int .u64 0, .int .u64 0, .int .i64 0, .int .u64 0, .slice none 0 0] V2 73 (0, 0) hz
  refine bodyPost_ret (results_cell_row Try.results48 _ _ _ _ _ _ _ rfl hr Try.underlying73 rfl i1) rfl ?_
  exact ⟨⟨_, rfl, HOV.out.row_low (by omega)⟩, below_setRow hbw (by omega) _⟩
end Go.Proofs.Ythkfgjdbgnbjkaa
