/- The walk of packet's Print, whole. (Printed by pkprint.py.) -/
import Derived.Test.YthkfgjdbgnbjkaaPkH
import Derived.BigRegion
import Derived.Deep.RegionHeld3
import Derived.Laws.Rows
namespace Go.Proofs.Ythkfgjdbgnbjkaa
open Go.RowKit
set_option linter.unusedSimpArgs false
set_option linter.unusedVariables false

theorem addr_block (a : Addr) (i : Nat) : (a.add i).block = a.block := by unfold Addr.add; split <;> rfl
theorem cell_other {w : World} {k j K : Nat} {v u : Value} (h : w.cell? ⟨k, j, none⟩ = some v) (hne : k ≠ K) : (w.setCell ⟨K, 0, none⟩ u).cell? ⟨k, j, none⟩ = some v :=
  (World.cell?_setCell_other _ _ _ _ (by
    intro e
    injection e with e
    exact hne e.symm)).trans h
theorem RdB.keep {w w1 : World} {k c : Nat} {l : List UInt8} (h : RdB w (some ⟨k, 0, none⟩) c l) (hb : Below w.heap.size w w1) : RdB w1 (some ⟨k, 0, none⟩) c l :=
  ⟨fun e => (by cases e), fun ad ha j u hu => cell_keep (h.2 ad ha j u hu) hb⟩
theorem RdB.set {w : World} {k c : Nat} {l : List UInt8} (h : RdB w (some ⟨k, 0, none⟩) c l) {K : Nat} (hne : k ≠ K) (v : Value) : RdB (w.setCell ⟨K, 0, none⟩ v) (some ⟨k, 0, none⟩) c l := by
  refine ⟨fun e => (by cases e), fun ad ha j u hu => ?_⟩
  cases ha
  refine (World.cell?_setCell_other _ _ _ _ ?_).trans (h.2 _ rfl j u hu)
  intro e
  have := congrArg Addr.block e
  rw [addr_block] at this
  simp at this
  omega
theorem info73 : (Try.prog.info? 73).map (·.size) = some 22 := by kernel_rfl

set_option maxHeartbeats 3200000 in
set_option maxRecDepth 8000 in
theorem pprint_no (p : Pk) (Am : Option Addr) (cm : Nat) (Ag : Option Addr) (cg : Nat) (Ax : Option Addr) (cx : Nat) (w : World) (hf : p.fits) (hm : PerU w Am p.m.deps) (hgo : PerU w Ag p.got) (hx : PerX w Ax p.x) (he : printE p.kind p.src p.dst ⟨#[]⟩ ≠ 0) :
    Calls Try.prog 49 #[pkV p Am cm Ag cg Ax cx] w fun e w' => e = .returned (.tuple #[.string ⟨#[]⟩, .int .i64 (printE p.kind p.src p.dst ⟨#[]⟩)]) ∧ Below w.heap.size w w' := by
  have hmf : ∀ (fn : Fn) (first cap : Array Value) (w : World), (Instr.makeFunc fn first cap).run Try.prog w = .ok (.func fn first cap) w := fun _ _ _ _ => rfl
  have HB := Lib.hid (fun B g l W (h : WrAt W B g l) (hB : B ≤ W.heap.size) (hBg : B ≤ g) (hl : l.length ≤ 600000) (e1 : EverU g W Am p.m.deps) (e2 : EverU g W Ag p.got) (e3 : EverX g W Ax p.x) => wbody_any B g l p Am cm Ag cg Ax cx W h hB hBg hl hf e1 e2 e3)
  have HM := Lib.hid hm
  have HG := Lib.hid hgo
  have HX := Lib.hid hx
  clear hm hgo hx hf
  unfold pkV at HB ⊢
  obtain ⟨kind, src, dst, ⟨ce, cr⟩, m, stamp, sent, got, horizon, whom, seq, members, ⟨pe, pr⟩, epoch, x⟩ := p
  have hb0 : Below w.heap.size w (((w.alloc (.cells #[.int .i64 kind, .int .i64 src, .int .i64 dst, .int .u64 (ce : Int), .int .i64 cr, .int .i64 m.src, .int .u32 (m.seq : Int), .int .u64 (m.stamp : Int), .int .i64 m.svc, .slice Am m.deps.length cm, .string m.pay, .int .u64 (stamp : Int), .int .u32 (sent : Int), .slice Ag got.length cg, .int .u64 (horizon : Int), .int .i64 whom, .int .u32 (seq : Int), .int .u64 (members : Int), .int .u64 (pe : Int), .int .i64 pr, .int .u64 (epoch : Int), .slice Ax x.length cx] 73)).alloc (.cells #[.string ⟨#[]⟩] 9)).alloc (.cells #[.int .i64 0] 38)) := below_alloc (below_alloc (below_alloc (Below.refl _ _) _) _) _
  have A0 : Hid ((((w.alloc (.cells #[.int .i64 kind, .int .i64 src, .int .i64 dst, .int .u64 (ce : Int), .int .i64 cr, .int .i64 m.src, .int .u32 (m.seq : Int), .int .u64 (m.stamp : Int), .int .i64 m.svc, .slice Am m.deps.length cm, .string m.pay, .int .u64 (stamp : Int), .int .u32 (sent : Int), .slice Ag got.length cg, .int .u64 (horizon : Int), .int .i64 whom, .int .u32 (seq : Int), .int .u64 (members : Int), .int .u64 (pe : Int), .int .i64 pr, .int .u64 (epoch : Int), .slice Ax x.length cx] 73)).alloc (.cells #[.string ⟨#[]⟩] 9)).alloc (.cells #[.int .i64 0] 38)).heap[w.heap.size]? = some (.cells #[.int .i64 kind, .int .i64 src, .int .i64 dst, .int .u64 (ce : Int), .int .i64 cr, .int .i64 m.src, .int .u32 (m.seq : Int), .int .u64 (m.stamp : Int), .int .i64 m.svc, .slice Am m.deps.length cm, .string m.pay, .int .u64 (stamp : Int), .int .u32 (sent : Int), .slice Ag got.length cg, .int .u64 (horizon : Int), .int .i64 whom, .int .u32 (seq : Int), .int .u64 (members : Int), .int .u64 (pe : Int), .int .i64 pr, .int .u64 (epoch : Int), .slice Ax x.length cx] 73 (0, 0))) := (Below.heap_alloc _ _ _ (by simp; omega)).trans ((Below.heap_alloc _ _ _ (by simp)).trans (heap_alloc_new w _))
  have A1 : Hid ((((w.alloc (.cells #[.int .i64 kind, .int .i64 src, .int .i64 dst, .int .u64 (ce : Int), .int .i64 cr, .int .i64 m.src, .int .u32 (m.seq : Int), .int .u64 (m.stamp : Int), .int .i64 m.svc, .slice Am m.deps.length cm, .string m.pay, .int .u64 (stamp : Int), .int .u32 (sent : Int), .slice Ag got.length cg, .int .u64 (horizon : Int), .int .i64 whom, .int .u32 (seq : Int), .int .u64 (members : Int), .int .u64 (pe : Int), .int .i64 pr, .int .u64 (epoch : Int), .slice Ax x.length cx] 73)).alloc (.cells #[.string ⟨#[]⟩] 9)).alloc (.cells #[.int .i64 0] 38)).heap[w.heap.size + 1]? = some (.cells #[.string ⟨#[]⟩] 9 (0, 0))) := (Below.heap_alloc _ _ _ (by simp)).trans (by rw [show w.heap.size + 1 = (w.alloc (.cells #[.int .i64 kind, .int .i64 src, .int .i64 dst, .int .u64 (ce : Int), .int .i64 cr, .int .i64 m.src, .int .u32 (m.seq : Int), .int .u64 (m.stamp : Int), .int .i64 m.svc, .slice Am m.deps.length cm, .string m.pay, .int .u64 (stamp : Int), .int .u32 (sent : Int), .slice Ag got.length cg, .int .u64 (horizon : Int), .int .i64 whom, .int .u32 (seq : Int), .int .u64 (members : Int), .int .u64 (pe : Int), .int .i64 pr, .int .u64 (epoch : Int), .slice Ax x.length cx] 73)).heap.size by simp]; exact heap_alloc_new _ _)
  have A2 : Hid ((((w.alloc (.cells #[.int .i64 kind, .int .i64 src, .int .i64 dst, .int .u64 (ce : Int), .int .i64 cr, .int .i64 m.src, .int .u32 (m.seq : Int), .int .u64 (m.stamp : Int), .int .i64 m.svc, .slice Am m.deps.length cm, .string m.pay, .int .u64 (stamp : Int), .int .u32 (sent : Int), .slice Ag got.length cg, .int .u64 (horizon : Int), .int .i64 whom, .int .u32 (seq : Int), .int .u64 (members : Int), .int .u64 (pe : Int), .int .i64 pr, .int .u64 (epoch : Int), .slice Ax x.length cx] 73)).alloc (.cells #[.string ⟨#[]⟩] 9)).alloc (.cells #[.int .i64 0] 38)).heap[w.heap.size + 1 + 1]? = some (.cells #[.int .i64 0] 38 (0, 0))) := by
    show (((w.alloc (.cells #[.int .i64 kind, .int .i64 src, .int .i64 dst, .int .u64 (ce : Int), .int .i64 cr, .int .i64 m.src, .int .u32 (m.seq : Int), .int .u64 (m.stamp : Int), .int .i64 m.svc, .slice Am m.deps.length cm, .string m.pay, .int .u64 (stamp : Int), .int .u32 (sent : Int), .slice Ag got.length cg, .int .u64 (horizon : Int), .int .i64 whom, .int .u32 (seq : Int), .int .u64 (members : Int), .int .u64 (pe : Int), .int .i64 pr, .int .u64 (epoch : Int), .slice Ax x.length cx] 73)).alloc (.cells #[.string ⟨#[]⟩] 9)).alloc (.cells #[.int .i64 0] 38)).heap[w.heap.size + 1 + 1]? = _
    rw [show w.heap.size + 1 + 1 = ((w.alloc (.cells #[.int .i64 kind, .int .i64 src, .int .i64 dst, .int .u64 (ce : Int), .int .i64 cr, .int .i64 m.src, .int .u32 (m.seq : Int), .int .u64 (m.stamp : Int), .int .i64 m.svc, .slice Am m.deps.length cm, .string m.pay, .int .u64 (stamp : Int), .int .u32 (sent : Int), .slice Ag got.length cg, .int .u64 (horizon : Int), .int .i64 whom, .int .u32 (seq : Int), .int .u64 (members : Int), .int .u64 (pe : Int), .int .i64 pr, .int .u64 (epoch : Int), .slice Ax x.length cx] 73)).alloc (.cells #[.string ⟨#[]⟩] 9)).heap.size by simp]
    exact heap_alloc_new _ _
  have HP := Lib.hid (fun W => print_any kind src dst ⟨#[]⟩ W (Nat.zero_le _))
  have hd : (printE kind src dst ⟨#[]⟩ != 0) = true := by simpa using he
  go_enter_defers Try.func49, Try.ntmps49
  go_wp2_with fail
  refine (HP.out _).mono ?_
  rintro e w1 ⟨rfl, hb1⟩
  have B0 := (hb1.block w.heap.size (by simp; omega)).trans A0.out
  have B1 := (hb1.block (w.heap.size + 1) (by simp)).trans A1.out
  have B2 := (hb1.block (w.heap.size + 1 + 1) (by simp)).trans A2.out
  have r1 := blk_cell B1
  have r2 := blk_frozen B1
  have s1 := blk_cell B2
  have s2 := blk_frozen B2
  have hbl1 := below_step hb0 hb1
  have hsz1 : w.heap.size + 3 ≤ w1.heap.size := by have := hb1.size; simpa using this
  clear hb0 hb1 A0 A1 A2 HP
  generalize hE : printE kind src dst ⟨#[]⟩ = E at *
  go_wp2_with fail
  have z1 : (w1.setCell ⟨w.heap.size + 1, 0, none⟩ (.string ⟨#[]⟩)).cell? ⟨w.heap.size + 1, 0, none⟩ = some (.string ⟨#[]⟩) := World.cell?_setCell_same _ _ _ (blk_cell B1)
  have z2 : (w1.setCell ⟨w.heap.size + 1, 0, none⟩ (.string ⟨#[]⟩)).cell? ⟨w.heap.size + 1 + 1, 0, none⟩ = some (.int .i64 0) := (World.cell?_setCell_other _ _ _ _ (by simp)).trans (blk_cell B2)
  have z3 := World.cell?_setCell_same _ _ (.int .i64 E) z2
  have z4 : ((w1.setCell ⟨w.heap.size + 1, 0, none⟩ (.string ⟨#[]⟩)).setCell ⟨w.heap.size + 1 + 1, 0, none⟩ (.int .i64 E)).cell? ⟨w.heap.size + 1, 0, none⟩ = some (.string ⟨#[]⟩) := (World.cell?_setCell_other _ _ _ _ (by simp)).trans z1
  simp [bodyPostD, Leaves, settle, results, Try.results49, go_sem, z1, z2, z3, z4]
  exact ⟨hE.symm, (hbl1.setCell (p := ⟨w.heap.size + 1, 0, none⟩) (by simp) _).setCell (p := ⟨w.heap.size + 1 + 1, 0, none⟩) (by simp; omega) _⟩

set_option maxHeartbeats 3200000 in
set_option maxRecDepth 8000 in
theorem pprint_err (p : Pk) (Am : Option Addr) (cm : Nat) (Ag : Option Addr) (cg : Nat) (Ax : Option Addr) (cx : Nat) (w : World) (hf : p.fits) (hm : PerU w Am p.m.deps) (hgo : PerU w Ag p.got) (hx : PerX w Ax p.x) (he : printE p.kind p.src p.dst ⟨#[]⟩ = 0) (c : Int) (hc : bodyW p = .error c) :
    Calls Try.prog 49 #[pkV p Am cm Ag cg Ax cx] w fun e w' => e = .returned (.tuple #[.string ⟨#[]⟩, .int .i64 c]) ∧ Below w.heap.size w w' := by
  have hmf : ∀ (fn : Fn) (first cap : Array Value) (w : World), (Instr.makeFunc fn first cap).run Try.prog w = .ok (.func fn first cap) w := fun _ _ _ _ => rfl
  have HB := Lib.hid (fun B g l W (h : WrAt W B g l) (hB : B ≤ W.heap.size) (hBg : B ≤ g) (hl : l.length ≤ 600000) (e1 : EverU g W Am p.m.deps) (e2 : EverU g W Ag p.got) (e3 : EverX g W Ax p.x) => wbody_any B g l p Am cm Ag cg Ax cx W h hB hBg hl hf e1 e2 e3)
  rw [hc] at HB
  have HM := Lib.hid hm
  have HG := Lib.hid hgo
  have HX := Lib.hid hx
  clear hm hgo hx hf
  unfold pkV at HB ⊢
  obtain ⟨kind, src, dst, ⟨ce, cr⟩, m, stamp, sent, got, horizon, whom, seq, members, ⟨pe, pr⟩, epoch, x⟩ := p
  have hb0 : Below w.heap.size w (((w.alloc (.cells #[.int .i64 kind, .int .i64 src, .int .i64 dst, .int .u64 (ce : Int), .int .i64 cr, .int .i64 m.src, .int .u32 (m.seq : Int), .int .u64 (m.stamp : Int), .int .i64 m.svc, .slice Am m.deps.length cm, .string m.pay, .int .u64 (stamp : Int), .int .u32 (sent : Int), .slice Ag got.length cg, .int .u64 (horizon : Int), .int .i64 whom, .int .u32 (seq : Int), .int .u64 (members : Int), .int .u64 (pe : Int), .int .i64 pr, .int .u64 (epoch : Int), .slice Ax x.length cx] 73)).alloc (.cells #[.string ⟨#[]⟩] 9)).alloc (.cells #[.int .i64 0] 38)) := below_alloc (below_alloc (below_alloc (Below.refl _ _) _) _) _
  have A0 : Hid ((((w.alloc (.cells #[.int .i64 kind, .int .i64 src, .int .i64 dst, .int .u64 (ce : Int), .int .i64 cr, .int .i64 m.src, .int .u32 (m.seq : Int), .int .u64 (m.stamp : Int), .int .i64 m.svc, .slice Am m.deps.length cm, .string m.pay, .int .u64 (stamp : Int), .int .u32 (sent : Int), .slice Ag got.length cg, .int .u64 (horizon : Int), .int .i64 whom, .int .u32 (seq : Int), .int .u64 (members : Int), .int .u64 (pe : Int), .int .i64 pr, .int .u64 (epoch : Int), .slice Ax x.length cx] 73)).alloc (.cells #[.string ⟨#[]⟩] 9)).alloc (.cells #[.int .i64 0] 38)).heap[w.heap.size]? = some (.cells #[.int .i64 kind, .int .i64 src, .int .i64 dst, .int .u64 (ce : Int), .int .i64 cr, .int .i64 m.src, .int .u32 (m.seq : Int), .int .u64 (m.stamp : Int), .int .i64 m.svc, .slice Am m.deps.length cm, .string m.pay, .int .u64 (stamp : Int), .int .u32 (sent : Int), .slice Ag got.length cg, .int .u64 (horizon : Int), .int .i64 whom, .int .u32 (seq : Int), .int .u64 (members : Int), .int .u64 (pe : Int), .int .i64 pr, .int .u64 (epoch : Int), .slice Ax x.length cx] 73 (0, 0))) := (Below.heap_alloc _ _ _ (by simp; omega)).trans ((Below.heap_alloc _ _ _ (by simp)).trans (heap_alloc_new w _))
  have A1 : Hid ((((w.alloc (.cells #[.int .i64 kind, .int .i64 src, .int .i64 dst, .int .u64 (ce : Int), .int .i64 cr, .int .i64 m.src, .int .u32 (m.seq : Int), .int .u64 (m.stamp : Int), .int .i64 m.svc, .slice Am m.deps.length cm, .string m.pay, .int .u64 (stamp : Int), .int .u32 (sent : Int), .slice Ag got.length cg, .int .u64 (horizon : Int), .int .i64 whom, .int .u32 (seq : Int), .int .u64 (members : Int), .int .u64 (pe : Int), .int .i64 pr, .int .u64 (epoch : Int), .slice Ax x.length cx] 73)).alloc (.cells #[.string ⟨#[]⟩] 9)).alloc (.cells #[.int .i64 0] 38)).heap[w.heap.size + 1]? = some (.cells #[.string ⟨#[]⟩] 9 (0, 0))) := (Below.heap_alloc _ _ _ (by simp)).trans (by rw [show w.heap.size + 1 = (w.alloc (.cells #[.int .i64 kind, .int .i64 src, .int .i64 dst, .int .u64 (ce : Int), .int .i64 cr, .int .i64 m.src, .int .u32 (m.seq : Int), .int .u64 (m.stamp : Int), .int .i64 m.svc, .slice Am m.deps.length cm, .string m.pay, .int .u64 (stamp : Int), .int .u32 (sent : Int), .slice Ag got.length cg, .int .u64 (horizon : Int), .int .i64 whom, .int .u32 (seq : Int), .int .u64 (members : Int), .int .u64 (pe : Int), .int .i64 pr, .int .u64 (epoch : Int), .slice Ax x.length cx] 73)).heap.size by simp]; exact heap_alloc_new _ _)
  have A2 : Hid ((((w.alloc (.cells #[.int .i64 kind, .int .i64 src, .int .i64 dst, .int .u64 (ce : Int), .int .i64 cr, .int .i64 m.src, .int .u32 (m.seq : Int), .int .u64 (m.stamp : Int), .int .i64 m.svc, .slice Am m.deps.length cm, .string m.pay, .int .u64 (stamp : Int), .int .u32 (sent : Int), .slice Ag got.length cg, .int .u64 (horizon : Int), .int .i64 whom, .int .u32 (seq : Int), .int .u64 (members : Int), .int .u64 (pe : Int), .int .i64 pr, .int .u64 (epoch : Int), .slice Ax x.length cx] 73)).alloc (.cells #[.string ⟨#[]⟩] 9)).alloc (.cells #[.int .i64 0] 38)).heap[w.heap.size + 1 + 1]? = some (.cells #[.int .i64 0] 38 (0, 0))) := by
    show (((w.alloc (.cells #[.int .i64 kind, .int .i64 src, .int .i64 dst, .int .u64 (ce : Int), .int .i64 cr, .int .i64 m.src, .int .u32 (m.seq : Int), .int .u64 (m.stamp : Int), .int .i64 m.svc, .slice Am m.deps.length cm, .string m.pay, .int .u64 (stamp : Int), .int .u32 (sent : Int), .slice Ag got.length cg, .int .u64 (horizon : Int), .int .i64 whom, .int .u32 (seq : Int), .int .u64 (members : Int), .int .u64 (pe : Int), .int .i64 pr, .int .u64 (epoch : Int), .slice Ax x.length cx] 73)).alloc (.cells #[.string ⟨#[]⟩] 9)).alloc (.cells #[.int .i64 0] 38)).heap[w.heap.size + 1 + 1]? = _
    rw [show w.heap.size + 1 + 1 = ((w.alloc (.cells #[.int .i64 kind, .int .i64 src, .int .i64 dst, .int .u64 (ce : Int), .int .i64 cr, .int .i64 m.src, .int .u32 (m.seq : Int), .int .u64 (m.stamp : Int), .int .i64 m.svc, .slice Am m.deps.length cm, .string m.pay, .int .u64 (stamp : Int), .int .u32 (sent : Int), .slice Ag got.length cg, .int .u64 (horizon : Int), .int .i64 whom, .int .u32 (seq : Int), .int .u64 (members : Int), .int .u64 (pe : Int), .int .i64 pr, .int .u64 (epoch : Int), .slice Ax x.length cx] 73)).alloc (.cells #[.string ⟨#[]⟩] 9)).heap.size by simp]
    exact heap_alloc_new _ _
  have HP := Lib.hid (fun W => print_any kind src dst ⟨#[]⟩ W (Nat.zero_le _))
  have he2 : printE kind src dst ⟨#[]⟩ = 0 := he
  rw [he2] at HP
  go_enter_defers Try.func49, Try.ntmps49
  go_wp2_with fail
  refine (HP.out _).mono ?_
  rintro e w1 ⟨rfl, hb1⟩
  have B0 := (hb1.block w.heap.size (by simp; omega)).trans A0.out
  have B1 := (hb1.block (w.heap.size + 1) (by simp)).trans A1.out
  have B2 := (hb1.block (w.heap.size + 1 + 1) (by simp)).trans A2.out
  have hbl1 := below_step hb0 hb1
  have hsz1 : w.heap.size + 3 ≤ w1.heap.size := by have := hb1.size; simpa using this
  clear hb0 hb1 A0 A1 A2 HP
  have hbl2 := below_alloc hbl1 (.cells #[.slice none 0 0] 123)
  have hw2 : WrAt (w1.alloc (.cells #[.slice none 0 0] 123)) w1.heap.size w1.heap.size [] := ⟨none, 0, heap_alloc_new w1 _, World.ownsRow_nil _ _ _ _⟩
  have C0 := (Below.heap_alloc w1 (.cells #[.slice none 0 0] 123) w.heap.size (by omega)).trans B0
  have C1 := (Below.heap_alloc w1 (.cells #[.slice none 0 0] 123) (w.heap.size + 1) (by omega)).trans B1
  have C2 := (Below.heap_alloc w1 (.cells #[.slice none 0 0] 123) (w.heap.size + 1 + 1) (by omega)).trans B2
  have HB2 := Lib.hid (HB.out _ _ _ _ hw2 (by simp) (Nat.le_refl _) (by simp) (HM.out.ever hbl2 (by omega)) (HG.out.ever hbl2 (by omega)) (HX.out.ever hbl2 (by omega)))
  go_wp2_with (refine wpList_load_row rfl 73 (.tmp 1) rfl w.heap.size (by simp [Act.eval]) 73 _ (0, 0) _ C0 Try.underlying73 rfl info73 ?_)
  refine HB2.out.mono ?_
  rintro e w3 ⟨rfl, hb3⟩
  have D1 := (hb3.block (w.heap.size + 1) (by omega)).trans C1
  have D2 := (hb3.block (w.heap.size + 1 + 1) (by omega)).trans C2
  have hbl3 := hbl2.trans (hb3.mono (by omega))
  clear C0 C1 C2 B0 B1 B2 HB2 HB hw2 hb3
  go_wp2_with fail
  refine leaves_cons (f := 77) (args := #[.pointer (some ⟨w.heap.size + 1, 0, none⟩), .pointer (some ⟨w.heap.size + 1 + 1, 0, none⟩)]) (by simp) (by simp [go_sem]) ?_
  refine (pcatch_panicking _ _ _ _ c [] _ (blk_cell D1) (blk_frozen D1) (blk_cell D2) (blk_frozen D2) (by simp)).mono ?_
  rintro e u' w'' ⟨rfl, rfl, rfl⟩
  have z1 : (w3.setCell ⟨w.heap.size + 1, 0, none⟩ (.string ⟨#[]⟩)).cell? ⟨w.heap.size + 1, 0, none⟩ = some (.string ⟨#[]⟩) := World.cell?_setCell_same _ _ _ (blk_cell D1)
  have z2 : (w3.setCell ⟨w.heap.size + 1, 0, none⟩ (.string ⟨#[]⟩)).cell? ⟨w.heap.size + 1 + 1, 0, none⟩ = some (.int .i64 0) := (World.cell?_setCell_other _ _ _ _ (by simp)).trans (blk_cell D2)
  have z3 := World.cell?_setCell_same _ _ (.int .i64 c) z2
  have z4 : ((w3.setCell ⟨w.heap.size + 1, 0, none⟩ (.string ⟨#[]⟩)).setCell ⟨w.heap.size + 1 + 1, 0, none⟩ (.int .i64 c)).cell? ⟨w.heap.size + 1, 0, none⟩ = some (.string ⟨#[]⟩) := (World.cell?_setCell_other _ _ _ _ (by simp)).trans z1
  simp [Leaves, settle, results, Try.results49, go_sem, z1, z2, z3, z4]
  exact (hbl3.setCell (p := ⟨w.heap.size + 1, 0, none⟩) (by simp) _).setCell (p := ⟨w.heap.size + 1 + 1, 0, none⟩) (by simp; omega) _

set_option maxHeartbeats 3200000 in
set_option maxRecDepth 8000 in
theorem pprint_ok (p : Pk) (Am : Option Addr) (cm : Nat) (Ag : Option Addr) (cg : Nat) (Ax : Option Addr) (cx : Nat) (w : World) (hf : p.fits) (hm : PerU w Am p.m.deps) (hgo : PerU w Ag p.got) (hx : PerX w Ax p.x) (he : printE p.kind p.src p.dst ⟨#[]⟩ = 0) (b : List UInt8) (hc : bodyW p = .ok b) :
    Calls Try.prog 49 #[pkV p Am cm Ag cg Ax cx] w fun e w' => e = .returned (.tuple #[.string (printS p.kind p.src p.dst ⟨b.toArray⟩), .int .i64 (printE p.kind p.src p.dst ⟨b.toArray⟩)]) ∧ Below w.heap.size w w' := by
  have hmf : ∀ (fn : Fn) (first cap : Array Value) (w : World), (Instr.makeFunc fn first cap).run Try.prog w = .ok (.func fn first cap) w := fun _ _ _ _ => rfl
  have HB := Lib.hid (fun B g l W (h : WrAt W B g l) (hB : B ≤ W.heap.size) (hBg : B ≤ g) (hl : l.length ≤ 600000) (e1 : EverU g W Am p.m.deps) (e2 : EverU g W Ag p.got) (e3 : EverX g W Ax p.x) => wbody_any B g l p Am cm Ag cg Ax cx W h hB hBg hl hf e1 e2 e3)
  have hlen := bodyW_len hc
  rw [hc] at HB
  have HM := Lib.hid hm
  have HG := Lib.hid hgo
  have HX := Lib.hid hx
  clear hm hgo hx hf
  unfold pkV at HB ⊢
  obtain ⟨kind, src, dst, ⟨ce, cr⟩, m, stamp, sent, got, horizon, whom, seq, members, ⟨pe, pr⟩, epoch, x⟩ := p
  have hb0 : Below w.heap.size w (((w.alloc (.cells #[.int .i64 kind, .int .i64 src, .int .i64 dst, .int .u64 (ce : Int), .int .i64 cr, .int .i64 m.src, .int .u32 (m.seq : Int), .int .u64 (m.stamp : Int), .int .i64 m.svc, .slice Am m.deps.length cm, .string m.pay, .int .u64 (stamp : Int), .int .u32 (sent : Int), .slice Ag got.length cg, .int .u64 (horizon : Int), .int .i64 whom, .int .u32 (seq : Int), .int .u64 (members : Int), .int .u64 (pe : Int), .int .i64 pr, .int .u64 (epoch : Int), .slice Ax x.length cx] 73)).alloc (.cells #[.string ⟨#[]⟩] 9)).alloc (.cells #[.int .i64 0] 38)) := below_alloc (below_alloc (below_alloc (Below.refl _ _) _) _) _
  have A0 : Hid ((((w.alloc (.cells #[.int .i64 kind, .int .i64 src, .int .i64 dst, .int .u64 (ce : Int), .int .i64 cr, .int .i64 m.src, .int .u32 (m.seq : Int), .int .u64 (m.stamp : Int), .int .i64 m.svc, .slice Am m.deps.length cm, .string m.pay, .int .u64 (stamp : Int), .int .u32 (sent : Int), .slice Ag got.length cg, .int .u64 (horizon : Int), .int .i64 whom, .int .u32 (seq : Int), .int .u64 (members : Int), .int .u64 (pe : Int), .int .i64 pr, .int .u64 (epoch : Int), .slice Ax x.length cx] 73)).alloc (.cells #[.string ⟨#[]⟩] 9)).alloc (.cells #[.int .i64 0] 38)).heap[w.heap.size]? = some (.cells #[.int .i64 kind, .int .i64 src, .int .i64 dst, .int .u64 (ce : Int), .int .i64 cr, .int .i64 m.src, .int .u32 (m.seq : Int), .int .u64 (m.stamp : Int), .int .i64 m.svc, .slice Am m.deps.length cm, .string m.pay, .int .u64 (stamp : Int), .int .u32 (sent : Int), .slice Ag got.length cg, .int .u64 (horizon : Int), .int .i64 whom, .int .u32 (seq : Int), .int .u64 (members : Int), .int .u64 (pe : Int), .int .i64 pr, .int .u64 (epoch : Int), .slice Ax x.length cx] 73 (0, 0))) := (Below.heap_alloc _ _ _ (by simp; omega)).trans ((Below.heap_alloc _ _ _ (by simp)).trans (heap_alloc_new w _))
  have A1 : Hid ((((w.alloc (.cells #[.int .i64 kind, .int .i64 src, .int .i64 dst, .int .u64 (ce : Int), .int .i64 cr, .int .i64 m.src, .int .u32 (m.seq : Int), .int .u64 (m.stamp : Int), .int .i64 m.svc, .slice Am m.deps.length cm, .string m.pay, .int .u64 (stamp : Int), .int .u32 (sent : Int), .slice Ag got.length cg, .int .u64 (horizon : Int), .int .i64 whom, .int .u32 (seq : Int), .int .u64 (members : Int), .int .u64 (pe : Int), .int .i64 pr, .int .u64 (epoch : Int), .slice Ax x.length cx] 73)).alloc (.cells #[.string ⟨#[]⟩] 9)).alloc (.cells #[.int .i64 0] 38)).heap[w.heap.size + 1]? = some (.cells #[.string ⟨#[]⟩] 9 (0, 0))) := (Below.heap_alloc _ _ _ (by simp)).trans (by rw [show w.heap.size + 1 = (w.alloc (.cells #[.int .i64 kind, .int .i64 src, .int .i64 dst, .int .u64 (ce : Int), .int .i64 cr, .int .i64 m.src, .int .u32 (m.seq : Int), .int .u64 (m.stamp : Int), .int .i64 m.svc, .slice Am m.deps.length cm, .string m.pay, .int .u64 (stamp : Int), .int .u32 (sent : Int), .slice Ag got.length cg, .int .u64 (horizon : Int), .int .i64 whom, .int .u32 (seq : Int), .int .u64 (members : Int), .int .u64 (pe : Int), .int .i64 pr, .int .u64 (epoch : Int), .slice Ax x.length cx] 73)).heap.size by simp]; exact heap_alloc_new _ _)
  have A2 : Hid ((((w.alloc (.cells #[.int .i64 kind, .int .i64 src, .int .i64 dst, .int .u64 (ce : Int), .int .i64 cr, .int .i64 m.src, .int .u32 (m.seq : Int), .int .u64 (m.stamp : Int), .int .i64 m.svc, .slice Am m.deps.length cm, .string m.pay, .int .u64 (stamp : Int), .int .u32 (sent : Int), .slice Ag got.length cg, .int .u64 (horizon : Int), .int .i64 whom, .int .u32 (seq : Int), .int .u64 (members : Int), .int .u64 (pe : Int), .int .i64 pr, .int .u64 (epoch : Int), .slice Ax x.length cx] 73)).alloc (.cells #[.string ⟨#[]⟩] 9)).alloc (.cells #[.int .i64 0] 38)).heap[w.heap.size + 1 + 1]? = some (.cells #[.int .i64 0] 38 (0, 0))) := by
    show (((w.alloc (.cells #[.int .i64 kind, .int .i64 src, .int .i64 dst, .int .u64 (ce : Int), .int .i64 cr, .int .i64 m.src, .int .u32 (m.seq : Int), .int .u64 (m.stamp : Int), .int .i64 m.svc, .slice Am m.deps.length cm, .string m.pay, .int .u64 (stamp : Int), .int .u32 (sent : Int), .slice Ag got.length cg, .int .u64 (horizon : Int), .int .i64 whom, .int .u32 (seq : Int), .int .u64 (members : Int), .int .u64 (pe : Int), .int .i64 pr, .int .u64 (epoch : Int), .slice Ax x.length cx] 73)).alloc (.cells #[.string ⟨#[]⟩] 9)).alloc (.cells #[.int .i64 0] 38)).heap[w.heap.size + 1 + 1]? = _
    rw [show w.heap.size + 1 + 1 = ((w.alloc (.cells #[.int .i64 kind, .int .i64 src, .int .i64 dst, .int .u64 (ce : Int), .int .i64 cr, .int .i64 m.src, .int .u32 (m.seq : Int), .int .u64 (m.stamp : Int), .int .i64 m.svc, .slice Am m.deps.length cm, .string m.pay, .int .u64 (stamp : Int), .int .u32 (sent : Int), .slice Ag got.length cg, .int .u64 (horizon : Int), .int .i64 whom, .int .u32 (seq : Int), .int .u64 (members : Int), .int .u64 (pe : Int), .int .i64 pr, .int .u64 (epoch : Int), .slice Ax x.length cx] 73)).alloc (.cells #[.string ⟨#[]⟩] 9)).heap.size by simp]
    exact heap_alloc_new _ _
  have HP := Lib.hid (fun W => print_any kind src dst ⟨#[]⟩ W (Nat.zero_le _))
  have he2 : printE kind src dst ⟨#[]⟩ = 0 := he
  rw [he2] at HP
  have HQ := Lib.hid (fun W => print_any kind src dst ⟨b.toArray⟩ W (by rw [← size_data]; simp; omega))
  go_enter_defers Try.func49, Try.ntmps49
  go_wp2_with fail
  refine (HP.out _).mono ?_
  rintro e w1 ⟨rfl, hb1⟩
  have B0 := (hb1.block w.heap.size (by simp; omega)).trans A0.out
  have B1 := (hb1.block (w.heap.size + 1) (by simp)).trans A1.out
  have B2 := (hb1.block (w.heap.size + 1 + 1) (by simp)).trans A2.out
  have hbl1 := below_step hb0 hb1
  have hsz1 : w.heap.size + 3 ≤ w1.heap.size := by have := hb1.size; simpa using this
  clear hb0 hb1 A0 A1 A2 HP
  have hbl2 := below_alloc hbl1 (.cells #[.slice none 0 0] 123)
  have hw2 : WrAt (w1.alloc (.cells #[.slice none 0 0] 123)) w1.heap.size w1.heap.size [] := ⟨none, 0, heap_alloc_new w1 _, World.ownsRow_nil _ _ _ _⟩
  have C0 := (Below.heap_alloc w1 (.cells #[.slice none 0 0] 123) w.heap.size (by omega)).trans B0
  have C1 := (Below.heap_alloc w1 (.cells #[.slice none 0 0] 123) (w.heap.size + 1) (by omega)).trans B1
  have C2 := (Below.heap_alloc w1 (.cells #[.slice none 0 0] 123) (w.heap.size + 1 + 1) (by omega)).trans B2
  have HB2 := Lib.hid (HB.out _ _ _ _ hw2 (by simp) (Nat.le_refl _) (by simp) (HM.out.ever hbl2 (by omega)) (HG.out.ever hbl2 (by omega)) (HX.out.ever hbl2 (by omega)))
  go_wp2_with (refine wpList_load_row rfl 73 (.tmp 1) rfl w.heap.size (by simp [Act.eval]) 73 _ (0, 0) _ C0 Try.underlying73 rfl info73 ?_)
  refine HB2.out.mono ?_
  rintro e w3 ⟨rfl, hw3, hb3⟩
  have D0 := (hb3.block w.heap.size (by omega)).trans C0
  have D1 := (hb3.block (w.heap.size + 1) (by omega)).trans C1
  have D2 := (hb3.block (w.heap.size + 1 + 1) (by omega)).trans C2
  have hbl3 := hbl2.trans (hb3.mono (by omega))
  have hsz3 := hbl3.size
  have hg3 : w1.heap.size < w3.heap.size := hw3.lt
  obtain ⟨A5, C5, q0, q1, q2, q3, q4⟩ := hw3.parts
  obtain ⟨k5, rfl⟩ : ∃ k5, A5 = some ⟨k5, 0, none⟩ := by
    rcases q2.2 with ⟨ha, hn⟩ | ⟨k5, cap, cur, ha, _⟩
    · have : b.length = 0 := by simpa using hn
      omega
    · injection ha with ha; exact ⟨k5, ha⟩
  have hrd0 := own_rd q2
  have hkb := own_base q2 (k := k5) rfl
  simp only [List.nil_append] at hrd0 q0 q4
  have k0 := cell_of_row _ _ 0 _ _ _ D0
  have k1 := cell_of_row _ _ 1 _ _ _ D0
  have k2 := cell_of_row _ _ 2 _ _ _ D0
  simp at k0 k1 k2
  have d1 := blk_cell D1
  have d2 := blk_frozen D1
  have d3 := blk_cell D2
  have d4 := blk_frozen D2
  have hD1 := Lib.hid D1
  have hD2 := Lib.hid D2
  clear C0 C1 C2 B0 B1 B2 HB2 HB hw2 hb3 D0 D1 D2 q2 q3 q4 hw3 HM HG HX
  go_wp2_with fail
  have hrd : RdB w3 (some ⟨k5, 0, none⟩) C5 b := hrd0
  have hrdd : RdB w3.drew (some ⟨k5, 0, none⟩) C5 b := hrd0
  have k0d : w3.drew.cell? ⟨w.heap.size, 0, none⟩ = some (.int .i64 kind) := k0
  have k1d : w3.drew.cell? ⟨w.heap.size, 1, none⟩ = some (.int .i64 src) := k1
  have k2d : w3.drew.cell? ⟨w.heap.size, 2, none⟩ = some (.int .i64 dst) := k2
  have q0d : w3.drew.cell? ⟨w1.heap.size, 0, none⟩ = some (.slice (some ⟨k5, 0, none⟩) b.length C5) := q0
  have d1d : w3.drew.cell? ⟨w.heap.size + 1, 0, none⟩ = some (.string ⟨#[]⟩) := d1
  have d3d : w3.drew.cell? ⟨w.heap.size + 1 + 1, 0, none⟩ = some (.int .i64 0) := d3
  have h1lt : w.heap.size + 1 < w3.heap.size := by omega
  have h2lt : w.heap.size + 1 + 1 < w3.heap.size := by omega
  have n1 : w.heap.size ≠ w.heap.size + 1 := by omega
  have n2 : w.heap.size ≠ w.heap.size + 1 + 1 := by omega
  have n3 : w1.heap.size ≠ w.heap.size + 1 := by omega
  have n4 : w1.heap.size ≠ w.heap.size + 1 + 1 := by omega
  have hk1 : k5 ≠ w.heap.size + 1 := by omega
  have hk2 : k5 ≠ w.heap.size + 1 + 1 := by omega
  go_region_held3 (fun w' => w'.cell? ⟨w.heap.size, 0, none⟩ = some (.int .i64 kind) ∧ w'.cell? ⟨w.heap.size, 1, none⟩ = some (.int .i64 src) ∧ w'.cell? ⟨w.heap.size, 2, none⟩ = some (.int .i64 dst) ∧ w'.cell? ⟨w1.heap.size, 0, none⟩ = some (.slice (some ⟨k5, 0, none⟩) b.length C5) ∧ (Go.convert 30 9 (.slice (some ⟨k5, 0, none⟩) b.length C5)).run Try.prog w' = .ok (.string ⟨b.toArray⟩) w') (first | exact ⟨k0, k1, k2, q0, RdB.convert hrdd _ rfl⟩ | exact ⟨k0, k1, k2, q0, hrd.convert _ rfl⟩ | exact ⟨k0', k1', k2', q0', hrd'.convert _ rfl⟩ | exact ⟨cell_other k0' n1, cell_other k1' n1, cell_other k2' n1, cell_other q0' n3, (hrd'.set hk1 _).convert _ rfl⟩ | exact ⟨cell_other k0' n2, cell_other k1' n2, cell_other k2' n2, cell_other q0' n4, (hrd'.set hk2 _).convert _ rfl⟩ | exact ⟨cell_other (cell_other k0' n1) n2, cell_other (cell_other k1' n1) n2, cell_other (cell_other k2' n1) n2, cell_other (cell_other q0' n3) n4, ((hrd'.set hk1 _).set hk2 _).convert _ rfl⟩ | exact ⟨cell_other (cell_other k0' n2) n1, cell_other (cell_other k1' n2) n1, cell_other (cell_other k2' n2) n1, cell_other (cell_other q0' n4) n3, ((hrd'.set hk2 _).set hk1 _).convert _ rfl⟩) ((go_at_call 29; refine (HQ.out _).mono ?_; rintro e w4 ⟨rfl, hb4⟩; have k0' := cell_keep k0d hb4; have k1' := cell_keep k1d hb4; have k2' := cell_keep k2d hb4; have q0' := cell_keep q0d hb4; have d1' := cell_keep d1d hb4; have d3' := cell_keep d3d hb4; have hrd' := RdB.keep hrdd hb4; have d2' : w4.frozen? ⟨w.heap.size + 1, 0, none⟩ = false := (hb4.frozen (p := ⟨w.heap.size + 1, 0, none⟩) h1lt).trans d2; have d4' : w4.frozen? ⟨w.heap.size + 1 + 1, 0, none⟩ = false := (hb4.frozen (p := ⟨w.heap.size + 1 + 1, 0, none⟩) h2lt).trans d4))
  have hbl4 := below_step (below_drew hbl3) hb4
  generalize hS : printS kind src dst ⟨b.toArray⟩ = S at *
  generalize hE : printE kind src dst ⟨b.toArray⟩ = E at *
  have z1 := World.cell?_setCell_same _ _ (.string S) d1'
  have z2 : (w4.setCell ⟨w.heap.size + 1, 0, none⟩ (.string S)).cell? ⟨w.heap.size + 1 + 1, 0, none⟩ = some (.int .i64 0) := cell_other d3' (by omega)
  have z3 := World.cell?_setCell_same _ _ (.int .i64 E) z2
  have z4 : ((w4.setCell ⟨w.heap.size + 1, 0, none⟩ (.string S)).setCell ⟨w.heap.size + 1 + 1, 0, none⟩ (.int .i64 E)).cell? ⟨w.heap.size + 1, 0, none⟩ = some (.string S) := cell_other z1 (by omega)
  go_wp2_with fail
  refine leaves_cons (f := 77) (args := #[.pointer (some ⟨w.heap.size + 1, 0, none⟩), .pointer (some ⟨w.heap.size + 1 + 1, 0, none⟩)]) (by simp) (by simp [go_sem]) ?_
  refine (pcatch_idle _ _ _).mono ?_
  rintro e u' w'' ⟨rfl, rfl, rfl⟩
  simp [Leaves, settle, results, Try.results49, go_sem, z1, z2, z3, z4]
  exact ⟨⟨hS.symm, hE.symm⟩, (hbl4.setCell (p := ⟨w.heap.size + 1, 0, none⟩) (by simp) _).setCell (p := ⟨w.heap.size + 1 + 1, 0, none⟩) (by simp; omega) _⟩

theorem pprint_whole (p : Pk) (Am : Option Addr) (cm : Nat) (Ag : Option Addr) (cg : Nat) (Ax : Option Addr) (cx : Nat) (w : World) (hf : p.fits) (hm : PerU w Am p.m.deps) (hgo : PerU w Ag p.got) (hx : PerX w Ax p.x) :
    Calls Try.prog 49 #[pkV p Am cm Ag cg Ax cx] w fun e w' => e = .returned (.tuple #[.string (printP p).1, .int .i64 (printP p).2]) ∧ Below w.heap.size w w' := by
  unfold printP
  by_cases he : printE p.kind p.src p.dst ⟨#[]⟩ = 0
  · rw [if_neg (by simpa using he)]
    cases hb : bodyW p with
    | error c => exact pprint_err p Am cm Ag cg Ax cx w hf hm hgo hx he c hb
    | ok b => exact pprint_ok p Am cm Ag cg Ax cx w hf hm hgo hx he b hb
  · rw [if_pos he]
    exact pprint_no p Am cm Ag cg Ax cx w hf hm hgo hx he
end Go.Proofs.Ythkfgjdbgnbjkaa
