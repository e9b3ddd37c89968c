/- The walk of the reference's taker: field. (Printed by pktf.py.) -/
import Derived.Test.YthkfgjdbgnbjkaaPkTr
namespace Go.Proofs.Ythkfgjdbgnbjkaa
open Go.RowKit Go.Sort
set_option linter.unusedSimpArgs false
set_option linter.unusedVariables false

set_option maxHeartbeats 3200000 in
set_option maxRecDepth 8000 in
theorem tfield_m1 (g : Nat) (s : ByteArray) (m : Nat) (st : St) (p : Pk) (Am : Option Addr) (cm : Nat) (Ag : Option Addr) (cg : Nat) (Ax : Option Addr) (cx : Nat) (B : Nat) (w : World) (h : Tk w g s m st) (hs : s.size ≤ 1000000) (hm : m ≤ 1600000)
    (hgB : g < B) (hB : B ≤ w.heap.size) (hr : PkRows w B p Am cm Ag cg Ax cx) (hk : p.kind = 9) :
    Calls Try.prog 71 #[.pointer (some ⟨g, 0, none⟩), .int .u8 109, pkV p Am cm Ag cg Ax cx] w (TF g s m st B (fieldP 109 p) (some (p.x, Ax, cx)) w) := by
  obtain ⟨kind, src, dst, ⟨ce, cr⟩, ⟨mf, ms, mt, mv, md, my⟩, stamp, sent, got, horizon, whom, seq, members, ⟨pe, pr⟩, epoch, x⟩ := p
  obtain ⟨hr1, hr2, hr3⟩ := hr
  dsimp only at *
  obtain ⟨c, hc⟩ : ∃ c : Array Value, c = #[.int .i64 kind, .int .i64 src, .int .i64 dst, .int .u64 (ce : Int), .int .i64 cr, .int .i64 mf, .int .u32 (ms : Int), .int .u64 (mt : Int), .int .i64 mv, .slice Am md.length cm, .string my, .int .u64 (stamp : Int), .int .u32 (sent : Int), .slice Ag got.length cg, .int .u64 (horizon : Int), .int .i64 whom, .int .u32 (seq : Int), .int .u64 (members : Int), .int .u64 (pe : Int), .int .i64 pr, .int .u64 (epoch : Int), .slice Ax x.length cx] := ⟨_, rfl⟩
  rw [show pkV (⟨kind, src, dst, ⟨ce, cr⟩, ⟨mf, ms, mt, mv, md, my⟩, stamp, sent, got, horizon, whom, seq, members, ⟨pe, pr⟩, epoch, x⟩ : Pk) Am cm Ag cg Ax cx = .agg c from by rw [hc]; rfl]
  have HC := Lib.hid hc
  clear hc
  obtain ⟨w1, hw1⟩ : ∃ W, W = ((w.alloc (.cells c 73)).alloc (.cells #[.int .i64 0, .int .i64 0, .int .i64 0, .int .u64 0, .int .i64 0, .int .i64 0, .int .u32 0, .int .u64 0, .int .i64 0, .slice none 0 0, .string ⟨#[]⟩, .int .u64 0, .int .u32 0, .slice none 0 0, .int .u64 0, .int .i64 0, .int .u32 0, .int .u64 0, .int .u64 0, .int .i64 0, .int .u64 0, .slice none 0 0] 73)) := ⟨_, rfl⟩
  have hbel := below_alloc (below_alloc (Below.refl w.heap.size w) (.cells c 73)) (.cells #[.int .i64 0, .int .i64 0, .int .i64 0, .int .u64 0, .int .i64 0, .int .i64 0, .int .u32 0, .int .u64 0, .int .i64 0, .slice none 0 0, .string ⟨#[]⟩, .int .u64 0, .int .u32 0, .slice none 0 0, .int .u64 0, .int .i64 0, .int .u32 0, .int .u64 0, .int .u64 0, .int .i64 0, .int .u64 0, .slice none 0 0] 73)
  rw [← hw1] at hbel
  have hsz : w1.heap.size = w.heap.size + 1 + 1 := by rw [hw1]; simp
  have hg := h.lt
  have n0 : w.heap.size ≠ g := by omega
  have n1 : w.heap.size + 1 ≠ g := by omega
  have H0_1 : Hid (w1.heap[w.heap.size]? = some (.cells c 73 (0, 0))) := Lib.hid (by rw [hw1]; exact (Below.heap_alloc _ _ _ (by simp)).trans (heap_alloc_new w _))
  have H1_1 : Hid (w1.heap[w.heap.size + 1]? = some (.cells #[.int .i64 0, .int .i64 0, .int .i64 0, .int .u64 0, .int .i64 0, .int .i64 0, .int .u32 0, .int .u64 0, .int .i64 0, .slice none 0 0, .string ⟨#[]⟩, .int .u64 0, .int .u32 0, .slice none 0 0, .int .u64 0, .int .i64 0, .int .u32 0, .int .u64 0, .int .u64 0, .int .i64 0, .int .u64 0, .slice none 0 0] 73 (0, 0))) := Lib.hid (by rw [hw1, show w.heap.size + 1 = (w.alloc (.cells c 73)).heap.size by simp]; exact heap_alloc_new _ _)
  have HT1 := Lib.hid (h.kept hbel)
  have HO1 := Lib.hid (Only.of_below (g := g) hbel)
  have HW1 := Lib.hid hw1
  have R1 := Lib.hid hr1
  have R2 := Lib.hid hr2
  have R3 := Lib.hid hr3
  have hdk : (kind == 9) = true := by simpa using hk
  have i1 : ((w.alloc (.cells c 73)).alloc (.cells #[.int .i64 0, .int .i64 0, .int .i64 0, .int .u64 0, .int .i64 0, .int .i64 0, .int .u32 0, .int .u64 0, .int .i64 0, .slice none 0 0, .string ⟨#[]⟩, .int .u64 0, .int .u32 0, .slice none 0 0, .int .u64 0, .int .i64 0, .int .u32 0, .int .u64 0, .int .u64 0, .int .i64 0, .int .u64 0, .slice none 0 0] 73)).cell? ⟨w.heap.size, 1, none⟩ = some (.int .i64 src) := (cell_of_row _ _ 1 _ _ _ ((Below.heap_alloc _ _ _ (by simp)).trans (heap_alloc_new w _))).trans (by rw [HC.out]; rfl)
  have i0 : ((w.alloc (.cells c 73)).alloc (.cells #[.int .i64 0, .int .i64 0, .int .i64 0, .int .u64 0, .int .i64 0, .int .i64 0, .int .u32 0, .int .u64 0, .int .i64 0, .slice none 0 0, .string ⟨#[]⟩, .int .u64 0, .int .u32 0, .slice none 0 0, .int .u64 0, .int .i64 0, .int .u32 0, .int .u64 0, .int .u64 0, .int .i64 0, .int .u64 0, .slice none 0 0] 73)).cell? ⟨w.heap.size, 0, none⟩ = some (.int .i64 kind) := (cell_of_row _ _ 0 _ _ _ ((Below.heap_alloc _ _ _ (by simp)).trans (heap_alloc_new w _))).trans (by rw [HC.out]; rfl)
  have i15 : ((w.alloc (.cells c 73)).alloc (.cells #[.int .i64 0, .int .i64 0, .int .i64 0, .int .u64 0, .int .i64 0, .int .i64 0, .int .u32 0, .int .u64 0, .int .i64 0, .slice none 0 0, .string ⟨#[]⟩, .int .u64 0, .int .u32 0, .slice none 0 0, .int .u64 0, .int .i64 0, .int .u32 0, .int .u64 0, .int .u64 0, .int .i64 0, .int .u64 0, .slice none 0 0] 73)).cell? ⟨w.heap.size, 15, none⟩ = some (.int .i64 whom) := (cell_of_row _ _ 15 _ _ _ ((Below.heap_alloc _ _ _ (by simp)).trans (heap_alloc_new w _))).trans (by rw [HC.out]; rfl)
  have HK := Lib.hid hk
  clear hk
  clear h hr1 hr2 hr3 hw1 hbel
  go_enter Try.func71, Try.ntmps71
  go_wp2_with fail
  rw [← HW1.out]
  clear hdk i1 i0 i15
  refine (tmsg g s m st whom w1 HT1.out hs (by omega)).mono ?_
  rintro e w2 ⟨⟨f2, s2, t2, v2, d2, y2⟩, A, cc, st2, rfl, hown, hvia, hT, ho⟩
  dsimp only at hown
  unfold msV
  have HN2 := Lib.hid hown
  clear hown
  have H0_2 : Hid (w2.heap[w.heap.size]? = some (.cells c 73 (0, 0))) := Lib.hid ((ho.block w.heap.size (by omega) (by simpa using n0)).trans H0_1.out)
  have H1_2 : Hid (w2.heap[w.heap.size + 1]? = some (.cells #[.int .i64 0, .int .i64 0, .int .i64 0, .int .u64 0, .int .i64 0, .int .i64 0, .int .u32 0, .int .u64 0, .int .i64 0, .slice none 0 0, .string ⟨#[]⟩, .int .u64 0, .int .u32 0, .slice none 0 0, .int .u64 0, .int .i64 0, .int .u32 0, .int .u64 0, .int .u64 0, .int .i64 0, .int .u64 0, .slice none 0 0] 73 (0, 0))) := Lib.hid ((ho.block (w.heap.size + 1) (by omega) (by simpa using n1)).trans H1_1.out)
  have HT2 := Lib.hid hT
  have HO2 := Lib.hid (HO1.out.trans ho)
  have HV := Lib.hid hvia
  clear hT ho hvia H0_1 H1_1 HT1 HO1
  have k5 : w2.cell? ⟨w.heap.size, 5, none⟩ = some (.int .i64 mf) := (cell_of_row _ _ 5 _ _ _ H0_2.out).trans (by rw [HC.out]; rfl)
  have f5 : w2.frozen? ⟨w.heap.size, 5, none⟩ = false := by simp only [World.frozen?, H0_2.out]; rfl
  have k6 : w2.cell? ⟨w.heap.size, 6, none⟩ = some (.int .u32 (ms : Int)) := (cell_of_row _ _ 6 _ _ _ H0_2.out).trans (by rw [HC.out]; rfl)
  have f6 : w2.frozen? ⟨w.heap.size, 6, none⟩ = false := by simp only [World.frozen?, H0_2.out]; rfl
  have k7 : w2.cell? ⟨w.heap.size, 7, none⟩ = some (.int .u64 (mt : Int)) := (cell_of_row _ _ 7 _ _ _ H0_2.out).trans (by rw [HC.out]; rfl)
  have f7 : w2.frozen? ⟨w.heap.size, 7, none⟩ = false := by simp only [World.frozen?, H0_2.out]; rfl
  have k8 : w2.cell? ⟨w.heap.size, 8, none⟩ = some (.int .i64 mv) := (cell_of_row _ _ 8 _ _ _ H0_2.out).trans (by rw [HC.out]; rfl)
  have f8 : w2.frozen? ⟨w.heap.size, 8, none⟩ = false := by simp only [World.frozen?, H0_2.out]; rfl
  have k9 : w2.cell? ⟨w.heap.size, 9, none⟩ = some (.slice Am md.length cm) := (cell_of_row _ _ 9 _ _ _ H0_2.out).trans (by rw [HC.out]; rfl)
  have f9 : w2.frozen? ⟨w.heap.size, 9, none⟩ = false := by simp only [World.frozen?, H0_2.out]; rfl
  have k10 : w2.cell? ⟨w.heap.size, 10, none⟩ = some (.string my) := (cell_of_row _ _ 10 _ _ _ H0_2.out).trans (by rw [HC.out]; rfl)
  have f10 : w2.frozen? ⟨w.heap.size, 10, none⟩ = false := by simp only [World.frozen?, H0_2.out]; rfl
  obtain ⟨W, hW⟩ : ∃ W, W = ((((((w2.setCell ⟨w.heap.size, 5, none⟩ (.int .i64 f2)).setCell ⟨w.heap.size, 6, none⟩ (.int .u32 (s2 : Int))).setCell ⟨w.heap.size, 7, none⟩ (.int .u64 (t2 : Int))).setCell ⟨w.heap.size, 8, none⟩ (.int .i64 v2)).setCell ⟨w.heap.size, 9, none⟩ (.slice A d2.length cc)).setCell ⟨w.heap.size, 10, none⟩ (.string y2)) := ⟨_, rfl⟩
  have RA : W.heap[w.heap.size]? = some (.cells #[.int .i64 kind, .int .i64 src, .int .i64 dst, .int .u64 (ce : Int), .int .i64 cr, .int .i64 f2, .int .u32 (s2 : Int), .int .u64 (t2 : Int), .int .i64 v2, .slice A d2.length cc, .string y2, .int .u64 (stamp : Int), .int .u32 (sent : Int), .slice Ag got.length cg, .int .u64 (horizon : Int), .int .i64 whom, .int .u32 (seq : Int), .int .u64 (members : Int), .int .u64 (pe : Int), .int .i64 pr, .int .u64 (epoch : Int), .slice Ax x.length cx] 73 (0, 0)) := by
    rw [hW]
    refine (blk_setj (blk_setj (blk_setj (blk_setj (blk_setj (blk_setj H0_2.out 5 (.int .i64 f2)) 6 (.int .u32 (s2 : Int))) 7 (.int .u64 (t2 : Int))) 8 (.int .i64 v2)) 9 (.slice A d2.length cc)) 10 (.string y2)).trans ?_
    rw [HC.out]
    rfl
  have RB : W.heap[w.heap.size + 1]? = some (.cells #[.int .i64 0, .int .i64 0, .int .i64 0, .int .u64 0, .int .i64 0, .int .i64 0, .int .u32 0, .int .u64 0, .int .i64 0, .slice none 0 0, .string ⟨#[]⟩, .int .u64 0, .int .u32 0, .slice none 0 0, .int .u64 0, .int .i64 0, .int .u32 0, .int .u64 0, .int .u64 0, .int .i64 0, .int .u64 0, .slice none 0 0] 73 (0, 0)) := by rw [hW]; exact ((Below.heap_setCell _ ⟨w.heap.size, 10, none⟩ (.string y2) (w.heap.size + 1) (by simp)).trans ((Below.heap_setCell _ ⟨w.heap.size, 9, none⟩ (.slice A d2.length cc) (w.heap.size + 1) (by simp)).trans ((Below.heap_setCell _ ⟨w.heap.size, 8, none⟩ (.int .i64 v2) (w.heap.size + 1) (by simp)).trans ((Below.heap_setCell _ ⟨w.heap.size, 7, none⟩ (.int .u64 (t2 : Int)) (w.heap.size + 1) (by simp)).trans ((Below.heap_setCell _ ⟨w.heap.size, 6, none⟩ (.int .u32 (s2 : Int)) (w.heap.size + 1) (by simp)).trans ((Below.heap_setCell _ ⟨w.heap.size, 5, none⟩ (.int .i64 f2) (w.heap.size + 1) (by simp)).trans H1_2.out))))))
  have HT3 : Hid (Tk W g s _ _) := Lib.hid (by rw [hW]; exact ((((((HT2.out.set n0 5 (.int .i64 f2)).set n0 6 (.int .u32 (s2 : Int))).set n0 7 (.int .u64 (t2 : Int))).set n0 8 (.int .i64 v2)).set n0 9 (.slice A d2.length cc)).set n0 10 (.string y2)))
  have HO3 : Hid (Only g w W) := Lib.hid (by rw [hW]; exact ((((((HO2.out.fresh (Nat.le_refl _) 5 (.int .i64 f2)).fresh (Nat.le_refl _) 6 (.int .u32 (s2 : Int))).fresh (Nat.le_refl _) 7 (.int .u64 (t2 : Int))).fresh (Nat.le_refl _) 8 (.int .i64 v2)).fresh (Nat.le_refl _) 9 (.slice A d2.length cc)).fresh (Nat.le_refl _) 10 (.string y2)))
  have HN : Hid (W.ownsRow w1.heap.size 25 1 (.slice A d2.length cc) d2.length (uvals d2)) := Lib.hid (by rw [hW]; exact (own_keep_set (own_keep_set (own_keep_set (own_keep_set (own_keep_set (own_keep_set HN2.out (by omega) 5 (.int .i64 f2)) (by omega) 6 (.int .u32 (s2 : Int))) (by omega) 7 (.int .u64 (t2 : Int))) (by omega) 8 (.int .i64 v2)) (by omega) 9 (.slice A d2.length cc)) (by omega) 10 (.string y2)))
  have HWE := Lib.hid hW
  clear hW
  have mk := True.intro
  go_wp2_with (first | (clear mk; rw [← HWE.out]; refine wpList_load_row rfl 73 (.tmp 5) rfl w.heap.size (by simp [Act.eval, Act.put]) 73 #[.int .i64 kind, .int .i64 src, .int .i64 dst, .int .u64 (ce : Int), .int .i64 cr, .int .i64 f2, .int .u32 (s2 : Int), .int .u64 (t2 : Int), .int .i64 v2, .slice A d2.length cc, .string y2, .int .u64 (stamp : Int), .int .u32 (sent : Int), .slice Ag got.length cg, .int .u64 (horizon : Int), .int .i64 whom, .int .u32 (seq : Int), .int .u64 (members : Int), .int .u64 (pe : Int), .int .i64 pr, .int .u64 (epoch : Int), .slice Ax x.length cx] (0, 0) _ RA Try.underlying73 rfl info73 ?_; have mk2 := True.intro) | (clear mk2; refine wpList_store_row rfl 73 (.tmp 6) (.tmp 110) rfl (w.heap.size + 1) #[.int .i64 kind, .int .i64 src, .int .i64 dst, .int .u64 (ce : Int), .int .i64 cr, .int .i64 f2, .int .u32 (s2 : Int), .int .u64 (t2 : Int), .int .i64 v2, .slice A d2.length cc, .string y2, .int .u64 (stamp : Int), .int .u32 (sent : Int), .slice Ag got.length cg, .int .u64 (horizon : Int), .int .i64 whom, .int .u32 (seq : Int), .int .u64 (members : Int), .int .u64 (pe : Int), .int .i64 pr, .int .u64 (epoch : Int), .slice Ax x.length cx] (by simp [Act.eval, Act.put]) (by simp [Act.eval, Act.put]) 73 #[.int .i64 0, .int .i64 0, .int .i64 0, .int .u64 0, .int .i64 0, .int .i64 0, .int .u32 0, .int .u64 0, .int .i64 0, .slice none 0 0, .string ⟨#[]⟩, .int .u64 0, .int .u32 0, .slice none 0 0, .int .u64 0, .int .i64 0, .int .u32 0, .int .u64 0, .int .u64 0, .int .i64 0, .int .u64 0, .slice none 0 0] RB info73 rfl (by kernel_rfl) ?_))
  have hf := setRow_heap W (w.heap.size + 1) #[.int .i64 0, .int .i64 0, .int .i64 0, .int .u64 0, .int .i64 0, .int .i64 0, .int .u32 0, .int .u64 0, .int .i64 0, .slice none 0 0, .string ⟨#[]⟩, .int .u64 0, .int .u32 0, .slice none 0 0, .int .u64 0, .int .i64 0, .int .u32 0, .int .u64 0, .int .u64 0, .int .i64 0, .int .u64 0, .slice none 0 0] #[.int .i64 kind, .int .i64 src, .int .i64 dst, .int .u64 (ce : Int), .int .i64 cr, .int .i64 f2, .int .u32 (s2 : Int), .int .u64 (t2 : Int), .int .i64 v2, .slice A d2.length cc, .string y2, .int .u64 (stamp : Int), .int .u32 (sent : Int), .slice Ag got.length cg, .int .u64 (horizon : Int), .int .i64 whom, .int .u32 (seq : Int), .int .u64 (members : Int), .int .u64 (pe : Int), .int .i64 pr, .int .u64 (epoch : Int), .slice Ax x.length cx] 73 (0, 0) RB
  have hO := only_setRow (k := w.heap.size + 1) HO3.out (by omega) #[.int .i64 kind, .int .i64 src, .int .i64 dst, .int .u64 (ce : Int), .int .i64 cr, .int .i64 f2, .int .u32 (s2 : Int), .int .u64 (t2 : Int), .int .i64 v2, .slice A d2.length cc, .string y2, .int .u64 (stamp : Int), .int .u32 (sent : Int), .slice Ag got.length cg, .int .u64 (horizon : Int), .int .i64 whom, .int .u32 (seq : Int), .int .u64 (members : Int), .int .u64 (pe : Int), .int .i64 pr, .int .u64 (epoch : Int), .slice Ax x.length cx]
  refine bodyPost_ret (v := .agg #[.int .i64 kind, .int .i64 src, .int .i64 dst, .int .u64 (ce : Int), .int .i64 cr, .int .i64 f2, .int .u32 (s2 : Int), .int .u64 (t2 : Int), .int .i64 v2, .slice A d2.length cc, .string y2, .int .u64 (stamp : Int), .int .u32 (sent : Int), .slice Ag got.length cg, .int .u64 (horizon : Int), .int .i64 whom, .int .u32 (seq : Int), .int .u64 (members : Int), .int .u64 (pe : Int), .int .i64 pr, .int .u64 (epoch : Int), .slice Ax x.length cx]) (results_cell_row Try.results71 _ _ _ _ _ _ _ (by simp [Act.put]) hf Try.underlying73 rfl info73) rfl ?_
  refine ⟨⟨kind, src, dst, ⟨ce, cr⟩, ⟨f2, s2, t2, v2, d2, y2⟩, stamp, sent, got, horizon, whom, seq, members, ⟨pe, pr⟩, epoch, x⟩, A, cc, Ag, cg, Ax, cx, _, rfl, ⟨own_low_any (own_setRow HN.out (by omega) _) (by omega), own_keep_only R2.out hO hgB, XOwn.keep_only R3.out hO hgB⟩, ?_, (tk_setRow HT3.out n1 #[.int .i64 kind, .int .i64 src, .int .i64 dst, .int .u64 (ce : Int), .int .i64 cr, .int .i64 f2, .int .u32 (s2 : Int), .int .u64 (t2 : Int), .int .i64 v2, .slice A d2.length cc, .string y2, .int .u64 (stamp : Int), .int .u32 (sent : Int), .slice Ag got.length cg, .int .u64 (horizon : Int), .int .i64 whom, .int .u32 (seq : Int), .int .u64 (members : Int), .int .u64 (pe : Int), .int .i64 pr, .int .u64 (epoch : Int), .slice Ax x.length cx]).mono (by omega), hO, fun _ h => by cases h; rfl⟩
  rw [show fieldP 109 (⟨kind, src, dst, ⟨ce, cr⟩, ⟨mf, ms, mt, mv, md, my⟩, stamp, sent, got, horizon, whom, seq, members, ⟨pe, pr⟩, epoch, x⟩ : Pk) = (fun l => andP (msgP whom l) fun z r => .ok ((⟨kind, src, dst, ⟨ce, cr⟩, z, stamp, sent, got, horizon, whom, seq, members, ⟨pe, pr⟩, epoch, x⟩ : Pk), r)) from by
    show (fun l => andP (msgP (if kind = 9 then whom else src) l) fun z r => .ok ((⟨kind, src, dst, ⟨ce, cr⟩, z, stamp, sent, got, horizon, whom, seq, members, ⟨pe, pr⟩, epoch, x⟩ : Pk), r)) = _
    rw [if_pos HK.out]]
  exact via_and (P := msgP whom) (Q := fun z r => .ok ((⟨kind, src, dst, ⟨ce, cr⟩, z, stamp, sent, got, horizon, whom, seq, members, ⟨pe, pr⟩, epoch, x⟩ : Pk), r)) HV.out

set_option maxHeartbeats 3200000 in
set_option maxRecDepth 8000 in
theorem tfield_m0 (g : Nat) (s : ByteArray) (m : Nat) (st : St) (p : Pk) (Am : Option Addr) (cm : Nat) (Ag : Option Addr) (cg : Nat) (Ax : Option Addr) (cx : Nat) (B : Nat) (w : World) (h : Tk w g s m st) (hs : s.size ≤ 1000000) (hm : m ≤ 1600000)
    (hgB : g < B) (hB : B ≤ w.heap.size) (hr : PkRows w B p Am cm Ag cg Ax cx) (hk : ¬ p.kind = 9) :
    Calls Try.prog 71 #[.pointer (some ⟨g, 0, none⟩), .int .u8 109, pkV p Am cm Ag cg Ax cx] w (TF g s m st B (fieldP 109 p) (some (p.x, Ax, cx)) w) := by
  obtain ⟨kind, src, dst, ⟨ce, cr⟩, ⟨mf, ms, mt, mv, md, my⟩, stamp, sent, got, horizon, whom, seq, members, ⟨pe, pr⟩, epoch, x⟩ := p
  obtain ⟨hr1, hr2, hr3⟩ := hr
  dsimp only at *
  obtain ⟨c, hc⟩ : ∃ c : Array Value, c = #[.int .i64 kind, .int .i64 src, .int .i64 dst, .int .u64 (ce : Int), .int .i64 cr, .int .i64 mf, .int .u32 (ms : Int), .int .u64 (mt : Int), .int .i64 mv, .slice Am md.length cm, .string my, .int .u64 (stamp : Int), .int .u32 (sent : Int), .slice Ag got.length cg, .int .u64 (horizon : Int), .int .i64 whom, .int .u32 (seq : Int), .int .u64 (members : Int), .int .u64 (pe : Int), .int .i64 pr, .int .u64 (epoch : Int), .slice Ax x.length cx] := ⟨_, rfl⟩
  rw [show pkV (⟨kind, src, dst, ⟨ce, cr⟩, ⟨mf, ms, mt, mv, md, my⟩, stamp, sent, got, horizon, whom, seq, members, ⟨pe, pr⟩, epoch, x⟩ : Pk) Am cm Ag cg Ax cx = .agg c from by rw [hc]; rfl]
  have HC := Lib.hid hc
  clear hc
  obtain ⟨w1, hw1⟩ : ∃ W, W = ((w.alloc (.cells c 73)).alloc (.cells #[.int .i64 0, .int .i64 0, .int .i64 0, .int .u64 0, .int .i64 0, .int .i64 0, .int .u32 0, .int .u64 0, .int .i64 0, .slice none 0 0, .string ⟨#[]⟩, .int .u64 0, .int .u32 0, .slice none 0 0, .int .u64 0, .int .i64 0, .int .u32 0, .int .u64 0, .int .u64 0, .int .i64 0, .int .u64 0, .slice none 0 0] 73)) := ⟨_, rfl⟩
  have hbel := below_alloc (below_alloc (Below.refl w.heap.size w) (.cells c 73)) (.cells #[.int .i64 0, .int .i64 0, .int .i64 0, .int .u64 0, .int .i64 0, .int .i64 0, .int .u32 0, .int .u64 0, .int .i64 0, .slice none 0 0, .string ⟨#[]⟩, .int .u64 0, .int .u32 0, .slice none 0 0, .int .u64 0, .int .i64 0, .int .u32 0, .int .u64 0, .int .u64 0, .int .i64 0, .int .u64 0, .slice none 0 0] 73)
  rw [← hw1] at hbel
  have hsz : w1.heap.size = w.heap.size + 1 + 1 := by rw [hw1]; simp
  have hg := h.lt
  have n0 : w.heap.size ≠ g := by omega
  have n1 : w.heap.size + 1 ≠ g := by omega
  have H0_1 : Hid (w1.heap[w.heap.size]? = some (.cells c 73 (0, 0))) := Lib.hid (by rw [hw1]; exact (Below.heap_alloc _ _ _ (by simp)).trans (heap_alloc_new w _))
  have H1_1 : Hid (w1.heap[w.heap.size + 1]? = some (.cells #[.int .i64 0, .int .i64 0, .int .i64 0, .int .u64 0, .int .i64 0, .int .i64 0, .int .u32 0, .int .u64 0, .int .i64 0, .slice none 0 0, .string ⟨#[]⟩, .int .u64 0, .int .u32 0, .slice none 0 0, .int .u64 0, .int .i64 0, .int .u32 0, .int .u64 0, .int .u64 0, .int .i64 0, .int .u64 0, .slice none 0 0] 73 (0, 0))) := Lib.hid (by rw [hw1, show w.heap.size + 1 = (w.alloc (.cells c 73)).heap.size by simp]; exact heap_alloc_new _ _)
  have HT1 := Lib.hid (h.kept hbel)
  have HO1 := Lib.hid (Only.of_below (g := g) hbel)
  have HW1 := Lib.hid hw1
  have R1 := Lib.hid hr1
  have R2 := Lib.hid hr2
  have R3 := Lib.hid hr3
  have hdk : (kind == 9) = false := by simpa using hk
  have i1 : ((w.alloc (.cells c 73)).alloc (.cells #[.int .i64 0, .int .i64 0, .int .i64 0, .int .u64 0, .int .i64 0, .int .i64 0, .int .u32 0, .int .u64 0, .int .i64 0, .slice none 0 0, .string ⟨#[]⟩, .int .u64 0, .int .u32 0, .slice none 0 0, .int .u64 0, .int .i64 0, .int .u32 0, .int .u64 0, .int .u64 0, .int .i64 0, .int .u64 0, .slice none 0 0] 73)).cell? ⟨w.heap.size, 1, none⟩ = some (.int .i64 src) := (cell_of_row _ _ 1 _ _ _ ((Below.heap_alloc _ _ _ (by simp)).trans (heap_alloc_new w _))).trans (by rw [HC.out]; rfl)
  have i0 : ((w.alloc (.cells c 73)).alloc (.cells #[.int .i64 0, .int .i64 0, .int .i64 0, .int .u64 0, .int .i64 0, .int .i64 0, .int .u32 0, .int .u64 0, .int .i64 0, .slice none 0 0, .string ⟨#[]⟩, .int .u64 0, .int .u32 0, .slice none 0 0, .int .u64 0, .int .i64 0, .int .u32 0, .int .u64 0, .int .u64 0, .int .i64 0, .int .u64 0, .slice none 0 0] 73)).cell? ⟨w.heap.size, 0, none⟩ = some (.int .i64 kind) := (cell_of_row _ _ 0 _ _ _ ((Below.heap_alloc _ _ _ (by simp)).trans (heap_alloc_new w _))).trans (by rw [HC.out]; rfl)
  have HK := Lib.hid hk
  clear hk
  clear h hr1 hr2 hr3 hw1 hbel
  go_enter Try.func71, Try.ntmps71
  go_wp2_with fail
  rw [← HW1.out]
  clear hdk i1 i0
  refine (tmsg g s m st src w1 HT1.out hs (by omega)).mono ?_
  rintro e w2 ⟨⟨f2, s2, t2, v2, d2, y2⟩, A, cc, st2, rfl, hown, hvia, hT, ho⟩
  dsimp only at hown
  unfold msV
  have HN2 := Lib.hid hown
  clear hown
  have H0_2 : Hid (w2.heap[w.heap.size]? = some (.cells c 73 (0, 0))) := Lib.hid ((ho.block w.heap.size (by omega) (by simpa using n0)).trans H0_1.out)
  have H1_2 : Hid (w2.heap[w.heap.size + 1]? = some (.cells #[.int .i64 0, .int .i64 0, .int .i64 0, .int .u64 0, .int .i64 0, .int .i64 0, .int .u32 0, .int .u64 0, .int .i64 0, .slice none 0 0, .string ⟨#[]⟩, .int .u64 0, .int .u32 0, .slice none 0 0, .int .u64 0, .int .i64 0, .int .u32 0, .int .u64 0, .int .u64 0, .int .i64 0, .int .u64 0, .slice none 0 0] 73 (0, 0))) := Lib.hid ((ho.block (w.heap.size + 1) (by omega) (by simpa using n1)).trans H1_1.out)
  have HT2 := Lib.hid hT
  have HO2 := Lib.hid (HO1.out.trans ho)
  have HV := Lib.hid hvia
  clear hT ho hvia H0_1 H1_1 HT1 HO1
  have k5 : w2.cell? ⟨w.heap.size, 5, none⟩ = some (.int .i64 mf) := (cell_of_row _ _ 5 _ _ _ H0_2.out).trans (by rw [HC.out]; rfl)
  have f5 : w2.frozen? ⟨w.heap.size, 5, none⟩ = false := by simp only [World.frozen?, H0_2.out]; rfl
  have k6 : w2.cell? ⟨w.heap.size, 6, none⟩ = some (.int .u32 (ms : Int)) := (cell_of_row _ _ 6 _ _ _ H0_2.out).trans (by rw [HC.out]; rfl)
  have f6 : w2.frozen? ⟨w.heap.size, 6, none⟩ = false := by simp only [World.frozen?, H0_2.out]; rfl
  have k7 : w2.cell? ⟨w.heap.size, 7, none⟩ = some (.int .u64 (mt : Int)) := (cell_of_row _ _ 7 _ _ _ H0_2.out).trans (by rw [HC.out]; rfl)
  have f7 : w2.frozen? ⟨w.heap.size, 7, none⟩ = false := by simp only [World.frozen?, H0_2.out]; rfl
  have k8 : w2.cell? ⟨w.heap.size, 8, none⟩ = some (.int .i64 mv) := (cell_of_row _ _ 8 _ _ _ H0_2.out).trans (by rw [HC.out]; rfl)
  have f8 : w2.frozen? ⟨w.heap.size, 8, none⟩ = false := by simp only [World.frozen?, H0_2.out]; rfl
  have k9 : w2.cell? ⟨w.heap.size, 9, none⟩ = some (.slice Am md.length cm) := (cell_of_row _ _ 9 _ _ _ H0_2.out).trans (by rw [HC.out]; rfl)
  have f9 : w2.frozen? ⟨w.heap.size, 9, none⟩ = false := by simp only [World.frozen?, H0_2.out]; rfl
  have k10 : w2.cell? ⟨w.heap.size, 10, none⟩ = some (.string my) := (cell_of_row _ _ 10 _ _ _ H0_2.out).trans (by rw [HC.out]; rfl)
  have f10 : w2.frozen? ⟨w.heap.size, 10, none⟩ = false := by simp only [World.frozen?, H0_2.out]; rfl
  obtain ⟨W, hW⟩ : ∃ W, W = ((((((w2.setCell ⟨w.heap.size, 5, none⟩ (.int .i64 f2)).setCell ⟨w.heap.size, 6, none⟩ (.int .u32 (s2 : Int))).setCell ⟨w.heap.size, 7, none⟩ (.int .u64 (t2 : Int))).setCell ⟨w.heap.size, 8, none⟩ (.int .i64 v2)).setCell ⟨w.heap.size, 9, none⟩ (.slice A d2.length cc)).setCell ⟨w.heap.size, 10, none⟩ (.string y2)) := ⟨_, rfl⟩
  have RA : W.heap[w.heap.size]? = some (.cells #[.int .i64 kind, .int .i64 src, .int .i64 dst, .int .u64 (ce : Int), .int .i64 cr, .int .i64 f2, .int .u32 (s2 : Int), .int .u64 (t2 : Int), .int .i64 v2, .slice A d2.length cc, .string y2, .int .u64 (stamp : Int), .int .u32 (sent : Int), .slice Ag got.length cg, .int .u64 (horizon : Int), .int .i64 whom, .int .u32 (seq : Int), .int .u64 (members : Int), .int .u64 (pe : Int), .int .i64 pr, .int .u64 (epoch : Int), .slice Ax x.length cx] 73 (0, 0)) := by
    rw [hW]
    refine (blk_setj (blk_setj (blk_setj (blk_setj (blk_setj (blk_setj H0_2.out 5 (.int .i64 f2)) 6 (.int .u32 (s2 : Int))) 7 (.int .u64 (t2 : Int))) 8 (.int .i64 v2)) 9 (.slice A d2.length cc)) 10 (.string y2)).trans ?_
    rw [HC.out]
    rfl
  have RB : W.heap[w.heap.size + 1]? = some (.cells #[.int .i64 0, .int .i64 0, .int .i64 0, .int .u64 0, .int .i64 0, .int .i64 0, .int .u32 0, .int .u64 0, .int .i64 0, .slice none 0 0, .string ⟨#[]⟩, .int .u64 0, .int .u32 0, .slice none 0 0, .int .u64 0, .int .i64 0, .int .u32 0, .int .u64 0, .int .u64 0, .int .i64 0, .int .u64 0, .slice none 0 0] 73 (0, 0)) := by rw [hW]; exact ((Below.heap_setCell _ ⟨w.heap.size, 10, none⟩ (.string y2) (w.heap.size + 1) (by simp)).trans ((Below.heap_setCell _ ⟨w.heap.size, 9, none⟩ (.slice A d2.length cc) (w.heap.size + 1) (by simp)).trans ((Below.heap_setCell _ ⟨w.heap.size, 8, none⟩ (.int .i64 v2) (w.heap.size + 1) (by simp)).trans ((Below.heap_setCell _ ⟨w.heap.size, 7, none⟩ (.int .u64 (t2 : Int)) (w.heap.size + 1) (by simp)).trans ((Below.heap_setCell _ ⟨w.heap.size, 6, none⟩ (.int .u32 (s2 : Int)) (w.heap.size + 1) (by simp)).trans ((Below.heap_setCell _ ⟨w.heap.size, 5, none⟩ (.int .i64 f2) (w.heap.size + 1) (by simp)).trans H1_2.out))))))
  have HT3 : Hid (Tk W g s _ _) := Lib.hid (by rw [hW]; exact ((((((HT2.out.set n0 5 (.int .i64 f2)).set n0 6 (.int .u32 (s2 : Int))).set n0 7 (.int .u64 (t2 : Int))).set n0 8 (.int .i64 v2)).set n0 9 (.slice A d2.length cc)).set n0 10 (.string y2)))
  have HO3 : Hid (Only g w W) := Lib.hid (by rw [hW]; exact ((((((HO2.out.fresh (Nat.le_refl _) 5 (.int .i64 f2)).fresh (Nat.le_refl _) 6 (.int .u32 (s2 : Int))).fresh (Nat.le_refl _) 7 (.int .u64 (t2 : Int))).fresh (Nat.le_refl _) 8 (.int .i64 v2)).fresh (Nat.le_refl _) 9 (.slice A d2.length cc)).fresh (Nat.le_refl _) 10 (.string y2)))
  have HN : Hid (W.ownsRow w1.heap.size 25 1 (.slice A d2.length cc) d2.length (uvals d2)) := Lib.hid (by rw [hW]; exact (own_keep_set (own_keep_set (own_keep_set (own_keep_set (own_keep_set (own_keep_set HN2.out (by omega) 5 (.int .i64 f2)) (by omega) 6 (.int .u32 (s2 : Int))) (by omega) 7 (.int .u64 (t2 : Int))) (by omega) 8 (.int .i64 v2)) (by omega) 9 (.slice A d2.length cc)) (by omega) 10 (.string y2)))
  have HWE := Lib.hid hW
  clear hW
  have mk := True.intro
  go_wp2_with (first | (clear mk; rw [← HWE.out]; refine wpList_load_row rfl 73 (.tmp 5) rfl w.heap.size (by simp [Act.eval, Act.put]) 73 #[.int .i64 kind, .int .i64 src, .int .i64 dst, .int .u64 (ce : Int), .int .i64 cr, .int .i64 f2, .int .u32 (s2 : Int), .int .u64 (t2 : Int), .int .i64 v2, .slice A d2.length cc, .string y2, .int .u64 (stamp : Int), .int .u32 (sent : Int), .slice Ag got.length cg, .int .u64 (horizon : Int), .int .i64 whom, .int .u32 (seq : Int), .int .u64 (members : Int), .int .u64 (pe : Int), .int .i64 pr, .int .u64 (epoch : Int), .slice Ax x.length cx] (0, 0) _ RA Try.underlying73 rfl info73 ?_; have mk2 := True.intro) | (clear mk2; refine wpList_store_row rfl 73 (.tmp 6) (.tmp 110) rfl (w.heap.size + 1) #[.int .i64 kind, .int .i64 src, .int .i64 dst, .int .u64 (ce : Int), .int .i64 cr, .int .i64 f2, .int .u32 (s2 : Int), .int .u64 (t2 : Int), .int .i64 v2, .slice A d2.length cc, .string y2, .int .u64 (stamp : Int), .int .u32 (sent : Int), .slice Ag got.length cg, .int .u64 (horizon : Int), .int .i64 whom, .int .u32 (seq : Int), .int .u64 (members : Int), .int .u64 (pe : Int), .int .i64 pr, .int .u64 (epoch : Int), .slice Ax x.length cx] (by simp [Act.eval, Act.put]) (by simp [Act.eval, Act.put]) 73 #[.int .i64 0, .int .i64 0, .int .i64 0, .int .u64 0, .int .i64 0, .int .i64 0, .int .u32 0, .int .u64 0, .int .i64 0, .slice none 0 0, .string ⟨#[]⟩, .int .u64 0, .int .u32 0, .slice none 0 0, .int .u64 0, .int .i64 0, .int .u32 0, .int .u64 0, .int .u64 0, .int .i64 0, .int .u64 0, .slice none 0 0] RB info73 rfl (by kernel_rfl) ?_))
  have hf := setRow_heap W (w.heap.size + 1) #[.int .i64 0, .int .i64 0, .int .i64 0, .int .u64 0, .int .i64 0, .int .i64 0, .int .u32 0, .int .u64 0, .int .i64 0, .slice none 0 0, .string ⟨#[]⟩, .int .u64 0, .int .u32 0, .slice none 0 0, .int .u64 0, .int .i64 0, .int .u32 0, .int .u64 0, .int .u64 0, .int .i64 0, .int .u64 0, .slice none 0 0] #[.int .i64 kind, .int .i64 src, .int .i64 dst, .int .u64 (ce : Int), .int .i64 cr, .int .i64 f2, .int .u32 (s2 : Int), .int .u64 (t2 : Int), .int .i64 v2, .slice A d2.length cc, .string y2, .int .u64 (stamp : Int), .int .u32 (sent : Int), .slice Ag got.length cg, .int .u64 (horizon : Int), .int .i64 whom, .int .u32 (seq : Int), .int .u64 (members : Int), .int .u64 (pe : Int), .int .i64 pr, .int .u64 (epoch : Int), .slice Ax x.length cx] 73 (0, 0) RB
  have hO := only_setRow (k := w.heap.size + 1) HO3.out (by omega) #[.int .i64 kind, .int .i64 src, .int .i64 dst, .int .u64 (ce : Int), .int .i64 cr, .int .i64 f2, .int .u32 (s2 : Int), .int .u64 (t2 : Int), .int .i64 v2, .slice A d2.length cc, .string y2, .int .u64 (stamp : Int), .int .u32 (sent : Int), .slice Ag got.length cg, .int .u64 (horizon : Int), .int .i64 whom, .int .u32 (seq : Int), .int .u64 (members : Int), .int .u64 (pe : Int), .int .i64 pr, .int .u64 (epoch : Int), .slice Ax x.length cx]
  refine bodyPost_ret (v := .agg #[.int .i64 kind, .int .i64 src, .int .i64 dst, .int .u64 (ce : Int), .int .i64 cr, .int .i64 f2, .int .u32 (s2 : Int), .int .u64 (t2 : Int), .int .i64 v2, .slice A d2.length cc, .string y2, .int .u64 (stamp : Int), .int .u32 (sent : Int), .slice Ag got.length cg, .int .u64 (horizon : Int), .int .i64 whom, .int .u32 (seq : Int), .int .u64 (members : Int), .int .u64 (pe : Int), .int .i64 pr, .int .u64 (epoch : Int), .slice Ax x.length cx]) (results_cell_row Try.results71 _ _ _ _ _ _ _ (by simp [Act.put]) hf Try.underlying73 rfl info73) rfl ?_
  refine ⟨⟨kind, src, dst, ⟨ce, cr⟩, ⟨f2, s2, t2, v2, d2, y2⟩, stamp, sent, got, horizon, whom, seq, members, ⟨pe, pr⟩, epoch, x⟩, A, cc, Ag, cg, Ax, cx, _, rfl, ⟨own_low_any (own_setRow HN.out (by omega) _) (by omega), own_keep_only R2.out hO hgB, XOwn.keep_only R3.out hO hgB⟩, ?_, (tk_setRow HT3.out n1 #[.int .i64 kind, .int .i64 src, .int .i64 dst, .int .u64 (ce : Int), .int .i64 cr, .int .i64 f2, .int .u32 (s2 : Int), .int .u64 (t2 : Int), .int .i64 v2, .slice A d2.length cc, .string y2, .int .u64 (stamp : Int), .int .u32 (sent : Int), .slice Ag got.length cg, .int .u64 (horizon : Int), .int .i64 whom, .int .u32 (seq : Int), .int .u64 (members : Int), .int .u64 (pe : Int), .int .i64 pr, .int .u64 (epoch : Int), .slice Ax x.length cx]).mono (by omega), hO, fun _ h => by cases h; rfl⟩
  rw [show fieldP 109 (⟨kind, src, dst, ⟨ce, cr⟩, ⟨mf, ms, mt, mv, md, my⟩, stamp, sent, got, horizon, whom, seq, members, ⟨pe, pr⟩, epoch, x⟩ : Pk) = (fun l => andP (msgP src l) fun z r => .ok ((⟨kind, src, dst, ⟨ce, cr⟩, z, stamp, sent, got, horizon, whom, seq, members, ⟨pe, pr⟩, epoch, x⟩ : Pk), r)) from by
    show (fun l => andP (msgP (if kind = 9 then whom else src) l) fun z r => .ok ((⟨kind, src, dst, ⟨ce, cr⟩, z, stamp, sent, got, horizon, whom, seq, members, ⟨pe, pr⟩, epoch, x⟩ : Pk), r)) = _
    rw [if_neg HK.out]]
  exact via_and (P := msgP src) (Q := fun z r => .ok ((⟨kind, src, dst, ⟨ce, cr⟩, z, stamp, sent, got, horizon, whom, seq, members, ⟨pe, pr⟩, epoch, x⟩ : Pk), r)) HV.out

set_option maxHeartbeats 3200000 in
set_option maxRecDepth 8000 in
theorem tfield_x (g : Nat) (s : ByteArray) (m : Nat) (st : St) (p : Pk) (Am : Option Addr) (cm : Nat) (Ag : Option Addr) (cg : Nat) (Ax : Option Addr) (cx : Nat) (B : Nat) (w : World) (h : Tk w g s m st) (hs : s.size ≤ 1000000) (hm : m ≤ 1600000)
    (hgB : g < B) (hB : B ≤ w.heap.size) (hr : PkRows w B p Am cm Ag cg Ax cx) :
    Calls Try.prog 71 #[.pointer (some ⟨g, 0, none⟩), .int .u8 120, pkV p Am cm Ag cg Ax cx] w (TF g s m st B (fieldP 120 p) none w) := by
  obtain ⟨kind, src, dst, ⟨ce, cr⟩, ⟨mf, ms, mt, mv, md, my⟩, stamp, sent, got, horizon, whom, seq, members, ⟨pe, pr⟩, epoch, x⟩ := p
  obtain ⟨hr1, hr2, hr3⟩ := hr
  dsimp only at *
  obtain ⟨c, hc⟩ : ∃ c : Array Value, c = #[.int .i64 kind, .int .i64 src, .int .i64 dst, .int .u64 (ce : Int), .int .i64 cr, .int .i64 mf, .int .u32 (ms : Int), .int .u64 (mt : Int), .int .i64 mv, .slice Am md.length cm, .string my, .int .u64 (stamp : Int), .int .u32 (sent : Int), .slice Ag got.length cg, .int .u64 (horizon : Int), .int .i64 whom, .int .u32 (seq : Int), .int .u64 (members : Int), .int .u64 (pe : Int), .int .i64 pr, .int .u64 (epoch : Int), .slice Ax x.length cx] := ⟨_, rfl⟩
  rw [show pkV (⟨kind, src, dst, ⟨ce, cr⟩, ⟨mf, ms, mt, mv, md, my⟩, stamp, sent, got, horizon, whom, seq, members, ⟨pe, pr⟩, epoch, x⟩ : Pk) Am cm Ag cg Ax cx = .agg c from by rw [hc]; rfl]
  have HC := Lib.hid hc
  clear hc
  obtain ⟨w1, hw1⟩ : ∃ W, W = ((w.alloc (.cells c 73)).alloc (.cells #[.int .i64 0, .int .i64 0, .int .i64 0, .int .u64 0, .int .i64 0, .int .i64 0, .int .u32 0, .int .u64 0, .int .i64 0, .slice none 0 0, .string ⟨#[]⟩, .int .u64 0, .int .u32 0, .slice none 0 0, .int .u64 0, .int .i64 0, .int .u32 0, .int .u64 0, .int .u64 0, .int .i64 0, .int .u64 0, .slice none 0 0] 73)) := ⟨_, rfl⟩
  have hbel := below_alloc (below_alloc (Below.refl w.heap.size w) (.cells c 73)) (.cells #[.int .i64 0, .int .i64 0, .int .i64 0, .int .u64 0, .int .i64 0, .int .i64 0, .int .u32 0, .int .u64 0, .int .i64 0, .slice none 0 0, .string ⟨#[]⟩, .int .u64 0, .int .u32 0, .slice none 0 0, .int .u64 0, .int .i64 0, .int .u32 0, .int .u64 0, .int .u64 0, .int .i64 0, .int .u64 0, .slice none 0 0] 73)
  rw [← hw1] at hbel
  have hsz : w1.heap.size = w.heap.size + 1 + 1 := by rw [hw1]; simp
  have hg := h.lt
  have n0 : w.heap.size ≠ g := by omega
  have n1 : w.heap.size + 1 ≠ g := by omega
  have H0_1 : Hid (w1.heap[w.heap.size]? = some (.cells c 73 (0, 0))) := Lib.hid (by rw [hw1]; exact (Below.heap_alloc _ _ _ (by simp)).trans (heap_alloc_new w _))
  have H1_1 : Hid (w1.heap[w.heap.size + 1]? = some (.cells #[.int .i64 0, .int .i64 0, .int .i64 0, .int .u64 0, .int .i64 0, .int .i64 0, .int .u32 0, .int .u64 0, .int .i64 0, .slice none 0 0, .string ⟨#[]⟩, .int .u64 0, .int .u32 0, .slice none 0 0, .int .u64 0, .int .i64 0, .int .u32 0, .int .u64 0, .int .u64 0, .int .i64 0, .int .u64 0, .slice none 0 0] 73 (0, 0))) := Lib.hid (by rw [hw1, show w.heap.size + 1 = (w.alloc (.cells c 73)).heap.size by simp]; exact heap_alloc_new _ _)
  have HT1 := Lib.hid (h.kept hbel)
  have HO1 := Lib.hid (Only.of_below (g := g) hbel)
  have HW1 := Lib.hid hw1
  have R1 := Lib.hid hr1
  have R2 := Lib.hid hr2
  have R3 := Lib.hid hr3
  clear h hr1 hr2 hr3 hw1 hbel
  go_enter Try.func71, Try.ntmps71
  go_wp2_with fail
  rw [← HW1.out]
  refine (tex g s m st w1 HT1.out hs (by omega)).mono ?_
  rintro e w2 ⟨⟨xw, ⟨xe, xr⟩, xc, ⟨ks, kf⟩⟩, A, cc, st2, rfl, hown, hvia, hT, ho⟩
  dsimp only at hown
  unfold exV
  have hX := XOwn.one w2 w1.heap.size ho.size ⟨xw, ⟨xe, xr⟩, xc, ⟨ks, kf⟩⟩ A cc hown
  have H0_2 : Hid (w2.heap[w.heap.size]? = some (.cells c 73 (0, 0))) := Lib.hid ((ho.block w.heap.size (by omega) (by simpa using n0)).trans H0_1.out)
  have H1_2 : Hid (w2.heap[w.heap.size + 1]? = some (.cells #[.int .i64 0, .int .i64 0, .int .i64 0, .int .u64 0, .int .i64 0, .int .i64 0, .int .u32 0, .int .u64 0, .int .i64 0, .slice none 0 0, .string ⟨#[]⟩, .int .u64 0, .int .u32 0, .slice none 0 0, .int .u64 0, .int .i64 0, .int .u32 0, .int .u64 0, .int .u64 0, .int .i64 0, .int .u64 0, .slice none 0 0] 73 (0, 0))) := Lib.hid ((ho.block (w.heap.size + 1) (by omega) (by simpa using n1)).trans H1_1.out)
  have HT2 := Lib.hid hT
  have HO2 := Lib.hid (HO1.out.trans ho)
  have HV := Lib.hid hvia
  clear hT ho hvia H0_1 H1_1 HT1 HO1
  clear hown
  obtain ⟨w3, hw3⟩ : ∃ W, W = w2.alloc (.cells #[.int .i64 xw, .int .u64 (xe : Int), .int .i64 xr, .slice A xc.length cc, .int .u64 (ks : Int), .int .i64 kf] 86) := ⟨_, rfl⟩
  have hb3 := below_alloc (Below.refl w2.heap.size w2) (.cells #[.int .i64 xw, .int .u64 (xe : Int), .int .i64 xr, .slice A xc.length cc, .int .u64 (ks : Int), .int .i64 kf] 86)
  dsimp only at hX
  rw [← hw3] at hX hb3
  have HX2 := Lib.hid hX
  have e0 : {i : Nat} → (hi : i < w2.heap.size) → w3.heap[i]? = w2.heap[i]? := fun {i} hi => hb3.block i hi
  have H0_3 : Hid (w3.heap[w.heap.size]? = some (.cells c 73 (0, 0))) := Lib.hid ((hb3.block _ (blk_lt H0_2.out)).trans H0_2.out)
  have H1_3 : Hid (w3.heap[w.heap.size + 1]? = some (.cells #[.int .i64 0, .int .i64 0, .int .i64 0, .int .u64 0, .int .i64 0, .int .i64 0, .int .u32 0, .int .u64 0, .int .i64 0, .slice none 0 0, .string ⟨#[]⟩, .int .u64 0, .int .u32 0, .slice none 0 0, .int .u64 0, .int .i64 0, .int .u32 0, .int .u64 0, .int .u64 0, .int .i64 0, .int .u64 0, .slice none 0 0] 73 (0, 0))) := Lib.hid ((hb3.block _ (blk_lt H1_2.out)).trans H1_2.out)
  have HT3 := Lib.hid (HT2.out.kept hb3)
  have HO3 := Lib.hid (HO2.out.trans (Only.of_below (g := g) hb3))
  have HW3 := Lib.hid hw3
  obtain ⟨kx, hkx⟩ : ∃ k, k = w2.heap.size := ⟨_, rfl⟩
  rw [← hkx] at HX2
  have HKX := Lib.hid hkx
  clear hX hb3 e0 hw3 hkx H0_2 H1_2 HT2 HO2
  have k21 : w3.cell? ⟨w.heap.size, 21, none⟩ = some (.slice Ax x.length cx) := (cell_of_row _ _ 21 _ _ _ H0_3.out).trans (by rw [HC.out]; rfl)
  have f21 : w3.frozen? ⟨w.heap.size, 21, none⟩ = false := by simp only [World.frozen?, H0_3.out]; rfl
  obtain ⟨W, hW⟩ : ∃ W, W = (w3.setCell ⟨w.heap.size, 21, none⟩ (.slice (some ⟨kx, 0, none⟩) 1 1)) := ⟨_, rfl⟩
  have RA : W.heap[w.heap.size]? = some (.cells #[.int .i64 kind, .int .i64 src, .int .i64 dst, .int .u64 (ce : Int), .int .i64 cr, .int .i64 mf, .int .u32 (ms : Int), .int .u64 (mt : Int), .int .i64 mv, .slice Am md.length cm, .string my, .int .u64 (stamp : Int), .int .u32 (sent : Int), .slice Ag got.length cg, .int .u64 (horizon : Int), .int .i64 whom, .int .u32 (seq : Int), .int .u64 (members : Int), .int .u64 (pe : Int), .int .i64 pr, .int .u64 (epoch : Int), .slice (some ⟨kx, 0, none⟩) 1 1] 73 (0, 0)) := by
    rw [hW]
    refine (blk_setj H0_3.out 21 (.slice (some ⟨kx, 0, none⟩) 1 1)).trans ?_
    rw [HC.out]
    rfl
  have RB : W.heap[w.heap.size + 1]? = some (.cells #[.int .i64 0, .int .i64 0, .int .i64 0, .int .u64 0, .int .i64 0, .int .i64 0, .int .u32 0, .int .u64 0, .int .i64 0, .slice none 0 0, .string ⟨#[]⟩, .int .u64 0, .int .u32 0, .slice none 0 0, .int .u64 0, .int .i64 0, .int .u32 0, .int .u64 0, .int .u64 0, .int .i64 0, .int .u64 0, .slice none 0 0] 73 (0, 0)) := by rw [hW]; exact ((Below.heap_setCell _ ⟨w.heap.size, 21, none⟩ (.slice (some ⟨kx, 0, none⟩) 1 1) (w.heap.size + 1) (by simp)).trans H1_3.out)
  have HT4 : Hid (Tk W g s _ _) := Lib.hid (by rw [hW]; exact (HT3.out.set n0 21 (.slice (some ⟨kx, 0, none⟩) 1 1)))
  have HO4 : Hid (Only g w W) := Lib.hid (by rw [hW]; exact (HO3.out.fresh (Nat.le_refl _) 21 (.slice (some ⟨kx, 0, none⟩) 1 1)))
  have HNX : Hid (XOwn W w1.heap.size (.slice (some ⟨kx, 0, none⟩) 1 1) [⟨xw, ⟨xe, xr⟩, xc, ⟨ks, kf⟩⟩]) := Lib.hid (by rw [hW]; exact XOwn.keep_set HX2.out (by omega) 21 (.slice (some ⟨kx, 0, none⟩) 1 1))
  have HWE := Lib.hid hW
  clear hW
  have mk := True.intro
  rw [HW3.out, HKX.out] at HWE
  rw [HW3.out] at k21 f21
  go_wp2_with (first | (clear mk; rw [← HWE.out]; refine wpList_load_row rfl 73 (.tmp 5) rfl w.heap.size (by simp [Act.eval, Act.put]) 73 #[.int .i64 kind, .int .i64 src, .int .i64 dst, .int .u64 (ce : Int), .int .i64 cr, .int .i64 mf, .int .u32 (ms : Int), .int .u64 (mt : Int), .int .i64 mv, .slice Am md.length cm, .string my, .int .u64 (stamp : Int), .int .u32 (sent : Int), .slice Ag got.length cg, .int .u64 (horizon : Int), .int .i64 whom, .int .u32 (seq : Int), .int .u64 (members : Int), .int .u64 (pe : Int), .int .i64 pr, .int .u64 (epoch : Int), .slice (some ⟨kx, 0, none⟩) 1 1] (0, 0) _ RA Try.underlying73 rfl info73 ?_; have mk2 := True.intro) | (clear mk2; refine wpList_store_row rfl 73 (.tmp 6) (.tmp 110) rfl (w.heap.size + 1) #[.int .i64 kind, .int .i64 src, .int .i64 dst, .int .u64 (ce : Int), .int .i64 cr, .int .i64 mf, .int .u32 (ms : Int), .int .u64 (mt : Int), .int .i64 mv, .slice Am md.length cm, .string my, .int .u64 (stamp : Int), .int .u32 (sent : Int), .slice Ag got.length cg, .int .u64 (horizon : Int), .int .i64 whom, .int .u32 (seq : Int), .int .u64 (members : Int), .int .u64 (pe : Int), .int .i64 pr, .int .u64 (epoch : Int), .slice (some ⟨kx, 0, none⟩) 1 1] (by simp [Act.eval, Act.put]) (by simp [Act.eval, Act.put]) 73 #[.int .i64 0, .int .i64 0, .int .i64 0, .int .u64 0, .int .i64 0, .int .i64 0, .int .u32 0, .int .u64 0, .int .i64 0, .slice none 0 0, .string ⟨#[]⟩, .int .u64 0, .int .u32 0, .slice none 0 0, .int .u64 0, .int .i64 0, .int .u32 0, .int .u64 0, .int .u64 0, .int .i64 0, .int .u64 0, .slice none 0 0] RB info73 rfl (by kernel_rfl) ?_))
  have hf := setRow_heap W (w.heap.size + 1) #[.int .i64 0, .int .i64 0, .int .i64 0, .int .u64 0, .int .i64 0, .int .i64 0, .int .u32 0, .int .u64 0, .int .i64 0, .slice none 0 0, .string ⟨#[]⟩, .int .u64 0, .int .u32 0, .slice none 0 0, .int .u64 0, .int .i64 0, .int .u32 0, .int .u64 0, .int .u64 0, .int .i64 0, .int .u64 0, .slice none 0 0] #[.int .i64 kind, .int .i64 src, .int .i64 dst, .int .u64 (ce : Int), .int .i64 cr, .int .i64 mf, .int .u32 (ms : Int), .int .u64 (mt : Int), .int .i64 mv, .slice Am md.length cm, .string my, .int .u64 (stamp : Int), .int .u32 (sent : Int), .slice Ag got.length cg, .int .u64 (horizon : Int), .int .i64 whom, .int .u32 (seq : Int), .int .u64 (members : Int), .int .u64 (pe : Int), .int .i64 pr, .int .u64 (epoch : Int), .slice (some ⟨kx, 0, none⟩) 1 1] 73 (0, 0) RB
  have hO := only_setRow (k := w.heap.size + 1) HO4.out (by omega) #[.int .i64 kind, .int .i64 src, .int .i64 dst, .int .u64 (ce : Int), .int .i64 cr, .int .i64 mf, .int .u32 (ms : Int), .int .u64 (mt : Int), .int .i64 mv, .slice Am md.length cm, .string my, .int .u64 (stamp : Int), .int .u32 (sent : Int), .slice Ag got.length cg, .int .u64 (horizon : Int), .int .i64 whom, .int .u32 (seq : Int), .int .u64 (members : Int), .int .u64 (pe : Int), .int .i64 pr, .int .u64 (epoch : Int), .slice (some ⟨kx, 0, none⟩) 1 1]
  refine bodyPost_ret (v := .agg #[.int .i64 kind, .int .i64 src, .int .i64 dst, .int .u64 (ce : Int), .int .i64 cr, .int .i64 mf, .int .u32 (ms : Int), .int .u64 (mt : Int), .int .i64 mv, .slice Am md.length cm, .string my, .int .u64 (stamp : Int), .int .u32 (sent : Int), .slice Ag got.length cg, .int .u64 (horizon : Int), .int .i64 whom, .int .u32 (seq : Int), .int .u64 (members : Int), .int .u64 (pe : Int), .int .i64 pr, .int .u64 (epoch : Int), .slice (some ⟨kx, 0, none⟩) 1 1]) (results_cell_row Try.results71 _ _ _ _ _ _ _ (by simp [Act.put]) hf Try.underlying73 rfl info73) rfl ?_
  refine ⟨⟨kind, src, dst, ⟨ce, cr⟩, ⟨mf, ms, mt, mv, md, my⟩, stamp, sent, got, horizon, whom, seq, members, ⟨pe, pr⟩, epoch, [⟨xw, ⟨xe, xr⟩, xc, ⟨ks, kf⟩⟩]⟩, Am, cm, Ag, cg, (some ⟨kx, 0, none⟩), 1, _, rfl, ⟨own_keep_only R1.out hO hgB, own_keep_only R2.out hO hgB, XOwn.low (XOwn.setRow HNX.out (by omega) _) (by omega)⟩, ?_, (tk_setRow HT4.out n1 #[.int .i64 kind, .int .i64 src, .int .i64 dst, .int .u64 (ce : Int), .int .i64 cr, .int .i64 mf, .int .u32 (ms : Int), .int .u64 (mt : Int), .int .i64 mv, .slice Am md.length cm, .string my, .int .u64 (stamp : Int), .int .u32 (sent : Int), .slice Ag got.length cg, .int .u64 (horizon : Int), .int .i64 whom, .int .u32 (seq : Int), .int .u64 (members : Int), .int .u64 (pe : Int), .int .i64 pr, .int .u64 (epoch : Int), .slice (some ⟨kx, 0, none⟩) 1 1]).mono (by omega), hO, fun _ h => by cases h⟩
  exact via_and (P := exP) (Q := fun z r => .ok ((⟨kind, src, dst, ⟨ce, cr⟩, ⟨mf, ms, mt, mv, md, my⟩, stamp, sent, got, horizon, whom, seq, members, ⟨pe, pr⟩, epoch, [z]⟩ : Pk), r)) HV.out
end Go.Proofs.Ythkfgjdbgnbjkaa
