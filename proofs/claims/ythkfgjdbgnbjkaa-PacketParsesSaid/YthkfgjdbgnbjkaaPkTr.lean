/- The walk of the reference's taker: field. (Printed by pktf.py.) -/
import Derived.Test.YthkfgjdbgnbjkaaPkTq
namespace Go.Proofs.Ythkfgjdbgnbjkaa
open Go.RowKit Go.Sort
set_option linter.unusedSimpArgs false
set_option linter.unusedVariables false

set_option maxHeartbeats 3200000 in
set_option maxRecDepth 8000 in
theorem tfield_c (g : Nat) (s : ByteArray) (m : Nat) (st : St) (p : Pk) (Am : Option Addr) (cm : Nat) (Ag : Option Addr) (cg : Nat) (Ax : Option Addr) (cx : Nat) (B : Nat) (w : World) (h : Tk w g s m st) (hs : s.size ≤ 1000000) (hm : m ≤ 1600000)
    (hgB : g < B) (hB : B ≤ w.heap.size) (hr : PkRows w B p Am cm Ag cg Ax cx) :
    Calls Try.prog 71 #[.pointer (some ⟨g, 0, none⟩), .int .u8 99, pkV p Am cm Ag cg Ax cx] w (TF g s m st B (fieldP 99 p) (some (p.x, Ax, cx)) w) := by
  obtain ⟨kind, src, dst, ⟨ce, cr⟩, ⟨mf, ms, mt, mv, md, my⟩, stamp, sent, got, horizon, whom, seq, members, ⟨pe, pr⟩, epoch, x⟩ := p
  obtain ⟨hr1, hr2, hr3⟩ := hr
  dsimp only at *
  obtain ⟨c, hc⟩ : ∃ c : Array Value, c = #[.int .i64 kind, .int .i64 src, .int .i64 dst, .int .u64 (ce : Int), .int .i64 cr, .int .i64 mf, .int .u32 (ms : Int), .int .u64 (mt : Int), .int .i64 mv, .slice Am md.length cm, .string my, .int .u64 (stamp : Int), .int .u32 (sent : Int), .slice Ag got.length cg, .int .u64 (horizon : Int), .int .i64 whom, .int .u32 (seq : Int), .int .u64 (members : Int), .int .u64 (pe : Int), .int .i64 pr, .int .u64 (epoch : Int), .slice Ax x.length cx] := ⟨_, rfl⟩
  rw [show pkV (⟨kind, src, dst, ⟨ce, cr⟩, ⟨mf, ms, mt, mv, md, my⟩, stamp, sent, got, horizon, whom, seq, members, ⟨pe, pr⟩, epoch, x⟩ : Pk) Am cm Ag cg Ax cx = .agg c from by rw [hc]; rfl]
  have HC := Lib.hid hc
  clear hc
  obtain ⟨w1, hw1⟩ : ∃ W, W = ((w.alloc (.cells c 73)).alloc (.cells #[.int .i64 0, .int .i64 0, .int .i64 0, .int .u64 0, .int .i64 0, .int .i64 0, .int .u32 0, .int .u64 0, .int .i64 0, .slice none 0 0, .string ⟨#[]⟩, .int .u64 0, .int .u32 0, .slice none 0 0, .int .u64 0, .int .i64 0, .int .u32 0, .int .u64 0, .int .u64 0, .int .i64 0, .int .u64 0, .slice none 0 0] 73)) := ⟨_, rfl⟩
  have hbel := below_alloc (below_alloc (Below.refl w.heap.size w) (.cells c 73)) (.cells #[.int .i64 0, .int .i64 0, .int .i64 0, .int .u64 0, .int .i64 0, .int .i64 0, .int .u32 0, .int .u64 0, .int .i64 0, .slice none 0 0, .string ⟨#[]⟩, .int .u64 0, .int .u32 0, .slice none 0 0, .int .u64 0, .int .i64 0, .int .u32 0, .int .u64 0, .int .u64 0, .int .i64 0, .int .u64 0, .slice none 0 0] 73)
  rw [← hw1] at hbel
  have hsz : w1.heap.size = w.heap.size + 1 + 1 := by rw [hw1]; simp
  have hg := h.lt
  have n0 : w.heap.size ≠ g := by omega
  have n1 : w.heap.size + 1 ≠ g := by omega
  have H0_1 : Hid (w1.heap[w.heap.size]? = some (.cells c 73 (0, 0))) := Lib.hid (by rw [hw1]; exact (Below.heap_alloc _ _ _ (by simp)).trans (heap_alloc_new w _))
  have H1_1 : Hid (w1.heap[w.heap.size + 1]? = some (.cells #[.int .i64 0, .int .i64 0, .int .i64 0, .int .u64 0, .int .i64 0, .int .i64 0, .int .u32 0, .int .u64 0, .int .i64 0, .slice none 0 0, .string ⟨#[]⟩, .int .u64 0, .int .u32 0, .slice none 0 0, .int .u64 0, .int .i64 0, .int .u32 0, .int .u64 0, .int .u64 0, .int .i64 0, .int .u64 0, .slice none 0 0] 73 (0, 0))) := Lib.hid (by rw [hw1, show w.heap.size + 1 = (w.alloc (.cells c 73)).heap.size by simp]; exact heap_alloc_new _ _)
  have HT1 := Lib.hid (h.kept hbel)
  have HO1 := Lib.hid (Only.of_below (g := g) hbel)
  have HW1 := Lib.hid hw1
  have R1 := Lib.hid hr1
  have R2 := Lib.hid hr2
  have R3 := Lib.hid hr3
  clear h hr1 hr2 hr3 hw1 hbel
  go_enter Try.func71, Try.ntmps71
  go_wp2_with fail
  rw [← HW1.out]
  refine (tconf g s m st w1 HT1.out hs (by omega)).mono ?_
  rintro e w2 ⟨⟨ce2, cr2⟩, st2, rfl, hvia, hT, ho⟩
  have H0_2 : Hid (w2.heap[w.heap.size]? = some (.cells c 73 (0, 0))) := Lib.hid ((ho.block w.heap.size (by omega) (by simpa using n0)).trans H0_1.out)
  have H1_2 : Hid (w2.heap[w.heap.size + 1]? = some (.cells #[.int .i64 0, .int .i64 0, .int .i64 0, .int .u64 0, .int .i64 0, .int .i64 0, .int .u32 0, .int .u64 0, .int .i64 0, .slice none 0 0, .string ⟨#[]⟩, .int .u64 0, .int .u32 0, .slice none 0 0, .int .u64 0, .int .i64 0, .int .u32 0, .int .u64 0, .int .u64 0, .int .i64 0, .int .u64 0, .slice none 0 0] 73 (0, 0))) := Lib.hid ((ho.block (w.heap.size + 1) (by omega) (by simpa using n1)).trans H1_1.out)
  have HT2 := Lib.hid hT
  have HO2 := Lib.hid (HO1.out.trans ho)
  have HV := Lib.hid hvia
  clear hT ho hvia H0_1 H1_1 HT1 HO1
  have k3 : w2.cell? ⟨w.heap.size, 3, none⟩ = some (.int .u64 (ce : Int)) := (cell_of_row _ _ 3 _ _ _ H0_2.out).trans (by rw [HC.out]; rfl)
  have f3 : w2.frozen? ⟨w.heap.size, 3, none⟩ = false := by simp only [World.frozen?, H0_2.out]; rfl
  have k4 : w2.cell? ⟨w.heap.size, 4, none⟩ = some (.int .i64 cr) := (cell_of_row _ _ 4 _ _ _ H0_2.out).trans (by rw [HC.out]; rfl)
  have f4 : w2.frozen? ⟨w.heap.size, 4, none⟩ = false := by simp only [World.frozen?, H0_2.out]; rfl
  obtain ⟨W, hW⟩ : ∃ W, W = ((w2.setCell ⟨w.heap.size, 3, none⟩ (.int .u64 (ce2 : Int))).setCell ⟨w.heap.size, 4, none⟩ (.int .i64 cr2)) := ⟨_, rfl⟩
  have RA : W.heap[w.heap.size]? = some (.cells #[.int .i64 kind, .int .i64 src, .int .i64 dst, .int .u64 (ce2 : Int), .int .i64 cr2, .int .i64 mf, .int .u32 (ms : Int), .int .u64 (mt : Int), .int .i64 mv, .slice Am md.length cm, .string my, .int .u64 (stamp : Int), .int .u32 (sent : Int), .slice Ag got.length cg, .int .u64 (horizon : Int), .int .i64 whom, .int .u32 (seq : Int), .int .u64 (members : Int), .int .u64 (pe : Int), .int .i64 pr, .int .u64 (epoch : Int), .slice Ax x.length cx] 73 (0, 0)) := by
    rw [hW]
    refine (blk_setj (blk_setj H0_2.out 3 (.int .u64 (ce2 : Int))) 4 (.int .i64 cr2)).trans ?_
    rw [HC.out]
    rfl
  have RB : W.heap[w.heap.size + 1]? = some (.cells #[.int .i64 0, .int .i64 0, .int .i64 0, .int .u64 0, .int .i64 0, .int .i64 0, .int .u32 0, .int .u64 0, .int .i64 0, .slice none 0 0, .string ⟨#[]⟩, .int .u64 0, .int .u32 0, .slice none 0 0, .int .u64 0, .int .i64 0, .int .u32 0, .int .u64 0, .int .u64 0, .int .i64 0, .int .u64 0, .slice none 0 0] 73 (0, 0)) := by rw [hW]; exact ((Below.heap_setCell _ ⟨w.heap.size, 4, none⟩ (.int .i64 cr2) (w.heap.size + 1) (by simp)).trans ((Below.heap_setCell _ ⟨w.heap.size, 3, none⟩ (.int .u64 (ce2 : Int)) (w.heap.size + 1) (by simp)).trans H1_2.out))
  have HT3 : Hid (Tk W g s _ _) := Lib.hid (by rw [hW]; exact ((HT2.out.set n0 3 (.int .u64 (ce2 : Int))).set n0 4 (.int .i64 cr2)))
  have HO3 : Hid (Only g w W) := Lib.hid (by rw [hW]; exact ((HO2.out.fresh (Nat.le_refl _) 3 (.int .u64 (ce2 : Int))).fresh (Nat.le_refl _) 4 (.int .i64 cr2)))
  have HWE := Lib.hid hW
  clear hW
  have mk := True.intro
  go_wp2_with (first | (clear mk; rw [← HWE.out]; refine wpList_load_row rfl 73 (.tmp 5) rfl w.heap.size (by simp [Act.eval, Act.put]) 73 #[.int .i64 kind, .int .i64 src, .int .i64 dst, .int .u64 (ce2 : Int), .int .i64 cr2, .int .i64 mf, .int .u32 (ms : Int), .int .u64 (mt : Int), .int .i64 mv, .slice Am md.length cm, .string my, .int .u64 (stamp : Int), .int .u32 (sent : Int), .slice Ag got.length cg, .int .u64 (horizon : Int), .int .i64 whom, .int .u32 (seq : Int), .int .u64 (members : Int), .int .u64 (pe : Int), .int .i64 pr, .int .u64 (epoch : Int), .slice Ax x.length cx] (0, 0) _ RA Try.underlying73 rfl info73 ?_; have mk2 := True.intro) | (clear mk2; refine wpList_store_row rfl 73 (.tmp 6) (.tmp 110) rfl (w.heap.size + 1) #[.int .i64 kind, .int .i64 src, .int .i64 dst, .int .u64 (ce2 : Int), .int .i64 cr2, .int .i64 mf, .int .u32 (ms : Int), .int .u64 (mt : Int), .int .i64 mv, .slice Am md.length cm, .string my, .int .u64 (stamp : Int), .int .u32 (sent : Int), .slice Ag got.length cg, .int .u64 (horizon : Int), .int .i64 whom, .int .u32 (seq : Int), .int .u64 (members : Int), .int .u64 (pe : Int), .int .i64 pr, .int .u64 (epoch : Int), .slice Ax x.length cx] (by simp [Act.eval, Act.put]) (by simp [Act.eval, Act.put]) 73 #[.int .i64 0, .int .i64 0, .int .i64 0, .int .u64 0, .int .i64 0, .int .i64 0, .int .u32 0, .int .u64 0, .int .i64 0, .slice none 0 0, .string ⟨#[]⟩, .int .u64 0, .int .u32 0, .slice none 0 0, .int .u64 0, .int .i64 0, .int .u32 0, .int .u64 0, .int .u64 0, .int .i64 0, .int .u64 0, .slice none 0 0] RB info73 rfl (by kernel_rfl) ?_))
  have hf := setRow_heap W (w.heap.size + 1) #[.int .i64 0, .int .i64 0, .int .i64 0, .int .u64 0, .int .i64 0, .int .i64 0, .int .u32 0, .int .u64 0, .int .i64 0, .slice none 0 0, .string ⟨#[]⟩, .int .u64 0, .int .u32 0, .slice none 0 0, .int .u64 0, .int .i64 0, .int .u32 0, .int .u64 0, .int .u64 0, .int .i64 0, .int .u64 0, .slice none 0 0] #[.int .i64 kind, .int .i64 src, .int .i64 dst, .int .u64 (ce2 : Int), .int .i64 cr2, .int .i64 mf, .int .u32 (ms : Int), .int .u64 (mt : Int), .int .i64 mv, .slice Am md.length cm, .string my, .int .u64 (stamp : Int), .int .u32 (sent : Int), .slice Ag got.length cg, .int .u64 (horizon : Int), .int .i64 whom, .int .u32 (seq : Int), .int .u64 (members : Int), .int .u64 (pe : Int), .int .i64 pr, .int .u64 (epoch : Int), .slice Ax x.length cx] 73 (0, 0) RB
  have hO := only_setRow (k := w.heap.size + 1) HO3.out (by omega) #[.int .i64 kind, .int .i64 src, .int .i64 dst, .int .u64 (ce2 : Int), .int .i64 cr2, .int .i64 mf, .int .u32 (ms : Int), .int .u64 (mt : Int), .int .i64 mv, .slice Am md.length cm, .string my, .int .u64 (stamp : Int), .int .u32 (sent : Int), .slice Ag got.length cg, .int .u64 (horizon : Int), .int .i64 whom, .int .u32 (seq : Int), .int .u64 (members : Int), .int .u64 (pe : Int), .int .i64 pr, .int .u64 (epoch : Int), .slice Ax x.length cx]
  refine bodyPost_ret (v := .agg #[.int .i64 kind, .int .i64 src, .int .i64 dst, .int .u64 (ce2 : Int), .int .i64 cr2, .int .i64 mf, .int .u32 (ms : Int), .int .u64 (mt : Int), .int .i64 mv, .slice Am md.length cm, .string my, .int .u64 (stamp : Int), .int .u32 (sent : Int), .slice Ag got.length cg, .int .u64 (horizon : Int), .int .i64 whom, .int .u32 (seq : Int), .int .u64 (members : Int), .int .u64 (pe : Int), .int .i64 pr, .int .u64 (epoch : Int), .slice Ax x.length cx]) (results_cell_row Try.results71 _ _ _ _ _ _ _ (by simp [Act.put]) hf Try.underlying73 rfl info73) rfl ?_
  refine ⟨⟨kind, src, dst, ⟨ce2, cr2⟩, ⟨mf, ms, mt, mv, md, my⟩, stamp, sent, got, horizon, whom, seq, members, ⟨pe, pr⟩, epoch, x⟩, Am, cm, Ag, cg, Ax, cx, _, rfl, ⟨own_keep_only R1.out hO hgB, own_keep_only R2.out hO hgB, XOwn.keep_only R3.out hO hgB⟩, ?_, (tk_setRow HT3.out n1 #[.int .i64 kind, .int .i64 src, .int .i64 dst, .int .u64 (ce2 : Int), .int .i64 cr2, .int .i64 mf, .int .u32 (ms : Int), .int .u64 (mt : Int), .int .i64 mv, .slice Am md.length cm, .string my, .int .u64 (stamp : Int), .int .u32 (sent : Int), .slice Ag got.length cg, .int .u64 (horizon : Int), .int .i64 whom, .int .u32 (seq : Int), .int .u64 (members : Int), .int .u64 (pe : Int), .int .i64 pr, .int .u64 (epoch : Int), .slice Ax x.length cx]).mono (by omega), hO, fun _ h => by cases h; rfl⟩
  exact via_and (P := confP) (Q := fun z r => .ok ((⟨kind, src, dst, z, ⟨mf, ms, mt, mv, md, my⟩, stamp, sent, got, horizon, whom, seq, members, ⟨pe, pr⟩, epoch, x⟩ : Pk), r)) HV.out

set_option maxHeartbeats 3200000 in
set_option maxRecDepth 8000 in
theorem tfield_s (g : Nat) (s : ByteArray) (m : Nat) (st : St) (p : Pk) (Am : Option Addr) (cm : Nat) (Ag : Option Addr) (cg : Nat) (Ax : Option Addr) (cx : Nat) (B : Nat) (w : World) (h : Tk w g s m st) (hs : s.size ≤ 1000000) (hm : m ≤ 1600000)
    (hgB : g < B) (hB : B ≤ w.heap.size) (hr : PkRows w B p Am cm Ag cg Ax cx) :
    Calls Try.prog 71 #[.pointer (some ⟨g, 0, none⟩), .int .u8 115, pkV p Am cm Ag cg Ax cx] w (TF g s m st B (fieldP 115 p) (some (p.x, Ax, cx)) w) := by
  obtain ⟨kind, src, dst, ⟨ce, cr⟩, ⟨mf, ms, mt, mv, md, my⟩, stamp, sent, got, horizon, whom, seq, members, ⟨pe, pr⟩, epoch, x⟩ := p
  obtain ⟨hr1, hr2, hr3⟩ := hr
  dsimp only at *
  obtain ⟨c, hc⟩ : ∃ c : Array Value, c = #[.int .i64 kind, .int .i64 src, .int .i64 dst, .int .u64 (ce : Int), .int .i64 cr, .int .i64 mf, .int .u32 (ms : Int), .int .u64 (mt : Int), .int .i64 mv, .slice Am md.length cm, .string my, .int .u64 (stamp : Int), .int .u32 (sent : Int), .slice Ag got.length cg, .int .u64 (horizon : Int), .int .i64 whom, .int .u32 (seq : Int), .int .u64 (members : Int), .int .u64 (pe : Int), .int .i64 pr, .int .u64 (epoch : Int), .slice Ax x.length cx] := ⟨_, rfl⟩
  rw [show pkV (⟨kind, src, dst, ⟨ce, cr⟩, ⟨mf, ms, mt, mv, md, my⟩, stamp, sent, got, horizon, whom, seq, members, ⟨pe, pr⟩, epoch, x⟩ : Pk) Am cm Ag cg Ax cx = .agg c from by rw [hc]; rfl]
  have HC := Lib.hid hc
  clear hc
  obtain ⟨w1, hw1⟩ : ∃ W, W = ((w.alloc (.cells c 73)).alloc (.cells #[.int .i64 0, .int .i64 0, .int .i64 0, .int .u64 0, .int .i64 0, .int .i64 0, .int .u32 0, .int .u64 0, .int .i64 0, .slice none 0 0, .string ⟨#[]⟩, .int .u64 0, .int .u32 0, .slice none 0 0, .int .u64 0, .int .i64 0, .int .u32 0, .int .u64 0, .int .u64 0, .int .i64 0, .int .u64 0, .slice none 0 0] 73)) := ⟨_, rfl⟩
  have hbel := below_alloc (below_alloc (Below.refl w.heap.size w) (.cells c 73)) (.cells #[.int .i64 0, .int .i64 0, .int .i64 0, .int .u64 0, .int .i64 0, .int .i64 0, .int .u32 0, .int .u64 0, .int .i64 0, .slice none 0 0, .string ⟨#[]⟩, .int .u64 0, .int .u32 0, .slice none 0 0, .int .u64 0, .int .i64 0, .int .u32 0, .int .u64 0, .int .u64 0, .int .i64 0, .int .u64 0, .slice none 0 0] 73)
  rw [← hw1] at hbel
  have hsz : w1.heap.size = w.heap.size + 1 + 1 := by rw [hw1]; simp
  have hg := h.lt
  have n0 : w.heap.size ≠ g := by omega
  have n1 : w.heap.size + 1 ≠ g := by omega
  have H0_1 : Hid (w1.heap[w.heap.size]? = some (.cells c 73 (0, 0))) := Lib.hid (by rw [hw1]; exact (Below.heap_alloc _ _ _ (by simp)).trans (heap_alloc_new w _))
  have H1_1 : Hid (w1.heap[w.heap.size + 1]? = some (.cells #[.int .i64 0, .int .i64 0, .int .i64 0, .int .u64 0, .int .i64 0, .int .i64 0, .int .u32 0, .int .u64 0, .int .i64 0, .slice none 0 0, .string ⟨#[]⟩, .int .u64 0, .int .u32 0, .slice none 0 0, .int .u64 0, .int .i64 0, .int .u32 0, .int .u64 0, .int .u64 0, .int .i64 0, .int .u64 0, .slice none 0 0] 73 (0, 0))) := Lib.hid (by rw [hw1, show w.heap.size + 1 = (w.alloc (.cells c 73)).heap.size by simp]; exact heap_alloc_new _ _)
  have HT1 := Lib.hid (h.kept hbel)
  have HO1 := Lib.hid (Only.of_below (g := g) hbel)
  have HW1 := Lib.hid hw1
  have R1 := Lib.hid hr1
  have R2 := Lib.hid hr2
  have R3 := Lib.hid hr3
  clear h hr1 hr2 hr3 hw1 hbel
  go_enter Try.func71, Try.ntmps71
  go_wp2_with fail
  rw [← HW1.out]
  refine (tnum g s m 8 st w1 HT1.out hs (by omega) (by omega) (by omega)).mono ?_
  rintro e w2 ⟨v, st2, rfl, hv, hvia, hT, ho⟩
  have H0_2 : Hid (w2.heap[w.heap.size]? = some (.cells c 73 (0, 0))) := Lib.hid ((ho.block w.heap.size (by omega) (by simpa using n0)).trans H0_1.out)
  have H1_2 : Hid (w2.heap[w.heap.size + 1]? = some (.cells #[.int .i64 0, .int .i64 0, .int .i64 0, .int .u64 0, .int .i64 0, .int .i64 0, .int .u32 0, .int .u64 0, .int .i64 0, .slice none 0 0, .string ⟨#[]⟩, .int .u64 0, .int .u32 0, .slice none 0 0, .int .u64 0, .int .i64 0, .int .u32 0, .int .u64 0, .int .u64 0, .int .i64 0, .int .u64 0, .slice none 0 0] 73 (0, 0))) := Lib.hid ((ho.block (w.heap.size + 1) (by omega) (by simpa using n1)).trans H1_1.out)
  have HT2 := Lib.hid hT
  have HO2 := Lib.hid (HO1.out.trans ho)
  have HV := Lib.hid hvia
  clear hT ho hvia H0_1 H1_1 HT1 HO1
  have k11 : w2.cell? ⟨w.heap.size, 11, none⟩ = some (.int .u64 (stamp : Int)) := (cell_of_row _ _ 11 _ _ _ H0_2.out).trans (by rw [HC.out]; rfl)
  have f11 : w2.frozen? ⟨w.heap.size, 11, none⟩ = false := by simp only [World.frozen?, H0_2.out]; rfl
  obtain ⟨W, hW⟩ : ∃ W, W = (w2.setCell ⟨w.heap.size, 11, none⟩ (.int .u64 (v : Int))) := ⟨_, rfl⟩
  have RA : W.heap[w.heap.size]? = some (.cells #[.int .i64 kind, .int .i64 src, .int .i64 dst, .int .u64 (ce : Int), .int .i64 cr, .int .i64 mf, .int .u32 (ms : Int), .int .u64 (mt : Int), .int .i64 mv, .slice Am md.length cm, .string my, .int .u64 (v : Int), .int .u32 (sent : Int), .slice Ag got.length cg, .int .u64 (horizon : Int), .int .i64 whom, .int .u32 (seq : Int), .int .u64 (members : Int), .int .u64 (pe : Int), .int .i64 pr, .int .u64 (epoch : Int), .slice Ax x.length cx] 73 (0, 0)) := by
    rw [hW]
    refine (blk_setj H0_2.out 11 (.int .u64 (v : Int))).trans ?_
    rw [HC.out]
    rfl
  have RB : W.heap[w.heap.size + 1]? = some (.cells #[.int .i64 0, .int .i64 0, .int .i64 0, .int .u64 0, .int .i64 0, .int .i64 0, .int .u32 0, .int .u64 0, .int .i64 0, .slice none 0 0, .string ⟨#[]⟩, .int .u64 0, .int .u32 0, .slice none 0 0, .int .u64 0, .int .i64 0, .int .u32 0, .int .u64 0, .int .u64 0, .int .i64 0, .int .u64 0, .slice none 0 0] 73 (0, 0)) := by rw [hW]; exact ((Below.heap_setCell _ ⟨w.heap.size, 11, none⟩ (.int .u64 (v : Int)) (w.heap.size + 1) (by simp)).trans H1_2.out)
  have HT3 : Hid (Tk W g s _ _) := Lib.hid (by rw [hW]; exact (HT2.out.set n0 11 (.int .u64 (v : Int))))
  have HO3 : Hid (Only g w W) := Lib.hid (by rw [hW]; exact (HO2.out.fresh (Nat.le_refl _) 11 (.int .u64 (v : Int))))
  have HWE := Lib.hid hW
  clear hW
  have mk := True.intro
  go_wp2_with (first | (clear mk; rw [← HWE.out]; refine wpList_load_row rfl 73 (.tmp 5) rfl w.heap.size (by simp [Act.eval, Act.put]) 73 #[.int .i64 kind, .int .i64 src, .int .i64 dst, .int .u64 (ce : Int), .int .i64 cr, .int .i64 mf, .int .u32 (ms : Int), .int .u64 (mt : Int), .int .i64 mv, .slice Am md.length cm, .string my, .int .u64 (v : Int), .int .u32 (sent : Int), .slice Ag got.length cg, .int .u64 (horizon : Int), .int .i64 whom, .int .u32 (seq : Int), .int .u64 (members : Int), .int .u64 (pe : Int), .int .i64 pr, .int .u64 (epoch : Int), .slice Ax x.length cx] (0, 0) _ RA Try.underlying73 rfl info73 ?_; have mk2 := True.intro) | (clear mk2; refine wpList_store_row rfl 73 (.tmp 6) (.tmp 110) rfl (w.heap.size + 1) #[.int .i64 kind, .int .i64 src, .int .i64 dst, .int .u64 (ce : Int), .int .i64 cr, .int .i64 mf, .int .u32 (ms : Int), .int .u64 (mt : Int), .int .i64 mv, .slice Am md.length cm, .string my, .int .u64 (v : Int), .int .u32 (sent : Int), .slice Ag got.length cg, .int .u64 (horizon : Int), .int .i64 whom, .int .u32 (seq : Int), .int .u64 (members : Int), .int .u64 (pe : Int), .int .i64 pr, .int .u64 (epoch : Int), .slice Ax x.length cx] (by simp [Act.eval, Act.put]) (by simp [Act.eval, Act.put]) 73 #[.int .i64 0, .int .i64 0, .int .i64 0, .int .u64 0, .int .i64 0, .int .i64 0, .int .u32 0, .int .u64 0, .int .i64 0, .slice none 0 0, .string ⟨#[]⟩, .int .u64 0, .int .u32 0, .slice none 0 0, .int .u64 0, .int .i64 0, .int .u32 0, .int .u64 0, .int .u64 0, .int .i64 0, .int .u64 0, .slice none 0 0] RB info73 rfl (by kernel_rfl) ?_))
  have hf := setRow_heap W (w.heap.size + 1) #[.int .i64 0, .int .i64 0, .int .i64 0, .int .u64 0, .int .i64 0, .int .i64 0, .int .u32 0, .int .u64 0, .int .i64 0, .slice none 0 0, .string ⟨#[]⟩, .int .u64 0, .int .u32 0, .slice none 0 0, .int .u64 0, .int .i64 0, .int .u32 0, .int .u64 0, .int .u64 0, .int .i64 0, .int .u64 0, .slice none 0 0] #[.int .i64 kind, .int .i64 src, .int .i64 dst, .int .u64 (ce : Int), .int .i64 cr, .int .i64 mf, .int .u32 (ms : Int), .int .u64 (mt : Int), .int .i64 mv, .slice Am md.length cm, .string my, .int .u64 (v : Int), .int .u32 (sent : Int), .slice Ag got.length cg, .int .u64 (horizon : Int), .int .i64 whom, .int .u32 (seq : Int), .int .u64 (members : Int), .int .u64 (pe : Int), .int .i64 pr, .int .u64 (epoch : Int), .slice Ax x.length cx] 73 (0, 0) RB
  have hO := only_setRow (k := w.heap.size + 1) HO3.out (by omega) #[.int .i64 kind, .int .i64 src, .int .i64 dst, .int .u64 (ce : Int), .int .i64 cr, .int .i64 mf, .int .u32 (ms : Int), .int .u64 (mt : Int), .int .i64 mv, .slice Am md.length cm, .string my, .int .u64 (v : Int), .int .u32 (sent : Int), .slice Ag got.length cg, .int .u64 (horizon : Int), .int .i64 whom, .int .u32 (seq : Int), .int .u64 (members : Int), .int .u64 (pe : Int), .int .i64 pr, .int .u64 (epoch : Int), .slice Ax x.length cx]
  refine bodyPost_ret (v := .agg #[.int .i64 kind, .int .i64 src, .int .i64 dst, .int .u64 (ce : Int), .int .i64 cr, .int .i64 mf, .int .u32 (ms : Int), .int .u64 (mt : Int), .int .i64 mv, .slice Am md.length cm, .string my, .int .u64 (v : Int), .int .u32 (sent : Int), .slice Ag got.length cg, .int .u64 (horizon : Int), .int .i64 whom, .int .u32 (seq : Int), .int .u64 (members : Int), .int .u64 (pe : Int), .int .i64 pr, .int .u64 (epoch : Int), .slice Ax x.length cx]) (results_cell_row Try.results71 _ _ _ _ _ _ _ (by simp [Act.put]) hf Try.underlying73 rfl info73) rfl ?_
  refine ⟨⟨kind, src, dst, ⟨ce, cr⟩, ⟨mf, ms, mt, mv, md, my⟩, v, sent, got, horizon, whom, seq, members, ⟨pe, pr⟩, epoch, x⟩, Am, cm, Ag, cg, Ax, cx, _, rfl, ⟨own_keep_only R1.out hO hgB, own_keep_only R2.out hO hgB, XOwn.keep_only R3.out hO hgB⟩, ?_, (tk_setRow HT3.out n1 #[.int .i64 kind, .int .i64 src, .int .i64 dst, .int .u64 (ce : Int), .int .i64 cr, .int .i64 mf, .int .u32 (ms : Int), .int .u64 (mt : Int), .int .i64 mv, .slice Am md.length cm, .string my, .int .u64 (v : Int), .int .u32 (sent : Int), .slice Ag got.length cg, .int .u64 (horizon : Int), .int .i64 whom, .int .u32 (seq : Int), .int .u64 (members : Int), .int .u64 (pe : Int), .int .i64 pr, .int .u64 (epoch : Int), .slice Ax x.length cx]).mono (by omega), hO, fun _ h => by cases h; rfl⟩
  exact via_and (P := numP 8) (Q := fun z r => .ok ((⟨kind, src, dst, ⟨ce, cr⟩, ⟨mf, ms, mt, mv, md, my⟩, z, sent, got, horizon, whom, seq, members, ⟨pe, pr⟩, epoch, x⟩ : Pk), r)) HV.out

set_option maxHeartbeats 3200000 in
set_option maxRecDepth 8000 in
theorem tfield_n (g : Nat) (s : ByteArray) (m : Nat) (st : St) (p : Pk) (Am : Option Addr) (cm : Nat) (Ag : Option Addr) (cg : Nat) (Ax : Option Addr) (cx : Nat) (B : Nat) (w : World) (h : Tk w g s m st) (hs : s.size ≤ 1000000) (hm : m ≤ 1600000)
    (hgB : g < B) (hB : B ≤ w.heap.size) (hr : PkRows w B p Am cm Ag cg Ax cx) :
    Calls Try.prog 71 #[.pointer (some ⟨g, 0, none⟩), .int .u8 110, pkV p Am cm Ag cg Ax cx] w (TF g s m st B (fieldP 110 p) (some (p.x, Ax, cx)) w) := by
  obtain ⟨kind, src, dst, ⟨ce, cr⟩, ⟨mf, ms, mt, mv, md, my⟩, stamp, sent, got, horizon, whom, seq, members, ⟨pe, pr⟩, epoch, x⟩ := p
  obtain ⟨hr1, hr2, hr3⟩ := hr
  dsimp only at *
  obtain ⟨c, hc⟩ : ∃ c : Array Value, c = #[.int .i64 kind, .int .i64 src, .int .i64 dst, .int .u64 (ce : Int), .int .i64 cr, .int .i64 mf, .int .u32 (ms : Int), .int .u64 (mt : Int), .int .i64 mv, .slice Am md.length cm, .string my, .int .u64 (stamp : Int), .int .u32 (sent : Int), .slice Ag got.length cg, .int .u64 (horizon : Int), .int .i64 whom, .int .u32 (seq : Int), .int .u64 (members : Int), .int .u64 (pe : Int), .int .i64 pr, .int .u64 (epoch : Int), .slice Ax x.length cx] := ⟨_, rfl⟩
  rw [show pkV (⟨kind, src, dst, ⟨ce, cr⟩, ⟨mf, ms, mt, mv, md, my⟩, stamp, sent, got, horizon, whom, seq, members, ⟨pe, pr⟩, epoch, x⟩ : Pk) Am cm Ag cg Ax cx = .agg c from by rw [hc]; rfl]
  have HC := Lib.hid hc
  clear hc
  obtain ⟨w1, hw1⟩ : ∃ W, W = ((w.alloc (.cells c 73)).alloc (.cells #[.int .i64 0, .int .i64 0, .int .i64 0, .int .u64 0, .int .i64 0, .int .i64 0, .int .u32 0, .int .u64 0, .int .i64 0, .slice none 0 0, .string ⟨#[]⟩, .int .u64 0, .int .u32 0, .slice none 0 0, .int .u64 0, .int .i64 0, .int .u32 0, .int .u64 0, .int .u64 0, .int .i64 0, .int .u64 0, .slice none 0 0] 73)) := ⟨_, rfl⟩
  have hbel := below_alloc (below_alloc (Below.refl w.heap.size w) (.cells c 73)) (.cells #[.int .i64 0, .int .i64 0, .int .i64 0, .int .u64 0, .int .i64 0, .int .i64 0, .int .u32 0, .int .u64 0, .int .i64 0, .slice none 0 0, .string ⟨#[]⟩, .int .u64 0, .int .u32 0, .slice none 0 0, .int .u64 0, .int .i64 0, .int .u32 0, .int .u64 0, .int .u64 0, .int .i64 0, .int .u64 0, .slice none 0 0] 73)
  rw [← hw1] at hbel
  have hsz : w1.heap.size = w.heap.size + 1 + 1 := by rw [hw1]; simp
  have hg := h.lt
  have n0 : w.heap.size ≠ g := by omega
  have n1 : w.heap.size + 1 ≠ g := by omega
  have H0_1 : Hid (w1.heap[w.heap.size]? = some (.cells c 73 (0, 0))) := Lib.hid (by rw [hw1]; exact (Below.heap_alloc _ _ _ (by simp)).trans (heap_alloc_new w _))
  have H1_1 : Hid (w1.heap[w.heap.size + 1]? = some (.cells #[.int .i64 0, .int .i64 0, .int .i64 0, .int .u64 0, .int .i64 0, .int .i64 0, .int .u32 0, .int .u64 0, .int .i64 0, .slice none 0 0, .string ⟨#[]⟩, .int .u64 0, .int .u32 0, .slice none 0 0, .int .u64 0, .int .i64 0, .int .u32 0, .int .u64 0, .int .u64 0, .int .i64 0, .int .u64 0, .slice none 0 0] 73 (0, 0))) := Lib.hid (by rw [hw1, show w.heap.size + 1 = (w.alloc (.cells c 73)).heap.size by simp]; exact heap_alloc_new _ _)
  have HT1 := Lib.hid (h.kept hbel)
  have HO1 := Lib.hid (Only.of_below (g := g) hbel)
  have HW1 := Lib.hid hw1
  have R1 := Lib.hid hr1
  have R2 := Lib.hid hr2
  have R3 := Lib.hid hr3
  clear h hr1 hr2 hr3 hw1 hbel
  go_enter Try.func71, Try.ntmps71
  go_wp2_with fail
  rw [← HW1.out]
  refine (tnum g s m 4 st w1 HT1.out hs (by omega) (by omega) (by omega)).mono ?_
  rintro e w2 ⟨v, st2, rfl, hv, hvia, hT, ho⟩
  have hv4 : v < 4294967296 := hv
  have eu : IntKind.u32.wrap (v : Int) = (v : Int) := by rw [IntKind.wrap_u32]; omega
  have H0_2 : Hid (w2.heap[w.heap.size]? = some (.cells c 73 (0, 0))) := Lib.hid ((ho.block w.heap.size (by omega) (by simpa using n0)).trans H0_1.out)
  have H1_2 : Hid (w2.heap[w.heap.size + 1]? = some (.cells #[.int .i64 0, .int .i64 0, .int .i64 0, .int .u64 0, .int .i64 0, .int .i64 0, .int .u32 0, .int .u64 0, .int .i64 0, .slice none 0 0, .string ⟨#[]⟩, .int .u64 0, .int .u32 0, .slice none 0 0, .int .u64 0, .int .i64 0, .int .u32 0, .int .u64 0, .int .u64 0, .int .i64 0, .int .u64 0, .slice none 0 0] 73 (0, 0))) := Lib.hid ((ho.block (w.heap.size + 1) (by omega) (by simpa using n1)).trans H1_1.out)
  have HT2 := Lib.hid hT
  have HO2 := Lib.hid (HO1.out.trans ho)
  have HV := Lib.hid hvia
  clear hT ho hvia H0_1 H1_1 HT1 HO1
  have k12 : w2.cell? ⟨w.heap.size, 12, none⟩ = some (.int .u32 (sent : Int)) := (cell_of_row _ _ 12 _ _ _ H0_2.out).trans (by rw [HC.out]; rfl)
  have f12 : w2.frozen? ⟨w.heap.size, 12, none⟩ = false := by simp only [World.frozen?, H0_2.out]; rfl
  obtain ⟨W, hW⟩ : ∃ W, W = (w2.setCell ⟨w.heap.size, 12, none⟩ (.int .u32 (v : Int))) := ⟨_, rfl⟩
  have RA : W.heap[w.heap.size]? = some (.cells #[.int .i64 kind, .int .i64 src, .int .i64 dst, .int .u64 (ce : Int), .int .i64 cr, .int .i64 mf, .int .u32 (ms : Int), .int .u64 (mt : Int), .int .i64 mv, .slice Am md.length cm, .string my, .int .u64 (stamp : Int), .int .u32 (v : Int), .slice Ag got.length cg, .int .u64 (horizon : Int), .int .i64 whom, .int .u32 (seq : Int), .int .u64 (members : Int), .int .u64 (pe : Int), .int .i64 pr, .int .u64 (epoch : Int), .slice Ax x.length cx] 73 (0, 0)) := by
    rw [hW]
    refine (blk_setj H0_2.out 12 (.int .u32 (v : Int))).trans ?_
    rw [HC.out]
    rfl
  have RB : W.heap[w.heap.size + 1]? = some (.cells #[.int .i64 0, .int .i64 0, .int .i64 0, .int .u64 0, .int .i64 0, .int .i64 0, .int .u32 0, .int .u64 0, .int .i64 0, .slice none 0 0, .string ⟨#[]⟩, .int .u64 0, .int .u32 0, .slice none 0 0, .int .u64 0, .int .i64 0, .int .u32 0, .int .u64 0, .int .u64 0, .int .i64 0, .int .u64 0, .slice none 0 0] 73 (0, 0)) := by rw [hW]; exact ((Below.heap_setCell _ ⟨w.heap.size, 12, none⟩ (.int .u32 (v : Int)) (w.heap.size + 1) (by simp)).trans H1_2.out)
  have HT3 : Hid (Tk W g s _ _) := Lib.hid (by rw [hW]; exact (HT2.out.set n0 12 (.int .u32 (v : Int))))
  have HO3 : Hid (Only g w W) := Lib.hid (by rw [hW]; exact (HO2.out.fresh (Nat.le_refl _) 12 (.int .u32 (v : Int))))
  have HWE := Lib.hid hW
  clear hW
  have mk := True.intro
  go_wp2_with (first | (clear mk; rw [← HWE.out]; refine wpList_load_row rfl 73 (.tmp 5) rfl w.heap.size (by simp [Act.eval, Act.put]) 73 #[.int .i64 kind, .int .i64 src, .int .i64 dst, .int .u64 (ce : Int), .int .i64 cr, .int .i64 mf, .int .u32 (ms : Int), .int .u64 (mt : Int), .int .i64 mv, .slice Am md.length cm, .string my, .int .u64 (stamp : Int), .int .u32 (v : Int), .slice Ag got.length cg, .int .u64 (horizon : Int), .int .i64 whom, .int .u32 (seq : Int), .int .u64 (members : Int), .int .u64 (pe : Int), .int .i64 pr, .int .u64 (epoch : Int), .slice Ax x.length cx] (0, 0) _ RA Try.underlying73 rfl info73 ?_; have mk2 := True.intro) | (clear mk2; refine wpList_store_row rfl 73 (.tmp 6) (.tmp 110) rfl (w.heap.size + 1) #[.int .i64 kind, .int .i64 src, .int .i64 dst, .int .u64 (ce : Int), .int .i64 cr, .int .i64 mf, .int .u32 (ms : Int), .int .u64 (mt : Int), .int .i64 mv, .slice Am md.length cm, .string my, .int .u64 (stamp : Int), .int .u32 (v : Int), .slice Ag got.length cg, .int .u64 (horizon : Int), .int .i64 whom, .int .u32 (seq : Int), .int .u64 (members : Int), .int .u64 (pe : Int), .int .i64 pr, .int .u64 (epoch : Int), .slice Ax x.length cx] (by simp [Act.eval, Act.put]) (by simp [Act.eval, Act.put]) 73 #[.int .i64 0, .int .i64 0, .int .i64 0, .int .u64 0, .int .i64 0, .int .i64 0, .int .u32 0, .int .u64 0, .int .i64 0, .slice none 0 0, .string ⟨#[]⟩, .int .u64 0, .int .u32 0, .slice none 0 0, .int .u64 0, .int .i64 0, .int .u32 0, .int .u64 0, .int .u64 0, .int .i64 0, .int .u64 0, .slice none 0 0] RB info73 rfl (by kernel_rfl) ?_))
  have hf := setRow_heap W (w.heap.size + 1) #[.int .i64 0, .int .i64 0, .int .i64 0, .int .u64 0, .int .i64 0, .int .i64 0, .int .u32 0, .int .u64 0, .int .i64 0, .slice none 0 0, .string ⟨#[]⟩, .int .u64 0, .int .u32 0, .slice none 0 0, .int .u64 0, .int .i64 0, .int .u32 0, .int .u64 0, .int .u64 0, .int .i64 0, .int .u64 0, .slice none 0 0] #[.int .i64 kind, .int .i64 src, .int .i64 dst, .int .u64 (ce : Int), .int .i64 cr, .int .i64 mf, .int .u32 (ms : Int), .int .u64 (mt : Int), .int .i64 mv, .slice Am md.length cm, .string my, .int .u64 (stamp : Int), .int .u32 (v : Int), .slice Ag got.length cg, .int .u64 (horizon : Int), .int .i64 whom, .int .u32 (seq : Int), .int .u64 (members : Int), .int .u64 (pe : Int), .int .i64 pr, .int .u64 (epoch : Int), .slice Ax x.length cx] 73 (0, 0) RB
  have hO := only_setRow (k := w.heap.size + 1) HO3.out (by omega) #[.int .i64 kind, .int .i64 src, .int .i64 dst, .int .u64 (ce : Int), .int .i64 cr, .int .i64 mf, .int .u32 (ms : Int), .int .u64 (mt : Int), .int .i64 mv, .slice Am md.length cm, .string my, .int .u64 (stamp : Int), .int .u32 (v : Int), .slice Ag got.length cg, .int .u64 (horizon : Int), .int .i64 whom, .int .u32 (seq : Int), .int .u64 (members : Int), .int .u64 (pe : Int), .int .i64 pr, .int .u64 (epoch : Int), .slice Ax x.length cx]
  refine bodyPost_ret (v := .agg #[.int .i64 kind, .int .i64 src, .int .i64 dst, .int .u64 (ce : Int), .int .i64 cr, .int .i64 mf, .int .u32 (ms : Int), .int .u64 (mt : Int), .int .i64 mv, .slice Am md.length cm, .string my, .int .u64 (stamp : Int), .int .u32 (v : Int), .slice Ag got.length cg, .int .u64 (horizon : Int), .int .i64 whom, .int .u32 (seq : Int), .int .u64 (members : Int), .int .u64 (pe : Int), .int .i64 pr, .int .u64 (epoch : Int), .slice Ax x.length cx]) (results_cell_row Try.results71 _ _ _ _ _ _ _ (by simp [Act.put]) hf Try.underlying73 rfl info73) rfl ?_
  refine ⟨⟨kind, src, dst, ⟨ce, cr⟩, ⟨mf, ms, mt, mv, md, my⟩, stamp, v, got, horizon, whom, seq, members, ⟨pe, pr⟩, epoch, x⟩, Am, cm, Ag, cg, Ax, cx, _, rfl, ⟨own_keep_only R1.out hO hgB, own_keep_only R2.out hO hgB, XOwn.keep_only R3.out hO hgB⟩, ?_, (tk_setRow HT3.out n1 #[.int .i64 kind, .int .i64 src, .int .i64 dst, .int .u64 (ce : Int), .int .i64 cr, .int .i64 mf, .int .u32 (ms : Int), .int .u64 (mt : Int), .int .i64 mv, .slice Am md.length cm, .string my, .int .u64 (stamp : Int), .int .u32 (v : Int), .slice Ag got.length cg, .int .u64 (horizon : Int), .int .i64 whom, .int .u32 (seq : Int), .int .u64 (members : Int), .int .u64 (pe : Int), .int .i64 pr, .int .u64 (epoch : Int), .slice Ax x.length cx]).mono (by omega), hO, fun _ h => by cases h; rfl⟩
  exact via_and (P := numP 4) (Q := fun z r => .ok ((⟨kind, src, dst, ⟨ce, cr⟩, ⟨mf, ms, mt, mv, md, my⟩, stamp, z, got, horizon, whom, seq, members, ⟨pe, pr⟩, epoch, x⟩ : Pk), r)) HV.out

set_option maxHeartbeats 3200000 in
set_option maxRecDepth 8000 in
theorem tfield_g (g : Nat) (s : ByteArray) (m : Nat) (st : St) (p : Pk) (Am : Option Addr) (cm : Nat) (Ag : Option Addr) (cg : Nat) (Ax : Option Addr) (cx : Nat) (B : Nat) (w : World) (h : Tk w g s m st) (hs : s.size ≤ 1000000) (hm : m ≤ 1600000)
    (hgB : g < B) (hB : B ≤ w.heap.size) (hr : PkRows w B p Am cm Ag cg Ax cx) :
    Calls Try.prog 71 #[.pointer (some ⟨g, 0, none⟩), .int .u8 103, pkV p Am cm Ag cg Ax cx] w (TF g s m st B (fieldP 103 p) (some (p.x, Ax, cx)) w) := by
  obtain ⟨kind, src, dst, ⟨ce, cr⟩, ⟨mf, ms, mt, mv, md, my⟩, stamp, sent, got, horizon, whom, seq, members, ⟨pe, pr⟩, epoch, x⟩ := p
  obtain ⟨hr1, hr2, hr3⟩ := hr
  dsimp only at *
  obtain ⟨c, hc⟩ : ∃ c : Array Value, c = #[.int .i64 kind, .int .i64 src, .int .i64 dst, .int .u64 (ce : Int), .int .i64 cr, .int .i64 mf, .int .u32 (ms : Int), .int .u64 (mt : Int), .int .i64 mv, .slice Am md.length cm, .string my, .int .u64 (stamp : Int), .int .u32 (sent : Int), .slice Ag got.length cg, .int .u64 (horizon : Int), .int .i64 whom, .int .u32 (seq : Int), .int .u64 (members : Int), .int .u64 (pe : Int), .int .i64 pr, .int .u64 (epoch : Int), .slice Ax x.length cx] := ⟨_, rfl⟩
  rw [show pkV (⟨kind, src, dst, ⟨ce, cr⟩, ⟨mf, ms, mt, mv, md, my⟩, stamp, sent, got, horizon, whom, seq, members, ⟨pe, pr⟩, epoch, x⟩ : Pk) Am cm Ag cg Ax cx = .agg c from by rw [hc]; rfl]
  have HC := Lib.hid hc
  clear hc
  obtain ⟨w1, hw1⟩ : ∃ W, W = ((w.alloc (.cells c 73)).alloc (.cells #[.int .i64 0, .int .i64 0, .int .i64 0, .int .u64 0, .int .i64 0, .int .i64 0, .int .u32 0, .int .u64 0, .int .i64 0, .slice none 0 0, .string ⟨#[]⟩, .int .u64 0, .int .u32 0, .slice none 0 0, .int .u64 0, .int .i64 0, .int .u32 0, .int .u64 0, .int .u64 0, .int .i64 0, .int .u64 0, .slice none 0 0] 73)) := ⟨_, rfl⟩
  have hbel := below_alloc (below_alloc (Below.refl w.heap.size w) (.cells c 73)) (.cells #[.int .i64 0, .int .i64 0, .int .i64 0, .int .u64 0, .int .i64 0, .int .i64 0, .int .u32 0, .int .u64 0, .int .i64 0, .slice none 0 0, .string ⟨#[]⟩, .int .u64 0, .int .u32 0, .slice none 0 0, .int .u64 0, .int .i64 0, .int .u32 0, .int .u64 0, .int .u64 0, .int .i64 0, .int .u64 0, .slice none 0 0] 73)
  rw [← hw1] at hbel
  have hsz : w1.heap.size = w.heap.size + 1 + 1 := by rw [hw1]; simp
  have hg := h.lt
  have n0 : w.heap.size ≠ g := by omega
  have n1 : w.heap.size + 1 ≠ g := by omega
  have H0_1 : Hid (w1.heap[w.heap.size]? = some (.cells c 73 (0, 0))) := Lib.hid (by rw [hw1]; exact (Below.heap_alloc _ _ _ (by simp)).trans (heap_alloc_new w _))
  have H1_1 : Hid (w1.heap[w.heap.size + 1]? = some (.cells #[.int .i64 0, .int .i64 0, .int .i64 0, .int .u64 0, .int .i64 0, .int .i64 0, .int .u32 0, .int .u64 0, .int .i64 0, .slice none 0 0, .string ⟨#[]⟩, .int .u64 0, .int .u32 0, .slice none 0 0, .int .u64 0, .int .i64 0, .int .u32 0, .int .u64 0, .int .u64 0, .int .i64 0, .int .u64 0, .slice none 0 0] 73 (0, 0))) := Lib.hid (by rw [hw1, show w.heap.size + 1 = (w.alloc (.cells c 73)).heap.size by simp]; exact heap_alloc_new _ _)
  have HT1 := Lib.hid (h.kept hbel)
  have HO1 := Lib.hid (Only.of_below (g := g) hbel)
  have HW1 := Lib.hid hw1
  have R1 := Lib.hid hr1
  have R2 := Lib.hid hr2
  have R3 := Lib.hid hr3
  clear h hr1 hr2 hr3 hw1 hbel
  go_enter Try.func71, Try.ntmps71
  go_wp2_with fail
  rw [← HW1.out]
  refine (tvec g s m st w1 HT1.out hs (by omega)).mono ?_
  rintro e w2 ⟨us, A, cc, st2, rfl, hown, hvia, hT, ho⟩
  have HN2 := Lib.hid hown
  clear hown
  have H0_2 : Hid (w2.heap[w.heap.size]? = some (.cells c 73 (0, 0))) := Lib.hid ((ho.block w.heap.size (by omega) (by simpa using n0)).trans H0_1.out)
  have H1_2 : Hid (w2.heap[w.heap.size + 1]? = some (.cells #[.int .i64 0, .int .i64 0, .int .i64 0, .int .u64 0, .int .i64 0, .int .i64 0, .int .u32 0, .int .u64 0, .int .i64 0, .slice none 0 0, .string ⟨#[]⟩, .int .u64 0, .int .u32 0, .slice none 0 0, .int .u64 0, .int .i64 0, .int .u32 0, .int .u64 0, .int .u64 0, .int .i64 0, .int .u64 0, .slice none 0 0] 73 (0, 0))) := Lib.hid ((ho.block (w.heap.size + 1) (by omega) (by simpa using n1)).trans H1_1.out)
  have HT2 := Lib.hid hT
  have HO2 := Lib.hid (HO1.out.trans ho)
  have HV := Lib.hid hvia
  clear hT ho hvia H0_1 H1_1 HT1 HO1
  have k13 : w2.cell? ⟨w.heap.size, 13, none⟩ = some (.slice Ag got.length cg) := (cell_of_row _ _ 13 _ _ _ H0_2.out).trans (by rw [HC.out]; rfl)
  have f13 : w2.frozen? ⟨w.heap.size, 13, none⟩ = false := by simp only [World.frozen?, H0_2.out]; rfl
  obtain ⟨W, hW⟩ : ∃ W, W = (w2.setCell ⟨w.heap.size, 13, none⟩ (.slice A us.length cc)) := ⟨_, rfl⟩
  have RA : W.heap[w.heap.size]? = some (.cells #[.int .i64 kind, .int .i64 src, .int .i64 dst, .int .u64 (ce : Int), .int .i64 cr, .int .i64 mf, .int .u32 (ms : Int), .int .u64 (mt : Int), .int .i64 mv, .slice Am md.length cm, .string my, .int .u64 (stamp : Int), .int .u32 (sent : Int), .slice A us.length cc, .int .u64 (horizon : Int), .int .i64 whom, .int .u32 (seq : Int), .int .u64 (members : Int), .int .u64 (pe : Int), .int .i64 pr, .int .u64 (epoch : Int), .slice Ax x.length cx] 73 (0, 0)) := by
    rw [hW]
    refine (blk_setj H0_2.out 13 (.slice A us.length cc)).trans ?_
    rw [HC.out]
    rfl
  have RB : W.heap[w.heap.size + 1]? = some (.cells #[.int .i64 0, .int .i64 0, .int .i64 0, .int .u64 0, .int .i64 0, .int .i64 0, .int .u32 0, .int .u64 0, .int .i64 0, .slice none 0 0, .string ⟨#[]⟩, .int .u64 0, .int .u32 0, .slice none 0 0, .int .u64 0, .int .i64 0, .int .u32 0, .int .u64 0, .int .u64 0, .int .i64 0, .int .u64 0, .slice none 0 0] 73 (0, 0)) := by rw [hW]; exact ((Below.heap_setCell _ ⟨w.heap.size, 13, none⟩ (.slice A us.length cc) (w.heap.size + 1) (by simp)).trans H1_2.out)
  have HT3 : Hid (Tk W g s _ _) := Lib.hid (by rw [hW]; exact (HT2.out.set n0 13 (.slice A us.length cc)))
  have HO3 : Hid (Only g w W) := Lib.hid (by rw [hW]; exact (HO2.out.fresh (Nat.le_refl _) 13 (.slice A us.length cc)))
  have HN : Hid (W.ownsRow w1.heap.size 25 1 (.slice A us.length cc) us.length (uvals us)) := Lib.hid (by rw [hW]; exact own_keep_set HN2.out (by omega) 13 (.slice A us.length cc))
  have HWE := Lib.hid hW
  clear hW
  have mk := True.intro
  go_wp2_with (first | (clear mk; rw [← HWE.out]; refine wpList_load_row rfl 73 (.tmp 5) rfl w.heap.size (by simp [Act.eval, Act.put]) 73 #[.int .i64 kind, .int .i64 src, .int .i64 dst, .int .u64 (ce : Int), .int .i64 cr, .int .i64 mf, .int .u32 (ms : Int), .int .u64 (mt : Int), .int .i64 mv, .slice Am md.length cm, .string my, .int .u64 (stamp : Int), .int .u32 (sent : Int), .slice A us.length cc, .int .u64 (horizon : Int), .int .i64 whom, .int .u32 (seq : Int), .int .u64 (members : Int), .int .u64 (pe : Int), .int .i64 pr, .int .u64 (epoch : Int), .slice Ax x.length cx] (0, 0) _ RA Try.underlying73 rfl info73 ?_; have mk2 := True.intro) | (clear mk2; refine wpList_store_row rfl 73 (.tmp 6) (.tmp 110) rfl (w.heap.size + 1) #[.int .i64 kind, .int .i64 src, .int .i64 dst, .int .u64 (ce : Int), .int .i64 cr, .int .i64 mf, .int .u32 (ms : Int), .int .u64 (mt : Int), .int .i64 mv, .slice Am md.length cm, .string my, .int .u64 (stamp : Int), .int .u32 (sent : Int), .slice A us.length cc, .int .u64 (horizon : Int), .int .i64 whom, .int .u32 (seq : Int), .int .u64 (members : Int), .int .u64 (pe : Int), .int .i64 pr, .int .u64 (epoch : Int), .slice Ax x.length cx] (by simp [Act.eval, Act.put]) (by simp [Act.eval, Act.put]) 73 #[.int .i64 0, .int .i64 0, .int .i64 0, .int .u64 0, .int .i64 0, .int .i64 0, .int .u32 0, .int .u64 0, .int .i64 0, .slice none 0 0, .string ⟨#[]⟩, .int .u64 0, .int .u32 0, .slice none 0 0, .int .u64 0, .int .i64 0, .int .u32 0, .int .u64 0, .int .u64 0, .int .i64 0, .int .u64 0, .slice none 0 0] RB info73 rfl (by kernel_rfl) ?_))
  have hf := setRow_heap W (w.heap.size + 1) #[.int .i64 0, .int .i64 0, .int .i64 0, .int .u64 0, .int .i64 0, .int .i64 0, .int .u32 0, .int .u64 0, .int .i64 0, .slice none 0 0, .string ⟨#[]⟩, .int .u64 0, .int .u32 0, .slice none 0 0, .int .u64 0, .int .i64 0, .int .u32 0, .int .u64 0, .int .u64 0, .int .i64 0, .int .u64 0, .slice none 0 0] #[.int .i64 kind, .int .i64 src, .int .i64 dst, .int .u64 (ce : Int), .int .i64 cr, .int .i64 mf, .int .u32 (ms : Int), .int .u64 (mt : Int), .int .i64 mv, .slice Am md.length cm, .string my, .int .u64 (stamp : Int), .int .u32 (sent : Int), .slice A us.length cc, .int .u64 (horizon : Int), .int .i64 whom, .int .u32 (seq : Int), .int .u64 (members : Int), .int .u64 (pe : Int), .int .i64 pr, .int .u64 (epoch : Int), .slice Ax x.length cx] 73 (0, 0) RB
  have hO := only_setRow (k := w.heap.size + 1) HO3.out (by omega) #[.int .i64 kind, .int .i64 src, .int .i64 dst, .int .u64 (ce : Int), .int .i64 cr, .int .i64 mf, .int .u32 (ms : Int), .int .u64 (mt : Int), .int .i64 mv, .slice Am md.length cm, .string my, .int .u64 (stamp : Int), .int .u32 (sent : Int), .slice A us.length cc, .int .u64 (horizon : Int), .int .i64 whom, .int .u32 (seq : Int), .int .u64 (members : Int), .int .u64 (pe : Int), .int .i64 pr, .int .u64 (epoch : Int), .slice Ax x.length cx]
  refine bodyPost_ret (v := .agg #[.int .i64 kind, .int .i64 src, .int .i64 dst, .int .u64 (ce : Int), .int .i64 cr, .int .i64 mf, .int .u32 (ms : Int), .int .u64 (mt : Int), .int .i64 mv, .slice Am md.length cm, .string my, .int .u64 (stamp : Int), .int .u32 (sent : Int), .slice A us.length cc, .int .u64 (horizon : Int), .int .i64 whom, .int .u32 (seq : Int), .int .u64 (members : Int), .int .u64 (pe : Int), .int .i64 pr, .int .u64 (epoch : Int), .slice Ax x.length cx]) (results_cell_row Try.results71 _ _ _ _ _ _ _ (by simp [Act.put]) hf Try.underlying73 rfl info73) rfl ?_
  refine ⟨⟨kind, src, dst, ⟨ce, cr⟩, ⟨mf, ms, mt, mv, md, my⟩, stamp, sent, us, horizon, whom, seq, members, ⟨pe, pr⟩, epoch, x⟩, Am, cm, A, cc, Ax, cx, _, rfl, ⟨own_keep_only R1.out hO hgB, own_low_any (own_setRow HN.out (by omega) _) (by omega), XOwn.keep_only R3.out hO hgB⟩, ?_, (tk_setRow HT3.out n1 #[.int .i64 kind, .int .i64 src, .int .i64 dst, .int .u64 (ce : Int), .int .i64 cr, .int .i64 mf, .int .u32 (ms : Int), .int .u64 (mt : Int), .int .i64 mv, .slice Am md.length cm, .string my, .int .u64 (stamp : Int), .int .u32 (sent : Int), .slice A us.length cc, .int .u64 (horizon : Int), .int .i64 whom, .int .u32 (seq : Int), .int .u64 (members : Int), .int .u64 (pe : Int), .int .i64 pr, .int .u64 (epoch : Int), .slice Ax x.length cx]).mono (by omega), hO, fun _ h => by cases h; rfl⟩
  exact via_and (P := vecP) (Q := fun z r => .ok ((⟨kind, src, dst, ⟨ce, cr⟩, ⟨mf, ms, mt, mv, md, my⟩, stamp, sent, z, horizon, whom, seq, members, ⟨pe, pr⟩, epoch, x⟩ : Pk), r)) HV.out

set_option maxHeartbeats 3200000 in
set_option maxRecDepth 8000 in
theorem tfield_h (g : Nat) (s : ByteArray) (m : Nat) (st : St) (p : Pk) (Am : Option Addr) (cm : Nat) (Ag : Option Addr) (cg : Nat) (Ax : Option Addr) (cx : Nat) (B : Nat) (w : World) (h : Tk w g s m st) (hs : s.size ≤ 1000000) (hm : m ≤ 1600000)
    (hgB : g < B) (hB : B ≤ w.heap.size) (hr : PkRows w B p Am cm Ag cg Ax cx) :
    Calls Try.prog 71 #[.pointer (some ⟨g, 0, none⟩), .int .u8 104, pkV p Am cm Ag cg Ax cx] w (TF g s m st B (fieldP 104 p) (some (p.x, Ax, cx)) w) := by
  obtain ⟨kind, src, dst, ⟨ce, cr⟩, ⟨mf, ms, mt, mv, md, my⟩, stamp, sent, got, horizon, whom, seq, members, ⟨pe, pr⟩, epoch, x⟩ := p
  obtain ⟨hr1, hr2, hr3⟩ := hr
  dsimp only at *
  obtain ⟨c, hc⟩ : ∃ c : Array Value, c = #[.int .i64 kind, .int .i64 src, .int .i64 dst, .int .u64 (ce : Int), .int .i64 cr, .int .i64 mf, .int .u32 (ms : Int), .int .u64 (mt : Int), .int .i64 mv, .slice Am md.length cm, .string my, .int .u64 (stamp : Int), .int .u32 (sent : Int), .slice Ag got.length cg, .int .u64 (horizon : Int), .int .i64 whom, .int .u32 (seq : Int), .int .u64 (members : Int), .int .u64 (pe : Int), .int .i64 pr, .int .u64 (epoch : Int), .slice Ax x.length cx] := ⟨_, rfl⟩
  rw [show pkV (⟨kind, src, dst, ⟨ce, cr⟩, ⟨mf, ms, mt, mv, md, my⟩, stamp, sent, got, horizon, whom, seq, members, ⟨pe, pr⟩, epoch, x⟩ : Pk) Am cm Ag cg Ax cx = .agg c from by rw [hc]; rfl]
  have HC := Lib.hid hc
  clear hc
  obtain ⟨w1, hw1⟩ : ∃ W, W = ((w.alloc (.cells c 73)).alloc (.cells #[.int .i64 0, .int .i64 0, .int .i64 0, .int .u64 0, .int .i64 0, .int .i64 0, .int .u32 0, .int .u64 0, .int .i64 0, .slice none 0 0, .string ⟨#[]⟩, .int .u64 0, .int .u32 0, .slice none 0 0, .int .u64 0, .int .i64 0, .int .u32 0, .int .u64 0, .int .u64 0, .int .i64 0, .int .u64 0, .slice none 0 0] 73)) := ⟨_, rfl⟩
  have hbel := below_alloc (below_alloc (Below.refl w.heap.size w) (.cells c 73)) (.cells #[.int .i64 0, .int .i64 0, .int .i64 0, .int .u64 0, .int .i64 0, .int .i64 0, .int .u32 0, .int .u64 0, .int .i64 0, .slice none 0 0, .string ⟨#[]⟩, .int .u64 0, .int .u32 0, .slice none 0 0, .int .u64 0, .int .i64 0, .int .u32 0, .int .u64 0, .int .u64 0, .int .i64 0, .int .u64 0, .slice none 0 0] 73)
  rw [← hw1] at hbel
  have hsz : w1.heap.size = w.heap.size + 1 + 1 := by rw [hw1]; simp
  have hg := h.lt
  have n0 : w.heap.size ≠ g := by omega
  have n1 : w.heap.size + 1 ≠ g := by omega
  have H0_1 : Hid (w1.heap[w.heap.size]? = some (.cells c 73 (0, 0))) := Lib.hid (by rw [hw1]; exact (Below.heap_alloc _ _ _ (by simp)).trans (heap_alloc_new w _))
  have H1_1 : Hid (w1.heap[w.heap.size + 1]? = some (.cells #[.int .i64 0, .int .i64 0, .int .i64 0, .int .u64 0, .int .i64 0, .int .i64 0, .int .u32 0, .int .u64 0, .int .i64 0, .slice none 0 0, .string ⟨#[]⟩, .int .u64 0, .int .u32 0, .slice none 0 0, .int .u64 0, .int .i64 0, .int .u32 0, .int .u64 0, .int .u64 0, .int .i64 0, .int .u64 0, .slice none 0 0] 73 (0, 0))) := Lib.hid (by rw [hw1, show w.heap.size + 1 = (w.alloc (.cells c 73)).heap.size by simp]; exact heap_alloc_new _ _)
  have HT1 := Lib.hid (h.kept hbel)
  have HO1 := Lib.hid (Only.of_below (g := g) hbel)
  have HW1 := Lib.hid hw1
  have R1 := Lib.hid hr1
  have R2 := Lib.hid hr2
  have R3 := Lib.hid hr3
  clear h hr1 hr2 hr3 hw1 hbel
  go_enter Try.func71, Try.ntmps71
  go_wp2_with fail
  rw [← HW1.out]
  refine (tnum g s m 8 st w1 HT1.out hs (by omega) (by omega) (by omega)).mono ?_
  rintro e w2 ⟨v, st2, rfl, hv, hvia, hT, ho⟩
  have H0_2 : Hid (w2.heap[w.heap.size]? = some (.cells c 73 (0, 0))) := Lib.hid ((ho.block w.heap.size (by omega) (by simpa using n0)).trans H0_1.out)
  have H1_2 : Hid (w2.heap[w.heap.size + 1]? = some (.cells #[.int .i64 0, .int .i64 0, .int .i64 0, .int .u64 0, .int .i64 0, .int .i64 0, .int .u32 0, .int .u64 0, .int .i64 0, .slice none 0 0, .string ⟨#[]⟩, .int .u64 0, .int .u32 0, .slice none 0 0, .int .u64 0, .int .i64 0, .int .u32 0, .int .u64 0, .int .u64 0, .int .i64 0, .int .u64 0, .slice none 0 0] 73 (0, 0))) := Lib.hid ((ho.block (w.heap.size + 1) (by omega) (by simpa using n1)).trans H1_1.out)
  have HT2 := Lib.hid hT
  have HO2 := Lib.hid (HO1.out.trans ho)
  have HV := Lib.hid hvia
  clear hT ho hvia H0_1 H1_1 HT1 HO1
  have k14 : w2.cell? ⟨w.heap.size, 14, none⟩ = some (.int .u64 (horizon : Int)) := (cell_of_row _ _ 14 _ _ _ H0_2.out).trans (by rw [HC.out]; rfl)
  have f14 : w2.frozen? ⟨w.heap.size, 14, none⟩ = false := by simp only [World.frozen?, H0_2.out]; rfl
  obtain ⟨W, hW⟩ : ∃ W, W = (w2.setCell ⟨w.heap.size, 14, none⟩ (.int .u64 (v : Int))) := ⟨_, rfl⟩
  have RA : W.heap[w.heap.size]? = some (.cells #[.int .i64 kind, .int .i64 src, .int .i64 dst, .int .u64 (ce : Int), .int .i64 cr, .int .i64 mf, .int .u32 (ms : Int), .int .u64 (mt : Int), .int .i64 mv, .slice Am md.length cm, .string my, .int .u64 (stamp : Int), .int .u32 (sent : Int), .slice Ag got.length cg, .int .u64 (v : Int), .int .i64 whom, .int .u32 (seq : Int), .int .u64 (members : Int), .int .u64 (pe : Int), .int .i64 pr, .int .u64 (epoch : Int), .slice Ax x.length cx] 73 (0, 0)) := by
    rw [hW]
    refine (blk_setj H0_2.out 14 (.int .u64 (v : Int))).trans ?_
    rw [HC.out]
    rfl
  have RB : W.heap[w.heap.size + 1]? = some (.cells #[.int .i64 0, .int .i64 0, .int .i64 0, .int .u64 0, .int .i64 0, .int .i64 0, .int .u32 0, .int .u64 0, .int .i64 0, .slice none 0 0, .string ⟨#[]⟩, .int .u64 0, .int .u32 0, .slice none 0 0, .int .u64 0, .int .i64 0, .int .u32 0, .int .u64 0, .int .u64 0, .int .i64 0, .int .u64 0, .slice none 0 0] 73 (0, 0)) := by rw [hW]; exact ((Below.heap_setCell _ ⟨w.heap.size, 14, none⟩ (.int .u64 (v : Int)) (w.heap.size + 1) (by simp)).trans H1_2.out)
  have HT3 : Hid (Tk W g s _ _) := Lib.hid (by rw [hW]; exact (HT2.out.set n0 14 (.int .u64 (v : Int))))
  have HO3 : Hid (Only g w W) := Lib.hid (by rw [hW]; exact (HO2.out.fresh (Nat.le_refl _) 14 (.int .u64 (v : Int))))
  have HWE := Lib.hid hW
  clear hW
  have mk := True.intro
  go_wp2_with (first | (clear mk; rw [← HWE.out]; refine wpList_load_row rfl 73 (.tmp 5) rfl w.heap.size (by simp [Act.eval, Act.put]) 73 #[.int .i64 kind, .int .i64 src, .int .i64 dst, .int .u64 (ce : Int), .int .i64 cr, .int .i64 mf, .int .u32 (ms : Int), .int .u64 (mt : Int), .int .i64 mv, .slice Am md.length cm, .string my, .int .u64 (stamp : Int), .int .u32 (sent : Int), .slice Ag got.length cg, .int .u64 (v : Int), .int .i64 whom, .int .u32 (seq : Int), .int .u64 (members : Int), .int .u64 (pe : Int), .int .i64 pr, .int .u64 (epoch : Int), .slice Ax x.length cx] (0, 0) _ RA Try.underlying73 rfl info73 ?_; have mk2 := True.intro) | (clear mk2; refine wpList_store_row rfl 73 (.tmp 6) (.tmp 110) rfl (w.heap.size + 1) #[.int .i64 kind, .int .i64 src, .int .i64 dst, .int .u64 (ce : Int), .int .i64 cr, .int .i64 mf, .int .u32 (ms : Int), .int .u64 (mt : Int), .int .i64 mv, .slice Am md.length cm, .string my, .int .u64 (stamp : Int), .int .u32 (sent : Int), .slice Ag got.length cg, .int .u64 (v : Int), .int .i64 whom, .int .u32 (seq : Int), .int .u64 (members : Int), .int .u64 (pe : Int), .int .i64 pr, .int .u64 (epoch : Int), .slice Ax x.length cx] (by simp [Act.eval, Act.put]) (by simp [Act.eval, Act.put]) 73 #[.int .i64 0, .int .i64 0, .int .i64 0, .int .u64 0, .int .i64 0, .int .i64 0, .int .u32 0, .int .u64 0, .int .i64 0, .slice none 0 0, .string ⟨#[]⟩, .int .u64 0, .int .u32 0, .slice none 0 0, .int .u64 0, .int .i64 0, .int .u32 0, .int .u64 0, .int .u64 0, .int .i64 0, .int .u64 0, .slice none 0 0] RB info73 rfl (by kernel_rfl) ?_))
  have hf := setRow_heap W (w.heap.size + 1) #[.int .i64 0, .int .i64 0, .int .i64 0, .int .u64 0, .int .i64 0, .int .i64 0, .int .u32 0, .int .u64 0, .int .i64 0, .slice none 0 0, .string ⟨#[]⟩, .int .u64 0, .int .u32 0, .slice none 0 0, .int .u64 0, .int .i64 0, .int .u32 0, .int .u64 0, .int .u64 0, .int .i64 0, .int .u64 0, .slice none 0 0] #[.int .i64 kind, .int .i64 src, .int .i64 dst, .int .u64 (ce : Int), .int .i64 cr, .int .i64 mf, .int .u32 (ms : Int), .int .u64 (mt : Int), .int .i64 mv, .slice Am md.length cm, .string my, .int .u64 (stamp : Int), .int .u32 (sent : Int), .slice Ag got.length cg, .int .u64 (v : Int), .int .i64 whom, .int .u32 (seq : Int), .int .u64 (members : Int), .int .u64 (pe : Int), .int .i64 pr, .int .u64 (epoch : Int), .slice Ax x.length cx] 73 (0, 0) RB
  have hO := only_setRow (k := w.heap.size + 1) HO3.out (by omega) #[.int .i64 kind, .int .i64 src, .int .i64 dst, .int .u64 (ce : Int), .int .i64 cr, .int .i64 mf, .int .u32 (ms : Int), .int .u64 (mt : Int), .int .i64 mv, .slice Am md.length cm, .string my, .int .u64 (stamp : Int), .int .u32 (sent : Int), .slice Ag got.length cg, .int .u64 (v : Int), .int .i64 whom, .int .u32 (seq : Int), .int .u64 (members : Int), .int .u64 (pe : Int), .int .i64 pr, .int .u64 (epoch : Int), .slice Ax x.length cx]
  refine bodyPost_ret (v := .agg #[.int .i64 kind, .int .i64 src, .int .i64 dst, .int .u64 (ce : Int), .int .i64 cr, .int .i64 mf, .int .u32 (ms : Int), .int .u64 (mt : Int), .int .i64 mv, .slice Am md.length cm, .string my, .int .u64 (stamp : Int), .int .u32 (sent : Int), .slice Ag got.length cg, .int .u64 (v : Int), .int .i64 whom, .int .u32 (seq : Int), .int .u64 (members : Int), .int .u64 (pe : Int), .int .i64 pr, .int .u64 (epoch : Int), .slice Ax x.length cx]) (results_cell_row Try.results71 _ _ _ _ _ _ _ (by simp [Act.put]) hf Try.underlying73 rfl info73) rfl ?_
  refine ⟨⟨kind, src, dst, ⟨ce, cr⟩, ⟨mf, ms, mt, mv, md, my⟩, stamp, sent, got, v, whom, seq, members, ⟨pe, pr⟩, epoch, x⟩, Am, cm, Ag, cg, Ax, cx, _, rfl, ⟨own_keep_only R1.out hO hgB, own_keep_only R2.out hO hgB, XOwn.keep_only R3.out hO hgB⟩, ?_, (tk_setRow HT3.out n1 #[.int .i64 kind, .int .i64 src, .int .i64 dst, .int .u64 (ce : Int), .int .i64 cr, .int .i64 mf, .int .u32 (ms : Int), .int .u64 (mt : Int), .int .i64 mv, .slice Am md.length cm, .string my, .int .u64 (stamp : Int), .int .u32 (sent : Int), .slice Ag got.length cg, .int .u64 (v : Int), .int .i64 whom, .int .u32 (seq : Int), .int .u64 (members : Int), .int .u64 (pe : Int), .int .i64 pr, .int .u64 (epoch : Int), .slice Ax x.length cx]).mono (by omega), hO, fun _ h => by cases h; rfl⟩
  exact via_and (P := numP 8) (Q := fun z r => .ok ((⟨kind, src, dst, ⟨ce, cr⟩, ⟨mf, ms, mt, mv, md, my⟩, stamp, sent, got, z, whom, seq, members, ⟨pe, pr⟩, epoch, x⟩ : Pk), r)) HV.out

set_option maxHeartbeats 3200000 in
set_option maxRecDepth 8000 in
theorem tfield_w (g : Nat) (s : ByteArray) (m : Nat) (st : St) (p : Pk) (Am : Option Addr) (cm : Nat) (Ag : Option Addr) (cg : Nat) (Ax : Option Addr) (cx : Nat) (B : Nat) (w : World) (h : Tk w g s m st) (hs : s.size ≤ 1000000) (hm : m ≤ 1600000)
    (hgB : g < B) (hB : B ≤ w.heap.size) (hr : PkRows w B p Am cm Ag cg Ax cx) :
    Calls Try.prog 71 #[.pointer (some ⟨g, 0, none⟩), .int .u8 119, pkV p Am cm Ag cg Ax cx] w (TF g s m st B (fieldP 119 p) (some (p.x, Ax, cx)) w) := by
  obtain ⟨kind, src, dst, ⟨ce, cr⟩, ⟨mf, ms, mt, mv, md, my⟩, stamp, sent, got, horizon, whom, seq, members, ⟨pe, pr⟩, epoch, x⟩ := p
  obtain ⟨hr1, hr2, hr3⟩ := hr
  dsimp only at *
  obtain ⟨c, hc⟩ : ∃ c : Array Value, c = #[.int .i64 kind, .int .i64 src, .int .i64 dst, .int .u64 (ce : Int), .int .i64 cr, .int .i64 mf, .int .u32 (ms : Int), .int .u64 (mt : Int), .int .i64 mv, .slice Am md.length cm, .string my, .int .u64 (stamp : Int), .int .u32 (sent : Int), .slice Ag got.length cg, .int .u64 (horizon : Int), .int .i64 whom, .int .u32 (seq : Int), .int .u64 (members : Int), .int .u64 (pe : Int), .int .i64 pr, .int .u64 (epoch : Int), .slice Ax x.length cx] := ⟨_, rfl⟩
  rw [show pkV (⟨kind, src, dst, ⟨ce, cr⟩, ⟨mf, ms, mt, mv, md, my⟩, stamp, sent, got, horizon, whom, seq, members, ⟨pe, pr⟩, epoch, x⟩ : Pk) Am cm Ag cg Ax cx = .agg c from by rw [hc]; rfl]
  have HC := Lib.hid hc
  clear hc
  obtain ⟨w1, hw1⟩ : ∃ W, W = ((w.alloc (.cells c 73)).alloc (.cells #[.int .i64 0, .int .i64 0, .int .i64 0, .int .u64 0, .int .i64 0, .int .i64 0, .int .u32 0, .int .u64 0, .int .i64 0, .slice none 0 0, .string ⟨#[]⟩, .int .u64 0, .int .u32 0, .slice none 0 0, .int .u64 0, .int .i64 0, .int .u32 0, .int .u64 0, .int .u64 0, .int .i64 0, .int .u64 0, .slice none 0 0] 73)) := ⟨_, rfl⟩
  have hbel := below_alloc (below_alloc (Below.refl w.heap.size w) (.cells c 73)) (.cells #[.int .i64 0, .int .i64 0, .int .i64 0, .int .u64 0, .int .i64 0, .int .i64 0, .int .u32 0, .int .u64 0, .int .i64 0, .slice none 0 0, .string ⟨#[]⟩, .int .u64 0, .int .u32 0, .slice none 0 0, .int .u64 0, .int .i64 0, .int .u32 0, .int .u64 0, .int .u64 0, .int .i64 0, .int .u64 0, .slice none 0 0] 73)
  rw [← hw1] at hbel
  have hsz : w1.heap.size = w.heap.size + 1 + 1 := by rw [hw1]; simp
  have hg := h.lt
  have n0 : w.heap.size ≠ g := by omega
  have n1 : w.heap.size + 1 ≠ g := by omega
  have H0_1 : Hid (w1.heap[w.heap.size]? = some (.cells c 73 (0, 0))) := Lib.hid (by rw [hw1]; exact (Below.heap_alloc _ _ _ (by simp)).trans (heap_alloc_new w _))
  have H1_1 : Hid (w1.heap[w.heap.size + 1]? = some (.cells #[.int .i64 0, .int .i64 0, .int .i64 0, .int .u64 0, .int .i64 0, .int .i64 0, .int .u32 0, .int .u64 0, .int .i64 0, .slice none 0 0, .string ⟨#[]⟩, .int .u64 0, .int .u32 0, .slice none 0 0, .int .u64 0, .int .i64 0, .int .u32 0, .int .u64 0, .int .u64 0, .int .i64 0, .int .u64 0, .slice none 0 0] 73 (0, 0))) := Lib.hid (by rw [hw1, show w.heap.size + 1 = (w.alloc (.cells c 73)).heap.size by simp]; exact heap_alloc_new _ _)
  have HT1 := Lib.hid (h.kept hbel)
  have HO1 := Lib.hid (Only.of_below (g := g) hbel)
  have HW1 := Lib.hid hw1
  have R1 := Lib.hid hr1
  have R2 := Lib.hid hr2
  have R3 := Lib.hid hr3
  clear h hr1 hr2 hr3 hw1 hbel
  go_enter Try.func71, Try.ntmps71
  go_wp2_with fail
  rw [← HW1.out]
  refine (tproc g s m st w1 HT1.out hs (by omega)).mono ?_
  rintro e w2 ⟨v, st2, rfl, hv, hvia, hT, ho⟩
  have H0_2 : Hid (w2.heap[w.heap.size]? = some (.cells c 73 (0, 0))) := Lib.hid ((ho.block w.heap.size (by omega) (by simpa using n0)).trans H0_1.out)
  have H1_2 : Hid (w2.heap[w.heap.size + 1]? = some (.cells #[.int .i64 0, .int .i64 0, .int .i64 0, .int .u64 0, .int .i64 0, .int .i64 0, .int .u32 0, .int .u64 0, .int .i64 0, .slice none 0 0, .string ⟨#[]⟩, .int .u64 0, .int .u32 0, .slice none 0 0, .int .u64 0, .int .i64 0, .int .u32 0, .int .u64 0, .int .u64 0, .int .i64 0, .int .u64 0, .slice none 0 0] 73 (0, 0))) := Lib.hid ((ho.block (w.heap.size + 1) (by omega) (by simpa using n1)).trans H1_1.out)
  have HT2 := Lib.hid hT
  have HO2 := Lib.hid (HO1.out.trans ho)
  have HV := Lib.hid hvia
  clear hT ho hvia H0_1 H1_1 HT1 HO1
  have k15 : w2.cell? ⟨w.heap.size, 15, none⟩ = some (.int .i64 whom) := (cell_of_row _ _ 15 _ _ _ H0_2.out).trans (by rw [HC.out]; rfl)
  have f15 : w2.frozen? ⟨w.heap.size, 15, none⟩ = false := by simp only [World.frozen?, H0_2.out]; rfl
  obtain ⟨W, hW⟩ : ∃ W, W = (w2.setCell ⟨w.heap.size, 15, none⟩ (.int .i64 (v : Int))) := ⟨_, rfl⟩
  have RA : W.heap[w.heap.size]? = some (.cells #[.int .i64 kind, .int .i64 src, .int .i64 dst, .int .u64 (ce : Int), .int .i64 cr, .int .i64 mf, .int .u32 (ms : Int), .int .u64 (mt : Int), .int .i64 mv, .slice Am md.length cm, .string my, .int .u64 (stamp : Int), .int .u32 (sent : Int), .slice Ag got.length cg, .int .u64 (horizon : Int), .int .i64 (v : Int), .int .u32 (seq : Int), .int .u64 (members : Int), .int .u64 (pe : Int), .int .i64 pr, .int .u64 (epoch : Int), .slice Ax x.length cx] 73 (0, 0)) := by
    rw [hW]
    refine (blk_setj H0_2.out 15 (.int .i64 (v : Int))).trans ?_
    rw [HC.out]
    rfl
  have RB : W.heap[w.heap.size + 1]? = some (.cells #[.int .i64 0, .int .i64 0, .int .i64 0, .int .u64 0, .int .i64 0, .int .i64 0, .int .u32 0, .int .u64 0, .int .i64 0, .slice none 0 0, .string ⟨#[]⟩, .int .u64 0, .int .u32 0, .slice none 0 0, .int .u64 0, .int .i64 0, .int .u32 0, .int .u64 0, .int .u64 0, .int .i64 0, .int .u64 0, .slice none 0 0] 73 (0, 0)) := by rw [hW]; exact ((Below.heap_setCell _ ⟨w.heap.size, 15, none⟩ (.int .i64 (v : Int)) (w.heap.size + 1) (by simp)).trans H1_2.out)
  have HT3 : Hid (Tk W g s _ _) := Lib.hid (by rw [hW]; exact (HT2.out.set n0 15 (.int .i64 (v : Int))))
  have HO3 : Hid (Only g w W) := Lib.hid (by rw [hW]; exact (HO2.out.fresh (Nat.le_refl _) 15 (.int .i64 (v : Int))))
  have HWE := Lib.hid hW
  clear hW
  have mk := True.intro
  go_wp2_with (first | (clear mk; rw [← HWE.out]; refine wpList_load_row rfl 73 (.tmp 5) rfl w.heap.size (by simp [Act.eval, Act.put]) 73 #[.int .i64 kind, .int .i64 src, .int .i64 dst, .int .u64 (ce : Int), .int .i64 cr, .int .i64 mf, .int .u32 (ms : Int), .int .u64 (mt : Int), .int .i64 mv, .slice Am md.length cm, .string my, .int .u64 (stamp : Int), .int .u32 (sent : Int), .slice Ag got.length cg, .int .u64 (horizon : Int), .int .i64 (v : Int), .int .u32 (seq : Int), .int .u64 (members : Int), .int .u64 (pe : Int), .int .i64 pr, .int .u64 (epoch : Int), .slice Ax x.length cx] (0, 0) _ RA Try.underlying73 rfl info73 ?_; have mk2 := True.intro) | (clear mk2; refine wpList_store_row rfl 73 (.tmp 6) (.tmp 110) rfl (w.heap.size + 1) #[.int .i64 kind, .int .i64 src, .int .i64 dst, .int .u64 (ce : Int), .int .i64 cr, .int .i64 mf, .int .u32 (ms : Int), .int .u64 (mt : Int), .int .i64 mv, .slice Am md.length cm, .string my, .int .u64 (stamp : Int), .int .u32 (sent : Int), .slice Ag got.length cg, .int .u64 (horizon : Int), .int .i64 (v : Int), .int .u32 (seq : Int), .int .u64 (members : Int), .int .u64 (pe : Int), .int .i64 pr, .int .u64 (epoch : Int), .slice Ax x.length cx] (by simp [Act.eval, Act.put]) (by simp [Act.eval, Act.put]) 73 #[.int .i64 0, .int .i64 0, .int .i64 0, .int .u64 0, .int .i64 0, .int .i64 0, .int .u32 0, .int .u64 0, .int .i64 0, .slice none 0 0, .string ⟨#[]⟩, .int .u64 0, .int .u32 0, .slice none 0 0, .int .u64 0, .int .i64 0, .int .u32 0, .int .u64 0, .int .u64 0, .int .i64 0, .int .u64 0, .slice none 0 0] RB info73 rfl (by kernel_rfl) ?_))
  have hf := setRow_heap W (w.heap.size + 1) #[.int .i64 0, .int .i64 0, .int .i64 0, .int .u64 0, .int .i64 0, .int .i64 0, .int .u32 0, .int .u64 0, .int .i64 0, .slice none 0 0, .string ⟨#[]⟩, .int .u64 0, .int .u32 0, .slice none 0 0, .int .u64 0, .int .i64 0, .int .u32 0, .int .u64 0, .int .u64 0, .int .i64 0, .int .u64 0, .slice none 0 0] #[.int .i64 kind, .int .i64 src, .int .i64 dst, .int .u64 (ce : Int), .int .i64 cr, .int .i64 mf, .int .u32 (ms : Int), .int .u64 (mt : Int), .int .i64 mv, .slice Am md.length cm, .string my, .int .u64 (stamp : Int), .int .u32 (sent : Int), .slice Ag got.length cg, .int .u64 (horizon : Int), .int .i64 (v : Int), .int .u32 (seq : Int), .int .u64 (members : Int), .int .u64 (pe : Int), .int .i64 pr, .int .u64 (epoch : Int), .slice Ax x.length cx] 73 (0, 0) RB
  have hO := only_setRow (k := w.heap.size + 1) HO3.out (by omega) #[.int .i64 kind, .int .i64 src, .int .i64 dst, .int .u64 (ce : Int), .int .i64 cr, .int .i64 mf, .int .u32 (ms : Int), .int .u64 (mt : Int), .int .i64 mv, .slice Am md.length cm, .string my, .int .u64 (stamp : Int), .int .u32 (sent : Int), .slice Ag got.length cg, .int .u64 (horizon : Int), .int .i64 (v : Int), .int .u32 (seq : Int), .int .u64 (members : Int), .int .u64 (pe : Int), .int .i64 pr, .int .u64 (epoch : Int), .slice Ax x.length cx]
  refine bodyPost_ret (v := .agg #[.int .i64 kind, .int .i64 src, .int .i64 dst, .int .u64 (ce : Int), .int .i64 cr, .int .i64 mf, .int .u32 (ms : Int), .int .u64 (mt : Int), .int .i64 mv, .slice Am md.length cm, .string my, .int .u64 (stamp : Int), .int .u32 (sent : Int), .slice Ag got.length cg, .int .u64 (horizon : Int), .int .i64 (v : Int), .int .u32 (seq : Int), .int .u64 (members : Int), .int .u64 (pe : Int), .int .i64 pr, .int .u64 (epoch : Int), .slice Ax x.length cx]) (results_cell_row Try.results71 _ _ _ _ _ _ _ (by simp [Act.put]) hf Try.underlying73 rfl info73) rfl ?_
  refine ⟨⟨kind, src, dst, ⟨ce, cr⟩, ⟨mf, ms, mt, mv, md, my⟩, stamp, sent, got, horizon, (v : Int), seq, members, ⟨pe, pr⟩, epoch, x⟩, Am, cm, Ag, cg, Ax, cx, _, rfl, ⟨own_keep_only R1.out hO hgB, own_keep_only R2.out hO hgB, XOwn.keep_only R3.out hO hgB⟩, ?_, (tk_setRow HT3.out n1 #[.int .i64 kind, .int .i64 src, .int .i64 dst, .int .u64 (ce : Int), .int .i64 cr, .int .i64 mf, .int .u32 (ms : Int), .int .u64 (mt : Int), .int .i64 mv, .slice Am md.length cm, .string my, .int .u64 (stamp : Int), .int .u32 (sent : Int), .slice Ag got.length cg, .int .u64 (horizon : Int), .int .i64 (v : Int), .int .u32 (seq : Int), .int .u64 (members : Int), .int .u64 (pe : Int), .int .i64 pr, .int .u64 (epoch : Int), .slice Ax x.length cx]).mono (by omega), hO, fun _ h => by cases h; rfl⟩
  exact via_and (P := procP) (Q := fun z r => .ok ((⟨kind, src, dst, ⟨ce, cr⟩, ⟨mf, ms, mt, mv, md, my⟩, stamp, sent, got, horizon, z, seq, members, ⟨pe, pr⟩, epoch, x⟩ : Pk), r)) HV.out

set_option maxHeartbeats 3200000 in
set_option maxRecDepth 8000 in
theorem tfield_q (g : Nat) (s : ByteArray) (m : Nat) (st : St) (p : Pk) (Am : Option Addr) (cm : Nat) (Ag : Option Addr) (cg : Nat) (Ax : Option Addr) (cx : Nat) (B : Nat) (w : World) (h : Tk w g s m st) (hs : s.size ≤ 1000000) (hm : m ≤ 1600000)
    (hgB : g < B) (hB : B ≤ w.heap.size) (hr : PkRows w B p Am cm Ag cg Ax cx) :
    Calls Try.prog 71 #[.pointer (some ⟨g, 0, none⟩), .int .u8 113, pkV p Am cm Ag cg Ax cx] w (TF g s m st B (fieldP 113 p) (some (p.x, Ax, cx)) w) := by
  obtain ⟨kind, src, dst, ⟨ce, cr⟩, ⟨mf, ms, mt, mv, md, my⟩, stamp, sent, got, horizon, whom, seq, members, ⟨pe, pr⟩, epoch, x⟩ := p
  obtain ⟨hr1, hr2, hr3⟩ := hr
  dsimp only at *
  obtain ⟨c, hc⟩ : ∃ c : Array Value, c = #[.int .i64 kind, .int .i64 src, .int .i64 dst, .int .u64 (ce : Int), .int .i64 cr, .int .i64 mf, .int .u32 (ms : Int), .int .u64 (mt : Int), .int .i64 mv, .slice Am md.length cm, .string my, .int .u64 (stamp : Int), .int .u32 (sent : Int), .slice Ag got.length cg, .int .u64 (horizon : Int), .int .i64 whom, .int .u32 (seq : Int), .int .u64 (members : Int), .int .u64 (pe : Int), .int .i64 pr, .int .u64 (epoch : Int), .slice Ax x.length cx] := ⟨_, rfl⟩
  rw [show pkV (⟨kind, src, dst, ⟨ce, cr⟩, ⟨mf, ms, mt, mv, md, my⟩, stamp, sent, got, horizon, whom, seq, members, ⟨pe, pr⟩, epoch, x⟩ : Pk) Am cm Ag cg Ax cx = .agg c from by rw [hc]; rfl]
  have HC := Lib.hid hc
  clear hc
  obtain ⟨w1, hw1⟩ : ∃ W, W = ((w.alloc (.cells c 73)).alloc (.cells #[.int .i64 0, .int .i64 0, .int .i64 0, .int .u64 0, .int .i64 0, .int .i64 0, .int .u32 0, .int .u64 0, .int .i64 0, .slice none 0 0, .string ⟨#[]⟩, .int .u64 0, .int .u32 0, .slice none 0 0, .int .u64 0, .int .i64 0, .int .u32 0, .int .u64 0, .int .u64 0, .int .i64 0, .int .u64 0, .slice none 0 0] 73)) := ⟨_, rfl⟩
  have hbel := below_alloc (below_alloc (Below.refl w.heap.size w) (.cells c 73)) (.cells #[.int .i64 0, .int .i64 0, .int .i64 0, .int .u64 0, .int .i64 0, .int .i64 0, .int .u32 0, .int .u64 0, .int .i64 0, .slice none 0 0, .string ⟨#[]⟩, .int .u64 0, .int .u32 0, .slice none 0 0, .int .u64 0, .int .i64 0, .int .u32 0, .int .u64 0, .int .u64 0, .int .i64 0, .int .u64 0, .slice none 0 0] 73)
  rw [← hw1] at hbel
  have hsz : w1.heap.size = w.heap.size + 1 + 1 := by rw [hw1]; simp
  have hg := h.lt
  have n0 : w.heap.size ≠ g := by omega
  have n1 : w.heap.size + 1 ≠ g := by omega
  have H0_1 : Hid (w1.heap[w.heap.size]? = some (.cells c 73 (0, 0))) := Lib.hid (by rw [hw1]; exact (Below.heap_alloc _ _ _ (by simp)).trans (heap_alloc_new w _))
  have H1_1 : Hid (w1.heap[w.heap.size + 1]? = some (.cells #[.int .i64 0, .int .i64 0, .int .i64 0, .int .u64 0, .int .i64 0, .int .i64 0, .int .u32 0, .int .u64 0, .int .i64 0, .slice none 0 0, .string ⟨#[]⟩, .int .u64 0, .int .u32 0, .slice none 0 0, .int .u64 0, .int .i64 0, .int .u32 0, .int .u64 0, .int .u64 0, .int .i64 0, .int .u64 0, .slice none 0 0] 73 (0, 0))) := Lib.hid (by rw [hw1, show w.heap.size + 1 = (w.alloc (.cells c 73)).heap.size by simp]; exact heap_alloc_new _ _)
  have HT1 := Lib.hid (h.kept hbel)
  have HO1 := Lib.hid (Only.of_below (g := g) hbel)
  have HW1 := Lib.hid hw1
  have R1 := Lib.hid hr1
  have R2 := Lib.hid hr2
  have R3 := Lib.hid hr3
  clear h hr1 hr2 hr3 hw1 hbel
  go_enter Try.func71, Try.ntmps71
  go_wp2_with fail
  rw [← HW1.out]
  refine (tnum g s m 4 st w1 HT1.out hs (by omega) (by omega) (by omega)).mono ?_
  rintro e w2 ⟨v, st2, rfl, hv, hvia, hT, ho⟩
  have hv4 : v < 4294967296 := hv
  have eu : IntKind.u32.wrap (v : Int) = (v : Int) := by rw [IntKind.wrap_u32]; omega
  have H0_2 : Hid (w2.heap[w.heap.size]? = some (.cells c 73 (0, 0))) := Lib.hid ((ho.block w.heap.size (by omega) (by simpa using n0)).trans H0_1.out)
  have H1_2 : Hid (w2.heap[w.heap.size + 1]? = some (.cells #[.int .i64 0, .int .i64 0, .int .i64 0, .int .u64 0, .int .i64 0, .int .i64 0, .int .u32 0, .int .u64 0, .int .i64 0, .slice none 0 0, .string ⟨#[]⟩, .int .u64 0, .int .u32 0, .slice none 0 0, .int .u64 0, .int .i64 0, .int .u32 0, .int .u64 0, .int .u64 0, .int .i64 0, .int .u64 0, .slice none 0 0] 73 (0, 0))) := Lib.hid ((ho.block (w.heap.size + 1) (by omega) (by simpa using n1)).trans H1_1.out)
  have HT2 := Lib.hid hT
  have HO2 := Lib.hid (HO1.out.trans ho)
  have HV := Lib.hid hvia
  clear hT ho hvia H0_1 H1_1 HT1 HO1
  have k16 : w2.cell? ⟨w.heap.size, 16, none⟩ = some (.int .u32 (seq : Int)) := (cell_of_row _ _ 16 _ _ _ H0_2.out).trans (by rw [HC.out]; rfl)
  have f16 : w2.frozen? ⟨w.heap.size, 16, none⟩ = false := by simp only [World.frozen?, H0_2.out]; rfl
  obtain ⟨W, hW⟩ : ∃ W, W = (w2.setCell ⟨w.heap.size, 16, none⟩ (.int .u32 (v : Int))) := ⟨_, rfl⟩
  have RA : W.heap[w.heap.size]? = some (.cells #[.int .i64 kind, .int .i64 src, .int .i64 dst, .int .u64 (ce : Int), .int .i64 cr, .int .i64 mf, .int .u32 (ms : Int), .int .u64 (mt : Int), .int .i64 mv, .slice Am md.length cm, .string my, .int .u64 (stamp : Int), .int .u32 (sent : Int), .slice Ag got.length cg, .int .u64 (horizon : Int), .int .i64 whom, .int .u32 (v : Int), .int .u64 (members : Int), .int .u64 (pe : Int), .int .i64 pr, .int .u64 (epoch : Int), .slice Ax x.length cx] 73 (0, 0)) := by
    rw [hW]
    refine (blk_setj H0_2.out 16 (.int .u32 (v : Int))).trans ?_
    rw [HC.out]
    rfl
  have RB : W.heap[w.heap.size + 1]? = some (.cells #[.int .i64 0, .int .i64 0, .int .i64 0, .int .u64 0, .int .i64 0, .int .i64 0, .int .u32 0, .int .u64 0, .int .i64 0, .slice none 0 0, .string ⟨#[]⟩, .int .u64 0, .int .u32 0, .slice none 0 0, .int .u64 0, .int .i64 0, .int .u32 0, .int .u64 0, .int .u64 0, .int .i64 0, .int .u64 0, .slice none 0 0] 73 (0, 0)) := by rw [hW]; exact ((Below.heap_setCell _ ⟨w.heap.size, 16, none⟩ (.int .u32 (v : Int)) (w.heap.size + 1) (by simp)).trans H1_2.out)
  have HT3 : Hid (Tk W g s _ _) := Lib.hid (by rw [hW]; exact (HT2.out.set n0 16 (.int .u32 (v : Int))))
  have HO3 : Hid (Only g w W) := Lib.hid (by rw [hW]; exact (HO2.out.fresh (Nat.le_refl _) 16 (.int .u32 (v : Int))))
  have HWE := Lib.hid hW
  clear hW
  have mk := True.intro
  go_wp2_with (first | (clear mk; rw [← HWE.out]; refine wpList_load_row rfl 73 (.tmp 5) rfl w.heap.size (by simp [Act.eval, Act.put]) 73 #[.int .i64 kind, .int .i64 src, .int .i64 dst, .int .u64 (ce : Int), .int .i64 cr, .int .i64 mf, .int .u32 (ms : Int), .int .u64 (mt : Int), .int .i64 mv, .slice Am md.length cm, .string my, .int .u64 (stamp : Int), .int .u32 (sent : Int), .slice Ag got.length cg, .int .u64 (horizon : Int), .int .i64 whom, .int .u32 (v : Int), .int .u64 (members : Int), .int .u64 (pe : Int), .int .i64 pr, .int .u64 (epoch : Int), .slice Ax x.length cx] (0, 0) _ RA Try.underlying73 rfl info73 ?_; have mk2 := True.intro) | (clear mk2; refine wpList_store_row rfl 73 (.tmp 6) (.tmp 110) rfl (w.heap.size + 1) #[.int .i64 kind, .int .i64 src, .int .i64 dst, .int .u64 (ce : Int), .int .i64 cr, .int .i64 mf, .int .u32 (ms : Int), .int .u64 (mt : Int), .int .i64 mv, .slice Am md.length cm, .string my, .int .u64 (stamp : Int), .int .u32 (sent : Int), .slice Ag got.length cg, .int .u64 (horizon : Int), .int .i64 whom, .int .u32 (v : Int), .int .u64 (members : Int), .int .u64 (pe : Int), .int .i64 pr, .int .u64 (epoch : Int), .slice Ax x.length cx] (by simp [Act.eval, Act.put]) (by simp [Act.eval, Act.put]) 73 #[.int .i64 0, .int .i64 0, .int .i64 0, .int .u64 0, .int .i64 0, .int .i64 0, .int .u32 0, .int .u64 0, .int .i64 0, .slice none 0 0, .string ⟨#[]⟩, .int .u64 0, .int .u32 0, .slice none 0 0, .int .u64 0, .int .i64 0, .int .u32 0, .int .u64 0, .int .u64 0, .int .i64 0, .int .u64 0, .slice none 0 0] RB info73 rfl (by kernel_rfl) ?_))
  have hf := setRow_heap W (w.heap.size + 1) #[.int .i64 0, .int .i64 0, .int .i64 0, .int .u64 0, .int .i64 0, .int .i64 0, .int .u32 0, .int .u64 0, .int .i64 0, .slice none 0 0, .string ⟨#[]⟩, .int .u64 0, .int .u32 0, .slice none 0 0, .int .u64 0, .int .i64 0, .int .u32 0, .int .u64 0, .int .u64 0, .int .i64 0, .int .u64 0, .slice none 0 0] #[.int .i64 kind, .int .i64 src, .int .i64 dst, .int .u64 (ce : Int), .int .i64 cr, .int .i64 mf, .int .u32 (ms : Int), .int .u64 (mt : Int), .int .i64 mv, .slice Am md.length cm, .string my, .int .u64 (stamp : Int), .int .u32 (sent : Int), .slice Ag got.length cg, .int .u64 (horizon : Int), .int .i64 whom, .int .u32 (v : Int), .int .u64 (members : Int), .int .u64 (pe : Int), .int .i64 pr, .int .u64 (epoch : Int), .slice Ax x.length cx] 73 (0, 0) RB
  have hO := only_setRow (k := w.heap.size + 1) HO3.out (by omega) #[.int .i64 kind, .int .i64 src, .int .i64 dst, .int .u64 (ce : Int), .int .i64 cr, .int .i64 mf, .int .u32 (ms : Int), .int .u64 (mt : Int), .int .i64 mv, .slice Am md.length cm, .string my, .int .u64 (stamp : Int), .int .u32 (sent : Int), .slice Ag got.length cg, .int .u64 (horizon : Int), .int .i64 whom, .int .u32 (v : Int), .int .u64 (members : Int), .int .u64 (pe : Int), .int .i64 pr, .int .u64 (epoch : Int), .slice Ax x.length cx]
  refine bodyPost_ret (v := .agg #[.int .i64 kind, .int .i64 src, .int .i64 dst, .int .u64 (ce : Int), .int .i64 cr, .int .i64 mf, .int .u32 (ms : Int), .int .u64 (mt : Int), .int .i64 mv, .slice Am md.length cm, .string my, .int .u64 (stamp : Int), .int .u32 (sent : Int), .slice Ag got.length cg, .int .u64 (horizon : Int), .int .i64 whom, .int .u32 (v : Int), .int .u64 (members : Int), .int .u64 (pe : Int), .int .i64 pr, .int .u64 (epoch : Int), .slice Ax x.length cx]) (results_cell_row Try.results71 _ _ _ _ _ _ _ (by simp [Act.put]) hf Try.underlying73 rfl info73) rfl ?_
  refine ⟨⟨kind, src, dst, ⟨ce, cr⟩, ⟨mf, ms, mt, mv, md, my⟩, stamp, sent, got, horizon, whom, v, members, ⟨pe, pr⟩, epoch, x⟩, Am, cm, Ag, cg, Ax, cx, _, rfl, ⟨own_keep_only R1.out hO hgB, own_keep_only R2.out hO hgB, XOwn.keep_only R3.out hO hgB⟩, ?_, (tk_setRow HT3.out n1 #[.int .i64 kind, .int .i64 src, .int .i64 dst, .int .u64 (ce : Int), .int .i64 cr, .int .i64 mf, .int .u32 (ms : Int), .int .u64 (mt : Int), .int .i64 mv, .slice Am md.length cm, .string my, .int .u64 (stamp : Int), .int .u32 (sent : Int), .slice Ag got.length cg, .int .u64 (horizon : Int), .int .i64 whom, .int .u32 (v : Int), .int .u64 (members : Int), .int .u64 (pe : Int), .int .i64 pr, .int .u64 (epoch : Int), .slice Ax x.length cx]).mono (by omega), hO, fun _ h => by cases h; rfl⟩
  exact via_and (P := numP 4) (Q := fun z r => .ok ((⟨kind, src, dst, ⟨ce, cr⟩, ⟨mf, ms, mt, mv, md, my⟩, stamp, sent, got, horizon, whom, z, members, ⟨pe, pr⟩, epoch, x⟩ : Pk), r)) HV.out

set_option maxHeartbeats 3200000 in
set_option maxRecDepth 8000 in
theorem tfield_p (g : Nat) (s : ByteArray) (m : Nat) (st : St) (p : Pk) (Am : Option Addr) (cm : Nat) (Ag : Option Addr) (cg : Nat) (Ax : Option Addr) (cx : Nat) (B : Nat) (w : World) (h : Tk w g s m st) (hs : s.size ≤ 1000000) (hm : m ≤ 1600000)
    (hgB : g < B) (hB : B ≤ w.heap.size) (hr : PkRows w B p Am cm Ag cg Ax cx) :
    Calls Try.prog 71 #[.pointer (some ⟨g, 0, none⟩), .int .u8 112, pkV p Am cm Ag cg Ax cx] w (TF g s m st B (fieldP 112 p) (some (p.x, Ax, cx)) w) := by
  obtain ⟨kind, src, dst, ⟨ce, cr⟩, ⟨mf, ms, mt, mv, md, my⟩, stamp, sent, got, horizon, whom, seq, members, ⟨pe, pr⟩, epoch, x⟩ := p
  obtain ⟨hr1, hr2, hr3⟩ := hr
  dsimp only at *
  obtain ⟨c, hc⟩ : ∃ c : Array Value, c = #[.int .i64 kind, .int .i64 src, .int .i64 dst, .int .u64 (ce : Int), .int .i64 cr, .int .i64 mf, .int .u32 (ms : Int), .int .u64 (mt : Int), .int .i64 mv, .slice Am md.length cm, .string my, .int .u64 (stamp : Int), .int .u32 (sent : Int), .slice Ag got.length cg, .int .u64 (horizon : Int), .int .i64 whom, .int .u32 (seq : Int), .int .u64 (members : Int), .int .u64 (pe : Int), .int .i64 pr, .int .u64 (epoch : Int), .slice Ax x.length cx] := ⟨_, rfl⟩
  rw [show pkV (⟨kind, src, dst, ⟨ce, cr⟩, ⟨mf, ms, mt, mv, md, my⟩, stamp, sent, got, horizon, whom, seq, members, ⟨pe, pr⟩, epoch, x⟩ : Pk) Am cm Ag cg Ax cx = .agg c from by rw [hc]; rfl]
  have HC := Lib.hid hc
  clear hc
  obtain ⟨w1, hw1⟩ : ∃ W, W = ((w.alloc (.cells c 73)).alloc (.cells #[.int .i64 0, .int .i64 0, .int .i64 0, .int .u64 0, .int .i64 0, .int .i64 0, .int .u32 0, .int .u64 0, .int .i64 0, .slice none 0 0, .string ⟨#[]⟩, .int .u64 0, .int .u32 0, .slice none 0 0, .int .u64 0, .int .i64 0, .int .u32 0, .int .u64 0, .int .u64 0, .int .i64 0, .int .u64 0, .slice none 0 0] 73)) := ⟨_, rfl⟩
  have hbel := below_alloc (below_alloc (Below.refl w.heap.size w) (.cells c 73)) (.cells #[.int .i64 0, .int .i64 0, .int .i64 0, .int .u64 0, .int .i64 0, .int .i64 0, .int .u32 0, .int .u64 0, .int .i64 0, .slice none 0 0, .string ⟨#[]⟩, .int .u64 0, .int .u32 0, .slice none 0 0, .int .u64 0, .int .i64 0, .int .u32 0, .int .u64 0, .int .u64 0, .int .i64 0, .int .u64 0, .slice none 0 0] 73)
  rw [← hw1] at hbel
  have hsz : w1.heap.size = w.heap.size + 1 + 1 := by rw [hw1]; simp
  have hg := h.lt
  have n0 : w.heap.size ≠ g := by omega
  have n1 : w.heap.size + 1 ≠ g := by omega
  have H0_1 : Hid (w1.heap[w.heap.size]? = some (.cells c 73 (0, 0))) := Lib.hid (by rw [hw1]; exact (Below.heap_alloc _ _ _ (by simp)).trans (heap_alloc_new w _))
  have H1_1 : Hid (w1.heap[w.heap.size + 1]? = some (.cells #[.int .i64 0, .int .i64 0, .int .i64 0, .int .u64 0, .int .i64 0, .int .i64 0, .int .u32 0, .int .u64 0, .int .i64 0, .slice none 0 0, .string ⟨#[]⟩, .int .u64 0, .int .u32 0, .slice none 0 0, .int .u64 0, .int .i64 0, .int .u32 0, .int .u64 0, .int .u64 0, .int .i64 0, .int .u64 0, .slice none 0 0] 73 (0, 0))) := Lib.hid (by rw [hw1, show w.heap.size + 1 = (w.alloc (.cells c 73)).heap.size by simp]; exact heap_alloc_new _ _)
  have HT1 := Lib.hid (h.kept hbel)
  have HO1 := Lib.hid (Only.of_below (g := g) hbel)
  have HW1 := Lib.hid hw1
  have R1 := Lib.hid hr1
  have R2 := Lib.hid hr2
  have R3 := Lib.hid hr3
  clear h hr1 hr2 hr3 hw1 hbel
  go_enter Try.func71, Try.ntmps71
  go_wp2_with fail
  rw [← HW1.out]
  refine (tconf g s m st w1 HT1.out hs (by omega)).mono ?_
  rintro e w2 ⟨⟨ce2, cr2⟩, st2, rfl, hvia, hT, ho⟩
  have H0_2 : Hid (w2.heap[w.heap.size]? = some (.cells c 73 (0, 0))) := Lib.hid ((ho.block w.heap.size (by omega) (by simpa using n0)).trans H0_1.out)
  have H1_2 : Hid (w2.heap[w.heap.size + 1]? = some (.cells #[.int .i64 0, .int .i64 0, .int .i64 0, .int .u64 0, .int .i64 0, .int .i64 0, .int .u32 0, .int .u64 0, .int .i64 0, .slice none 0 0, .string ⟨#[]⟩, .int .u64 0, .int .u32 0, .slice none 0 0, .int .u64 0, .int .i64 0, .int .u32 0, .int .u64 0, .int .u64 0, .int .i64 0, .int .u64 0, .slice none 0 0] 73 (0, 0))) := Lib.hid ((ho.block (w.heap.size + 1) (by omega) (by simpa using n1)).trans H1_1.out)
  have HT2 := Lib.hid hT
  have HO2 := Lib.hid (HO1.out.trans ho)
  have HV := Lib.hid hvia
  clear hT ho hvia H0_1 H1_1 HT1 HO1
  have k18 : w2.cell? ⟨w.heap.size, 18, none⟩ = some (.int .u64 (pe : Int)) := (cell_of_row _ _ 18 _ _ _ H0_2.out).trans (by rw [HC.out]; rfl)
  have f18 : w2.frozen? ⟨w.heap.size, 18, none⟩ = false := by simp only [World.frozen?, H0_2.out]; rfl
  have k19 : w2.cell? ⟨w.heap.size, 19, none⟩ = some (.int .i64 pr) := (cell_of_row _ _ 19 _ _ _ H0_2.out).trans (by rw [HC.out]; rfl)
  have f19 : w2.frozen? ⟨w.heap.size, 19, none⟩ = false := by simp only [World.frozen?, H0_2.out]; rfl
  obtain ⟨W, hW⟩ : ∃ W, W = ((w2.setCell ⟨w.heap.size, 18, none⟩ (.int .u64 (ce2 : Int))).setCell ⟨w.heap.size, 19, none⟩ (.int .i64 cr2)) := ⟨_, rfl⟩
  have RA : W.heap[w.heap.size]? = some (.cells #[.int .i64 kind, .int .i64 src, .int .i64 dst, .int .u64 (ce : Int), .int .i64 cr, .int .i64 mf, .int .u32 (ms : Int), .int .u64 (mt : Int), .int .i64 mv, .slice Am md.length cm, .string my, .int .u64 (stamp : Int), .int .u32 (sent : Int), .slice Ag got.length cg, .int .u64 (horizon : Int), .int .i64 whom, .int .u32 (seq : Int), .int .u64 (members : Int), .int .u64 (ce2 : Int), .int .i64 cr2, .int .u64 (epoch : Int), .slice Ax x.length cx] 73 (0, 0)) := by
    rw [hW]
    refine (blk_setj (blk_setj H0_2.out 18 (.int .u64 (ce2 : Int))) 19 (.int .i64 cr2)).trans ?_
    rw [HC.out]
    rfl
  have RB : W.heap[w.heap.size + 1]? = some (.cells #[.int .i64 0, .int .i64 0, .int .i64 0, .int .u64 0, .int .i64 0, .int .i64 0, .int .u32 0, .int .u64 0, .int .i64 0, .slice none 0 0, .string ⟨#[]⟩, .int .u64 0, .int .u32 0, .slice none 0 0, .int .u64 0, .int .i64 0, .int .u32 0, .int .u64 0, .int .u64 0, .int .i64 0, .int .u64 0, .slice none 0 0] 73 (0, 0)) := by rw [hW]; exact ((Below.heap_setCell _ ⟨w.heap.size, 19, none⟩ (.int .i64 cr2) (w.heap.size + 1) (by simp)).trans ((Below.heap_setCell _ ⟨w.heap.size, 18, none⟩ (.int .u64 (ce2 : Int)) (w.heap.size + 1) (by simp)).trans H1_2.out))
  have HT3 : Hid (Tk W g s _ _) := Lib.hid (by rw [hW]; exact ((HT2.out.set n0 18 (.int .u64 (ce2 : Int))).set n0 19 (.int .i64 cr2)))
  have HO3 : Hid (Only g w W) := Lib.hid (by rw [hW]; exact ((HO2.out.fresh (Nat.le_refl _) 18 (.int .u64 (ce2 : Int))).fresh (Nat.le_refl _) 19 (.int .i64 cr2)))
  have HWE := Lib.hid hW
  clear hW
  have mk := True.intro
  go_wp2_with (first | (clear mk; rw [← HWE.out]; refine wpList_load_row rfl 73 (.tmp 5) rfl w.heap.size (by simp [Act.eval, Act.put]) 73 #[.int .i64 kind, .int .i64 src, .int .i64 dst, .int .u64 (ce : Int), .int .i64 cr, .int .i64 mf, .int .u32 (ms : Int), .int .u64 (mt : Int), .int .i64 mv, .slice Am md.length cm, .string my, .int .u64 (stamp : Int), .int .u32 (sent : Int), .slice Ag got.length cg, .int .u64 (horizon : Int), .int .i64 whom, .int .u32 (seq : Int), .int .u64 (members : Int), .int .u64 (ce2 : Int), .int .i64 cr2, .int .u64 (epoch : Int), .slice Ax x.length cx] (0, 0) _ RA Try.underlying73 rfl info73 ?_; have mk2 := True.intro) | (clear mk2; refine wpList_store_row rfl 73 (.tmp 6) (.tmp 110) rfl (w.heap.size + 1) #[.int .i64 kind, .int .i64 src, .int .i64 dst, .int .u64 (ce : Int), .int .i64 cr, .int .i64 mf, .int .u32 (ms : Int), .int .u64 (mt : Int), .int .i64 mv, .slice Am md.length cm, .string my, .int .u64 (stamp : Int), .int .u32 (sent : Int), .slice Ag got.length cg, .int .u64 (horizon : Int), .int .i64 whom, .int .u32 (seq : Int), .int .u64 (members : Int), .int .u64 (ce2 : Int), .int .i64 cr2, .int .u64 (epoch : Int), .slice Ax x.length cx] (by simp [Act.eval, Act.put]) (by simp [Act.eval, Act.put]) 73 #[.int .i64 0, .int .i64 0, .int .i64 0, .int .u64 0, .int .i64 0, .int .i64 0, .int .u32 0, .int .u64 0, .int .i64 0, .slice none 0 0, .string ⟨#[]⟩, .int .u64 0, .int .u32 0, .slice none 0 0, .int .u64 0, .int .i64 0, .int .u32 0, .int .u64 0, .int .u64 0, .int .i64 0, .int .u64 0, .slice none 0 0] RB info73 rfl (by kernel_rfl) ?_))
  have hf := setRow_heap W (w.heap.size + 1) #[.int .i64 0, .int .i64 0, .int .i64 0, .int .u64 0, .int .i64 0, .int .i64 0, .int .u32 0, .int .u64 0, .int .i64 0, .slice none 0 0, .string ⟨#[]⟩, .int .u64 0, .int .u32 0, .slice none 0 0, .int .u64 0, .int .i64 0, .int .u32 0, .int .u64 0, .int .u64 0, .int .i64 0, .int .u64 0, .slice none 0 0] #[.int .i64 kind, .int .i64 src, .int .i64 dst, .int .u64 (ce : Int), .int .i64 cr, .int .i64 mf, .int .u32 (ms : Int), .int .u64 (mt : Int), .int .i64 mv, .slice Am md.length cm, .string my, .int .u64 (stamp : Int), .int .u32 (sent : Int), .slice Ag got.length cg, .int .u64 (horizon : Int), .int .i64 whom, .int .u32 (seq : Int), .int .u64 (members : Int), .int .u64 (ce2 : Int), .int .i64 cr2, .int .u64 (epoch : Int), .slice Ax x.length cx] 73 (0, 0) RB
  have hO := only_setRow (k := w.heap.size + 1) HO3.out (by omega) #[.int .i64 kind, .int .i64 src, .int .i64 dst, .int .u64 (ce : Int), .int .i64 cr, .int .i64 mf, .int .u32 (ms : Int), .int .u64 (mt : Int), .int .i64 mv, .slice Am md.length cm, .string my, .int .u64 (stamp : Int), .int .u32 (sent : Int), .slice Ag got.length cg, .int .u64 (horizon : Int), .int .i64 whom, .int .u32 (seq : Int), .int .u64 (members : Int), .int .u64 (ce2 : Int), .int .i64 cr2, .int .u64 (epoch : Int), .slice Ax x.length cx]
  refine bodyPost_ret (v := .agg #[.int .i64 kind, .int .i64 src, .int .i64 dst, .int .u64 (ce : Int), .int .i64 cr, .int .i64 mf, .int .u32 (ms : Int), .int .u64 (mt : Int), .int .i64 mv, .slice Am md.length cm, .string my, .int .u64 (stamp : Int), .int .u32 (sent : Int), .slice Ag got.length cg, .int .u64 (horizon : Int), .int .i64 whom, .int .u32 (seq : Int), .int .u64 (members : Int), .int .u64 (ce2 : Int), .int .i64 cr2, .int .u64 (epoch : Int), .slice Ax x.length cx]) (results_cell_row Try.results71 _ _ _ _ _ _ _ (by simp [Act.put]) hf Try.underlying73 rfl info73) rfl ?_
  refine ⟨⟨kind, src, dst, ⟨ce, cr⟩, ⟨mf, ms, mt, mv, md, my⟩, stamp, sent, got, horizon, whom, seq, members, ⟨ce2, cr2⟩, epoch, x⟩, Am, cm, Ag, cg, Ax, cx, _, rfl, ⟨own_keep_only R1.out hO hgB, own_keep_only R2.out hO hgB, XOwn.keep_only R3.out hO hgB⟩, ?_, (tk_setRow HT3.out n1 #[.int .i64 kind, .int .i64 src, .int .i64 dst, .int .u64 (ce : Int), .int .i64 cr, .int .i64 mf, .int .u32 (ms : Int), .int .u64 (mt : Int), .int .i64 mv, .slice Am md.length cm, .string my, .int .u64 (stamp : Int), .int .u32 (sent : Int), .slice Ag got.length cg, .int .u64 (horizon : Int), .int .i64 whom, .int .u32 (seq : Int), .int .u64 (members : Int), .int .u64 (ce2 : Int), .int .i64 cr2, .int .u64 (epoch : Int), .slice Ax x.length cx]).mono (by omega), hO, fun _ h => by cases h; rfl⟩
  exact via_and (P := confP) (Q := fun z r => .ok ((⟨kind, src, dst, ⟨ce, cr⟩, ⟨mf, ms, mt, mv, md, my⟩, stamp, sent, got, horizon, whom, seq, members, z, epoch, x⟩ : Pk), r)) HV.out

set_option maxHeartbeats 3200000 in
set_option maxRecDepth 8000 in
theorem tfield_e (g : Nat) (s : ByteArray) (m : Nat) (st : St) (p : Pk) (Am : Option Addr) (cm : Nat) (Ag : Option Addr) (cg : Nat) (Ax : Option Addr) (cx : Nat) (B : Nat) (w : World) (h : Tk w g s m st) (hs : s.size ≤ 1000000) (hm : m ≤ 1600000)
    (hgB : g < B) (hB : B ≤ w.heap.size) (hr : PkRows w B p Am cm Ag cg Ax cx) :
    Calls Try.prog 71 #[.pointer (some ⟨g, 0, none⟩), .int .u8 101, pkV p Am cm Ag cg Ax cx] w (TF g s m st B (fieldP 101 p) (some (p.x, Ax, cx)) w) := by
  obtain ⟨kind, src, dst, ⟨ce, cr⟩, ⟨mf, ms, mt, mv, md, my⟩, stamp, sent, got, horizon, whom, seq, members, ⟨pe, pr⟩, epoch, x⟩ := p
  obtain ⟨hr1, hr2, hr3⟩ := hr
  dsimp only at *
  obtain ⟨c, hc⟩ : ∃ c : Array Value, c = #[.int .i64 kind, .int .i64 src, .int .i64 dst, .int .u64 (ce : Int), .int .i64 cr, .int .i64 mf, .int .u32 (ms : Int), .int .u64 (mt : Int), .int .i64 mv, .slice Am md.length cm, .string my, .int .u64 (stamp : Int), .int .u32 (sent : Int), .slice Ag got.length cg, .int .u64 (horizon : Int), .int .i64 whom, .int .u32 (seq : Int), .int .u64 (members : Int), .int .u64 (pe : Int), .int .i64 pr, .int .u64 (epoch : Int), .slice Ax x.length cx] := ⟨_, rfl⟩
  rw [show pkV (⟨kind, src, dst, ⟨ce, cr⟩, ⟨mf, ms, mt, mv, md, my⟩, stamp, sent, got, horizon, whom, seq, members, ⟨pe, pr⟩, epoch, x⟩ : Pk) Am cm Ag cg Ax cx = .agg c from by rw [hc]; rfl]
  have HC := Lib.hid hc
  clear hc
  obtain ⟨w1, hw1⟩ : ∃ W, W = ((w.alloc (.cells c 73)).alloc (.cells #[.int .i64 0, .int .i64 0, .int .i64 0, .int .u64 0, .int .i64 0, .int .i64 0, .int .u32 0, .int .u64 0, .int .i64 0, .slice none 0 0, .string ⟨#[]⟩, .int .u64 0, .int .u32 0, .slice none 0 0, .int .u64 0, .int .i64 0, .int .u32 0, .int .u64 0, .int .u64 0, .int .i64 0, .int .u64 0, .slice none 0 0] 73)) := ⟨_, rfl⟩
  have hbel := below_alloc (below_alloc (Below.refl w.heap.size w) (.cells c 73)) (.cells #[.int .i64 0, .int .i64 0, .int .i64 0, .int .u64 0, .int .i64 0, .int .i64 0, .int .u32 0, .int .u64 0, .int .i64 0, .slice none 0 0, .string ⟨#[]⟩, .int .u64 0, .int .u32 0, .slice none 0 0, .int .u64 0, .int .i64 0, .int .u32 0, .int .u64 0, .int .u64 0, .int .i64 0, .int .u64 0, .slice none 0 0] 73)
  rw [← hw1] at hbel
  have hsz : w1.heap.size = w.heap.size + 1 + 1 := by rw [hw1]; simp
  have hg := h.lt
  have n0 : w.heap.size ≠ g := by omega
  have n1 : w.heap.size + 1 ≠ g := by omega
  have H0_1 : Hid (w1.heap[w.heap.size]? = some (.cells c 73 (0, 0))) := Lib.hid (by rw [hw1]; exact (Below.heap_alloc _ _ _ (by simp)).trans (heap_alloc_new w _))
  have H1_1 : Hid (w1.heap[w.heap.size + 1]? = some (.cells #[.int .i64 0, .int .i64 0, .int .i64 0, .int .u64 0, .int .i64 0, .int .i64 0, .int .u32 0, .int .u64 0, .int .i64 0, .slice none 0 0, .string ⟨#[]⟩, .int .u64 0, .int .u32 0, .slice none 0 0, .int .u64 0, .int .i64 0, .int .u32 0, .int .u64 0, .int .u64 0, .int .i64 0, .int .u64 0, .slice none 0 0] 73 (0, 0))) := Lib.hid (by rw [hw1, show w.heap.size + 1 = (w.alloc (.cells c 73)).heap.size by simp]; exact heap_alloc_new _ _)
  have HT1 := Lib.hid (h.kept hbel)
  have HO1 := Lib.hid (Only.of_below (g := g) hbel)
  have HW1 := Lib.hid hw1
  have R1 := Lib.hid hr1
  have R2 := Lib.hid hr2
  have R3 := Lib.hid hr3
  clear h hr1 hr2 hr3 hw1 hbel
  go_enter Try.func71, Try.ntmps71
  go_wp2_with fail
  rw [← HW1.out]
  refine (tnum g s m 8 st w1 HT1.out hs (by omega) (by omega) (by omega)).mono ?_
  rintro e w2 ⟨v, st2, rfl, hv, hvia, hT, ho⟩
  have H0_2 : Hid (w2.heap[w.heap.size]? = some (.cells c 73 (0, 0))) := Lib.hid ((ho.block w.heap.size (by omega) (by simpa using n0)).trans H0_1.out)
  have H1_2 : Hid (w2.heap[w.heap.size + 1]? = some (.cells #[.int .i64 0, .int .i64 0, .int .i64 0, .int .u64 0, .int .i64 0, .int .i64 0, .int .u32 0, .int .u64 0, .int .i64 0, .slice none 0 0, .string ⟨#[]⟩, .int .u64 0, .int .u32 0, .slice none 0 0, .int .u64 0, .int .i64 0, .int .u32 0, .int .u64 0, .int .u64 0, .int .i64 0, .int .u64 0, .slice none 0 0] 73 (0, 0))) := Lib.hid ((ho.block (w.heap.size + 1) (by omega) (by simpa using n1)).trans H1_1.out)
  have HT2 := Lib.hid hT
  have HO2 := Lib.hid (HO1.out.trans ho)
  have HV := Lib.hid hvia
  clear hT ho hvia H0_1 H1_1 HT1 HO1
  have k20 : w2.cell? ⟨w.heap.size, 20, none⟩ = some (.int .u64 (epoch : Int)) := (cell_of_row _ _ 20 _ _ _ H0_2.out).trans (by rw [HC.out]; rfl)
  have f20 : w2.frozen? ⟨w.heap.size, 20, none⟩ = false := by simp only [World.frozen?, H0_2.out]; rfl
  obtain ⟨W, hW⟩ : ∃ W, W = (w2.setCell ⟨w.heap.size, 20, none⟩ (.int .u64 (v : Int))) := ⟨_, rfl⟩
  have RA : W.heap[w.heap.size]? = some (.cells #[.int .i64 kind, .int .i64 src, .int .i64 dst, .int .u64 (ce : Int), .int .i64 cr, .int .i64 mf, .int .u32 (ms : Int), .int .u64 (mt : Int), .int .i64 mv, .slice Am md.length cm, .string my, .int .u64 (stamp : Int), .int .u32 (sent : Int), .slice Ag got.length cg, .int .u64 (horizon : Int), .int .i64 whom, .int .u32 (seq : Int), .int .u64 (members : Int), .int .u64 (pe : Int), .int .i64 pr, .int .u64 (v : Int), .slice Ax x.length cx] 73 (0, 0)) := by
    rw [hW]
    refine (blk_setj H0_2.out 20 (.int .u64 (v : Int))).trans ?_
    rw [HC.out]
    rfl
  have RB : W.heap[w.heap.size + 1]? = some (.cells #[.int .i64 0, .int .i64 0, .int .i64 0, .int .u64 0, .int .i64 0, .int .i64 0, .int .u32 0, .int .u64 0, .int .i64 0, .slice none 0 0, .string ⟨#[]⟩, .int .u64 0, .int .u32 0, .slice none 0 0, .int .u64 0, .int .i64 0, .int .u32 0, .int .u64 0, .int .u64 0, .int .i64 0, .int .u64 0, .slice none 0 0] 73 (0, 0)) := by rw [hW]; exact ((Below.heap_setCell _ ⟨w.heap.size, 20, none⟩ (.int .u64 (v : Int)) (w.heap.size + 1) (by simp)).trans H1_2.out)
  have HT3 : Hid (Tk W g s _ _) := Lib.hid (by rw [hW]; exact (HT2.out.set n0 20 (.int .u64 (v : Int))))
  have HO3 : Hid (Only g w W) := Lib.hid (by rw [hW]; exact (HO2.out.fresh (Nat.le_refl _) 20 (.int .u64 (v : Int))))
  have HWE := Lib.hid hW
  clear hW
  have mk := True.intro
  go_wp2_with (first | (clear mk; rw [← HWE.out]; refine wpList_load_row rfl 73 (.tmp 5) rfl w.heap.size (by simp [Act.eval, Act.put]) 73 #[.int .i64 kind, .int .i64 src, .int .i64 dst, .int .u64 (ce : Int), .int .i64 cr, .int .i64 mf, .int .u32 (ms : Int), .int .u64 (mt : Int), .int .i64 mv, .slice Am md.length cm, .string my, .int .u64 (stamp : Int), .int .u32 (sent : Int), .slice Ag got.length cg, .int .u64 (horizon : Int), .int .i64 whom, .int .u32 (seq : Int), .int .u64 (members : Int), .int .u64 (pe : Int), .int .i64 pr, .int .u64 (v : Int), .slice Ax x.length cx] (0, 0) _ RA Try.underlying73 rfl info73 ?_; have mk2 := True.intro) | (clear mk2; refine wpList_store_row rfl 73 (.tmp 6) (.tmp 110) rfl (w.heap.size + 1) #[.int .i64 kind, .int .i64 src, .int .i64 dst, .int .u64 (ce : Int), .int .i64 cr, .int .i64 mf, .int .u32 (ms : Int), .int .u64 (mt : Int), .int .i64 mv, .slice Am md.length cm, .string my, .int .u64 (stamp : Int), .int .u32 (sent : Int), .slice Ag got.length cg, .int .u64 (horizon : Int), .int .i64 whom, .int .u32 (seq : Int), .int .u64 (members : Int), .int .u64 (pe : Int), .int .i64 pr, .int .u64 (v : Int), .slice Ax x.length cx] (by simp [Act.eval, Act.put]) (by simp [Act.eval, Act.put]) 73 #[.int .i64 0, .int .i64 0, .int .i64 0, .int .u64 0, .int .i64 0, .int .i64 0, .int .u32 0, .int .u64 0, .int .i64 0, .slice none 0 0, .string ⟨#[]⟩, .int .u64 0, .int .u32 0, .slice none 0 0, .int .u64 0, .int .i64 0, .int .u32 0, .int .u64 0, .int .u64 0, .int .i64 0, .int .u64 0, .slice none 0 0] RB info73 rfl (by kernel_rfl) ?_))
  have hf := setRow_heap W (w.heap.size + 1) #[.int .i64 0, .int .i64 0, .int .i64 0, .int .u64 0, .int .i64 0, .int .i64 0, .int .u32 0, .int .u64 0, .int .i64 0, .slice none 0 0, .string ⟨#[]⟩, .int .u64 0, .int .u32 0, .slice none 0 0, .int .u64 0, .int .i64 0, .int .u32 0, .int .u64 0, .int .u64 0, .int .i64 0, .int .u64 0, .slice none 0 0] #[.int .i64 kind, .int .i64 src, .int .i64 dst, .int .u64 (ce : Int), .int .i64 cr, .int .i64 mf, .int .u32 (ms : Int), .int .u64 (mt : Int), .int .i64 mv, .slice Am md.length cm, .string my, .int .u64 (stamp : Int), .int .u32 (sent : Int), .slice Ag got.length cg, .int .u64 (horizon : Int), .int .i64 whom, .int .u32 (seq : Int), .int .u64 (members : Int), .int .u64 (pe : Int), .int .i64 pr, .int .u64 (v : Int), .slice Ax x.length cx] 73 (0, 0) RB
  have hO := only_setRow (k := w.heap.size + 1) HO3.out (by omega) #[.int .i64 kind, .int .i64 src, .int .i64 dst, .int .u64 (ce : Int), .int .i64 cr, .int .i64 mf, .int .u32 (ms : Int), .int .u64 (mt : Int), .int .i64 mv, .slice Am md.length cm, .string my, .int .u64 (stamp : Int), .int .u32 (sent : Int), .slice Ag got.length cg, .int .u64 (horizon : Int), .int .i64 whom, .int .u32 (seq : Int), .int .u64 (members : Int), .int .u64 (pe : Int), .int .i64 pr, .int .u64 (v : Int), .slice Ax x.length cx]
  refine bodyPost_ret (v := .agg #[.int .i64 kind, .int .i64 src, .int .i64 dst, .int .u64 (ce : Int), .int .i64 cr, .int .i64 mf, .int .u32 (ms : Int), .int .u64 (mt : Int), .int .i64 mv, .slice Am md.length cm, .string my, .int .u64 (stamp : Int), .int .u32 (sent : Int), .slice Ag got.length cg, .int .u64 (horizon : Int), .int .i64 whom, .int .u32 (seq : Int), .int .u64 (members : Int), .int .u64 (pe : Int), .int .i64 pr, .int .u64 (v : Int), .slice Ax x.length cx]) (results_cell_row Try.results71 _ _ _ _ _ _ _ (by simp [Act.put]) hf Try.underlying73 rfl info73) rfl ?_
  refine ⟨⟨kind, src, dst, ⟨ce, cr⟩, ⟨mf, ms, mt, mv, md, my⟩, stamp, sent, got, horizon, whom, seq, members, ⟨pe, pr⟩, v, x⟩, Am, cm, Ag, cg, Ax, cx, _, rfl, ⟨own_keep_only R1.out hO hgB, own_keep_only R2.out hO hgB, XOwn.keep_only R3.out hO hgB⟩, ?_, (tk_setRow HT3.out n1 #[.int .i64 kind, .int .i64 src, .int .i64 dst, .int .u64 (ce : Int), .int .i64 cr, .int .i64 mf, .int .u32 (ms : Int), .int .u64 (mt : Int), .int .i64 mv, .slice Am md.length cm, .string my, .int .u64 (stamp : Int), .int .u32 (sent : Int), .slice Ag got.length cg, .int .u64 (horizon : Int), .int .i64 whom, .int .u32 (seq : Int), .int .u64 (members : Int), .int .u64 (pe : Int), .int .i64 pr, .int .u64 (v : Int), .slice Ax x.length cx]).mono (by omega), hO, fun _ h => by cases h; rfl⟩
  exact via_and (P := numP 8) (Q := fun z r => .ok ((⟨kind, src, dst, ⟨ce, cr⟩, ⟨mf, ms, mt, mv, md, my⟩, stamp, sent, got, horizon, whom, seq, members, ⟨pe, pr⟩, z, x⟩ : Pk), r)) HV.out

set_option maxHeartbeats 3200000 in
set_option maxRecDepth 8000 in
theorem tfield_b (g : Nat) (s : ByteArray) (m : Nat) (st : St) (p : Pk) (Am : Option Addr) (cm : Nat) (Ag : Option Addr) (cg : Nat) (Ax : Option Addr) (cx : Nat) (B : Nat) (w : World) (h : Tk w g s m st) (hs : s.size ≤ 1000000) (hm : m ≤ 1600000)
    (hgB : g < B) (hB : B ≤ w.heap.size) (hr : PkRows w B p Am cm Ag cg Ax cx) :
    Calls Try.prog 71 #[.pointer (some ⟨g, 0, none⟩), .int .u8 98, pkV p Am cm Ag cg Ax cx] w (TF g s m st B (fieldP 98 p) (some (p.x, Ax, cx)) w) := by
  obtain ⟨kind, src, dst, ⟨ce, cr⟩, ⟨mf, ms, mt, mv, md, my⟩, stamp, sent, got, horizon, whom, seq, members, ⟨pe, pr⟩, epoch, x⟩ := p
  obtain ⟨hr1, hr2, hr3⟩ := hr
  dsimp only at *
  obtain ⟨c, hc⟩ : ∃ c : Array Value, c = #[.int .i64 kind, .int .i64 src, .int .i64 dst, .int .u64 (ce : Int), .int .i64 cr, .int .i64 mf, .int .u32 (ms : Int), .int .u64 (mt : Int), .int .i64 mv, .slice Am md.length cm, .string my, .int .u64 (stamp : Int), .int .u32 (sent : Int), .slice Ag got.length cg, .int .u64 (horizon : Int), .int .i64 whom, .int .u32 (seq : Int), .int .u64 (members : Int), .int .u64 (pe : Int), .int .i64 pr, .int .u64 (epoch : Int), .slice Ax x.length cx] := ⟨_, rfl⟩
  rw [show pkV (⟨kind, src, dst, ⟨ce, cr⟩, ⟨mf, ms, mt, mv, md, my⟩, stamp, sent, got, horizon, whom, seq, members, ⟨pe, pr⟩, epoch, x⟩ : Pk) Am cm Ag cg Ax cx = .agg c from by rw [hc]; rfl]
  have HC := Lib.hid hc
  clear hc
  obtain ⟨w1, hw1⟩ : ∃ W, W = ((w.alloc (.cells c 73)).alloc (.cells #[.int .i64 0, .int .i64 0, .int .i64 0, .int .u64 0, .int .i64 0, .int .i64 0, .int .u32 0, .int .u64 0, .int .i64 0, .slice none 0 0, .string ⟨#[]⟩, .int .u64 0, .int .u32 0, .slice none 0 0, .int .u64 0, .int .i64 0, .int .u32 0, .int .u64 0, .int .u64 0, .int .i64 0, .int .u64 0, .slice none 0 0] 73)) := ⟨_, rfl⟩
  have hbel := below_alloc (below_alloc (Below.refl w.heap.size w) (.cells c 73)) (.cells #[.int .i64 0, .int .i64 0, .int .i64 0, .int .u64 0, .int .i64 0, .int .i64 0, .int .u32 0, .int .u64 0, .int .i64 0, .slice none 0 0, .string ⟨#[]⟩, .int .u64 0, .int .u32 0, .slice none 0 0, .int .u64 0, .int .i64 0, .int .u32 0, .int .u64 0, .int .u64 0, .int .i64 0, .int .u64 0, .slice none 0 0] 73)
  rw [← hw1] at hbel
  have hsz : w1.heap.size = w.heap.size + 1 + 1 := by rw [hw1]; simp
  have hg := h.lt
  have n0 : w.heap.size ≠ g := by omega
  have n1 : w.heap.size + 1 ≠ g := by omega
  have H0_1 : Hid (w1.heap[w.heap.size]? = some (.cells c 73 (0, 0))) := Lib.hid (by rw [hw1]; exact (Below.heap_alloc _ _ _ (by simp)).trans (heap_alloc_new w _))
  have H1_1 : Hid (w1.heap[w.heap.size + 1]? = some (.cells #[.int .i64 0, .int .i64 0, .int .i64 0, .int .u64 0, .int .i64 0, .int .i64 0, .int .u32 0, .int .u64 0, .int .i64 0, .slice none 0 0, .string ⟨#[]⟩, .int .u64 0, .int .u32 0, .slice none 0 0, .int .u64 0, .int .i64 0, .int .u32 0, .int .u64 0, .int .u64 0, .int .i64 0, .int .u64 0, .slice none 0 0] 73 (0, 0))) := Lib.hid (by rw [hw1, show w.heap.size + 1 = (w.alloc (.cells c 73)).heap.size by simp]; exact heap_alloc_new _ _)
  have HT1 := Lib.hid (h.kept hbel)
  have HO1 := Lib.hid (Only.of_below (g := g) hbel)
  have HW1 := Lib.hid hw1
  have R1 := Lib.hid hr1
  have R2 := Lib.hid hr2
  have R3 := Lib.hid hr3
  clear h hr1 hr2 hr3 hw1 hbel
  go_enter Try.func71, Try.ntmps71
  go_wp2_with fail
  rw [← HW1.out]
  refine (tnum g s m 8 st w1 HT1.out hs (by omega) (by omega) (by omega)).mono ?_
  rintro e w2 ⟨v, st2, rfl, hv, hvia, hT, ho⟩
  have H0_2 : Hid (w2.heap[w.heap.size]? = some (.cells c 73 (0, 0))) := Lib.hid ((ho.block w.heap.size (by omega) (by simpa using n0)).trans H0_1.out)
  have H1_2 : Hid (w2.heap[w.heap.size + 1]? = some (.cells #[.int .i64 0, .int .i64 0, .int .i64 0, .int .u64 0, .int .i64 0, .int .i64 0, .int .u32 0, .int .u64 0, .int .i64 0, .slice none 0 0, .string ⟨#[]⟩, .int .u64 0, .int .u32 0, .slice none 0 0, .int .u64 0, .int .i64 0, .int .u32 0, .int .u64 0, .int .u64 0, .int .i64 0, .int .u64 0, .slice none 0 0] 73 (0, 0))) := Lib.hid ((ho.block (w.heap.size + 1) (by omega) (by simpa using n1)).trans H1_1.out)
  have HT2 := Lib.hid hT
  have HO2 := Lib.hid (HO1.out.trans ho)
  have HV := Lib.hid hvia
  clear hT ho hvia H0_1 H1_1 HT1 HO1
  have k17 : w2.cell? ⟨w.heap.size, 17, none⟩ = some (.int .u64 (members : Int)) := (cell_of_row _ _ 17 _ _ _ H0_2.out).trans (by rw [HC.out]; rfl)
  have f17 : w2.frozen? ⟨w.heap.size, 17, none⟩ = false := by simp only [World.frozen?, H0_2.out]; rfl
  obtain ⟨W, hW⟩ : ∃ W, W = (w2.setCell ⟨w.heap.size, 17, none⟩ (.int .u64 (v : Int))) := ⟨_, rfl⟩
  have RA : W.heap[w.heap.size]? = some (.cells #[.int .i64 kind, .int .i64 src, .int .i64 dst, .int .u64 (ce : Int), .int .i64 cr, .int .i64 mf, .int .u32 (ms : Int), .int .u64 (mt : Int), .int .i64 mv, .slice Am md.length cm, .string my, .int .u64 (stamp : Int), .int .u32 (sent : Int), .slice Ag got.length cg, .int .u64 (horizon : Int), .int .i64 whom, .int .u32 (seq : Int), .int .u64 (v : Int), .int .u64 (pe : Int), .int .i64 pr, .int .u64 (epoch : Int), .slice Ax x.length cx] 73 (0, 0)) := by
    rw [hW]
    refine (blk_setj H0_2.out 17 (.int .u64 (v : Int))).trans ?_
    rw [HC.out]
    rfl
  have RB : W.heap[w.heap.size + 1]? = some (.cells #[.int .i64 0, .int .i64 0, .int .i64 0, .int .u64 0, .int .i64 0, .int .i64 0, .int .u32 0, .int .u64 0, .int .i64 0, .slice none 0 0, .string ⟨#[]⟩, .int .u64 0, .int .u32 0, .slice none 0 0, .int .u64 0, .int .i64 0, .int .u32 0, .int .u64 0, .int .u64 0, .int .i64 0, .int .u64 0, .slice none 0 0] 73 (0, 0)) := by rw [hW]; exact ((Below.heap_setCell _ ⟨w.heap.size, 17, none⟩ (.int .u64 (v : Int)) (w.heap.size + 1) (by simp)).trans H1_2.out)
  have HT3 : Hid (Tk W g s _ _) := Lib.hid (by rw [hW]; exact (HT2.out.set n0 17 (.int .u64 (v : Int))))
  have HO3 : Hid (Only g w W) := Lib.hid (by rw [hW]; exact (HO2.out.fresh (Nat.le_refl _) 17 (.int .u64 (v : Int))))
  have HWE := Lib.hid hW
  clear hW
  have mk := True.intro
  go_wp2_with (first | (clear mk; rw [← HWE.out]; refine wpList_load_row rfl 73 (.tmp 5) rfl w.heap.size (by simp [Act.eval, Act.put]) 73 #[.int .i64 kind, .int .i64 src, .int .i64 dst, .int .u64 (ce : Int), .int .i64 cr, .int .i64 mf, .int .u32 (ms : Int), .int .u64 (mt : Int), .int .i64 mv, .slice Am md.length cm, .string my, .int .u64 (stamp : Int), .int .u32 (sent : Int), .slice Ag got.length cg, .int .u64 (horizon : Int), .int .i64 whom, .int .u32 (seq : Int), .int .u64 (v : Int), .int .u64 (pe : Int), .int .i64 pr, .int .u64 (epoch : Int), .slice Ax x.length cx] (0, 0) _ RA Try.underlying73 rfl info73 ?_; have mk2 := True.intro) | (clear mk2; refine wpList_store_row rfl 73 (.tmp 6) (.tmp 110) rfl (w.heap.size + 1) #[.int .i64 kind, .int .i64 src, .int .i64 dst, .int .u64 (ce : Int), .int .i64 cr, .int .i64 mf, .int .u32 (ms : Int), .int .u64 (mt : Int), .int .i64 mv, .slice Am md.length cm, .string my, .int .u64 (stamp : Int), .int .u32 (sent : Int), .slice Ag got.length cg, .int .u64 (horizon : Int), .int .i64 whom, .int .u32 (seq : Int), .int .u64 (v : Int), .int .u64 (pe : Int), .int .i64 pr, .int .u64 (epoch : Int), .slice Ax x.length cx] (by simp [Act.eval, Act.put]) (by simp [Act.eval, Act.put]) 73 #[.int .i64 0, .int .i64 0, .int .i64 0, .int .u64 0, .int .i64 0, .int .i64 0, .int .u32 0, .int .u64 0, .int .i64 0, .slice none 0 0, .string ⟨#[]⟩, .int .u64 0, .int .u32 0, .slice none 0 0, .int .u64 0, .int .i64 0, .int .u32 0, .int .u64 0, .int .u64 0, .int .i64 0, .int .u64 0, .slice none 0 0] RB info73 rfl (by kernel_rfl) ?_))
  have hf := setRow_heap W (w.heap.size + 1) #[.int .i64 0, .int .i64 0, .int .i64 0, .int .u64 0, .int .i64 0, .int .i64 0, .int .u32 0, .int .u64 0, .int .i64 0, .slice none 0 0, .string ⟨#[]⟩, .int .u64 0, .int .u32 0, .slice none 0 0, .int .u64 0, .int .i64 0, .int .u32 0, .int .u64 0, .int .u64 0, .int .i64 0, .int .u64 0, .slice none 0 0] #[.int .i64 kind, .int .i64 src, .int .i64 dst, .int .u64 (ce : Int), .int .i64 cr, .int .i64 mf, .int .u32 (ms : Int), .int .u64 (mt : Int), .int .i64 mv, .slice Am md.length cm, .string my, .int .u64 (stamp : Int), .int .u32 (sent : Int), .slice Ag got.length cg, .int .u64 (horizon : Int), .int .i64 whom, .int .u32 (seq : Int), .int .u64 (v : Int), .int .u64 (pe : Int), .int .i64 pr, .int .u64 (epoch : Int), .slice Ax x.length cx] 73 (0, 0) RB
  have hO := only_setRow (k := w.heap.size + 1) HO3.out (by omega) #[.int .i64 kind, .int .i64 src, .int .i64 dst, .int .u64 (ce : Int), .int .i64 cr, .int .i64 mf, .int .u32 (ms : Int), .int .u64 (mt : Int), .int .i64 mv, .slice Am md.length cm, .string my, .int .u64 (stamp : Int), .int .u32 (sent : Int), .slice Ag got.length cg, .int .u64 (horizon : Int), .int .i64 whom, .int .u32 (seq : Int), .int .u64 (v : Int), .int .u64 (pe : Int), .int .i64 pr, .int .u64 (epoch : Int), .slice Ax x.length cx]
  refine bodyPost_ret (v := .agg #[.int .i64 kind, .int .i64 src, .int .i64 dst, .int .u64 (ce : Int), .int .i64 cr, .int .i64 mf, .int .u32 (ms : Int), .int .u64 (mt : Int), .int .i64 mv, .slice Am md.length cm, .string my, .int .u64 (stamp : Int), .int .u32 (sent : Int), .slice Ag got.length cg, .int .u64 (horizon : Int), .int .i64 whom, .int .u32 (seq : Int), .int .u64 (v : Int), .int .u64 (pe : Int), .int .i64 pr, .int .u64 (epoch : Int), .slice Ax x.length cx]) (results_cell_row Try.results71 _ _ _ _ _ _ _ (by simp [Act.put]) hf Try.underlying73 rfl info73) rfl ?_
  refine ⟨⟨kind, src, dst, ⟨ce, cr⟩, ⟨mf, ms, mt, mv, md, my⟩, stamp, sent, got, horizon, whom, seq, v, ⟨pe, pr⟩, epoch, x⟩, Am, cm, Ag, cg, Ax, cx, _, rfl, ⟨own_keep_only R1.out hO hgB, own_keep_only R2.out hO hgB, XOwn.keep_only R3.out hO hgB⟩, ?_, (tk_setRow HT3.out n1 #[.int .i64 kind, .int .i64 src, .int .i64 dst, .int .u64 (ce : Int), .int .i64 cr, .int .i64 mf, .int .u32 (ms : Int), .int .u64 (mt : Int), .int .i64 mv, .slice Am md.length cm, .string my, .int .u64 (stamp : Int), .int .u32 (sent : Int), .slice Ag got.length cg, .int .u64 (horizon : Int), .int .i64 whom, .int .u32 (seq : Int), .int .u64 (v : Int), .int .u64 (pe : Int), .int .i64 pr, .int .u64 (epoch : Int), .slice Ax x.length cx]).mono (by omega), hO, fun _ h => by cases h; rfl⟩
  exact via_and (P := numP 8) (Q := fun z r => .ok ((⟨kind, src, dst, ⟨ce, cr⟩, ⟨mf, ms, mt, mv, md, my⟩, stamp, sent, got, horizon, whom, seq, z, ⟨pe, pr⟩, epoch, x⟩ : Pk), r)) HV.out
end Go.Proofs.Ythkfgjdbgnbjkaa
