/- The walk of the reference's taker: exchange. -/
import Derived.Test.YthkfgjdbgnbjkaaPkTn
import Derived.Laws.CopyOwn
namespace Go.Proofs.Ythkfgjdbgnbjkaa
open Go.RowKit Go.Sort
set_option linter.unusedSimpArgs false
set_option linter.unusedVariables false

theorem tinfo86 : (Try.prog.info? 86).map (·.size) = some 6 := by kernel_rfl
abbrev zex6 : Array Value := #[.int .i64 0, .int .u64 0, .int .i64 0, .slice none 0 0, .int .u64 0, .int .i64 0]
theorem exP_via {st st1 st2 st3 st4 st5 : St} {p q : Int} {c : Cf} {us : List Nat} {v : Nat} (h1 : via procP st = ret p st1) (h2 : via confP st1 = ret c st2) (h3 : via vecP st2 = ret us st3) (h4 : via (numP 8) st3 = ret v st4) (h5 : via procP st4 = ret q st5) :
    via exP st = ret (⟨p, c, us, ⟨v, q⟩⟩ : Ex) st5 := by
  rw [show exP = (fun l => andP (procP l) fun who r => andP (confP r) fun old r => andP (vecP r) fun cnt r => andP (keyP r) fun last r => .ok (⟨who, old, cnt, last⟩, r)) from rfl, via_and h1]
  refine (via_and (P := confP) (Q := fun old r => andP (vecP r) fun cnt r => andP (keyP r) fun last r => (.ok ((⟨p, old, cnt, last⟩ : Ex), r) : In Ex)) h2).trans ?_
  refine (via_and (P := vecP) (Q := fun cnt r => andP (keyP r) fun last r => (.ok ((⟨p, c, cnt, last⟩ : Ex), r) : In Ex)) h3).trans ?_
  have hk : via keyP st3 = ret (⟨v, q⟩ : Ky) st5 := by
    rw [show keyP = (fun l => andP (numP 8 l) fun e r => andP (procP r) fun p r => .ok (⟨e, p⟩, r)) from rfl, via_and h4]
    exact via_and (P := procP) (Q := fun p r => (.ok ((⟨v, p⟩ : Ky), r) : In Ky)) h5
  exact via_and (P := keyP) (Q := fun last r => (.ok ((⟨p, c, us, last⟩ : Ex), r) : In Ex)) hk

set_option maxHeartbeats 3200000 in
set_option maxRecDepth 8000 in
theorem tex (g : Nat) (s : ByteArray) (m : Nat) (st : St) (w : World) (h : Tk w g s m st) (hs : s.size ≤ 1000000) (hm : m ≤ 1800000) :
    Calls Try.prog 97 #[.pointer (some ⟨g, 0, none⟩)] w fun e w' => ∃ (x : Ex) (A : Option Addr) (c : Nat) (st' : St), e = .returned (exV x A c) ∧ w'.ownsRow w.heap.size 25 1 (.slice A x.cnt.length c) x.cnt.length (uvals x.cnt) ∧
      via exP st = ret x st' ∧ Tk w' g s (m + 2120) st' ∧ Only g w w' := by
  have hg := h.lt
  have n0 : w.heap.size ≠ g := by omega
  have n0' : some w.heap.size ≠ some g := by simpa using n0
  have hb0 : Below w.heap.size w (w.alloc (.cells #[.int .i64 0, .int .u64 0, .int .i64 0, .slice none 0 0, .int .u64 0, .int .i64 0] 86)) := below_alloc (Below.refl _ _) _
  have ho0 := Lib.hid (Only.of_below (g := g) hb0)
  have HA := Lib.hid (heap_alloc_new w (.cells #[.int .i64 0, .int .u64 0, .int .i64 0, .slice none 0 0, .int .u64 0, .int .i64 0] 86))
  have HP := Lib.hid (tproc g s m st _ (h.kept hb0) hs (by omega))
  have HI := Lib.hid tinfo86
  clear h hb0
  go_enter Try.func97, Try.ntmps97
  go_wp2_with fail
  refine HP.out.mono ?_
  rintro e w1 ⟨p, st1, rfl, hp, hvia, hT, ho⟩
  have HV1 := Lib.hid hvia
  have HA1 := Lib.hid ((ho.block w.heap.size (by simp) n0').trans HA.out)
  have HO1 := Lib.hid (ho0.out.trans ho)
  have HT1 := Lib.hid hT
  clear hvia HP ho hT HA ho0
  have D0 := heap_alloc_new w1 (.cells #[.int .i64 0, .int .u64 0, .int .i64 0, .slice none 0 0, .int .u64 0, .int .i64 0] 86)
  have HW2 : Hid (∃ W, W = (w1.alloc (.cells #[.int .i64 0, .int .u64 0, .int .i64 0, .slice none 0 0, .int .u64 0, .int .i64 0] 86)).setRow w1.heap.size #[.int .i64 (p : Int), .int .u64 0, .int .i64 0, .slice none 0 0, .int .u64 0, .int .i64 0]) := ⟨_, rfl⟩
  obtain ⟨w2, hw2⟩ := HW2.out
  have hne1 : w.heap.size ≠ w1.heap.size := by have := blk_lt HA1.out; omega
  have hgK : w1.heap.size ≠ g := by have := HT1.out.lt; omega
  have hbel := below_setRow (B := w1.heap.size) (below_alloc (Below.refl w1.heap.size w1) (.cells #[.int .i64 0, .int .u64 0, .int .i64 0, .slice none 0 0, .int .u64 0, .int .i64 0] 86)) (Nat.le_refl _) #[.int .i64 (p : Int), .int .u64 0, .int .i64 0, .slice none 0 0, .int .u64 0, .int .i64 0]
  rw [← hw2] at hbel
  have HT2 := Lib.hid (HT1.out.kept hbel)
  have HO2 := Lib.hid (HO1.out.trans (Only.of_below hbel))
  have HA2 := Lib.hid ((hbel.block w.heap.size (blk_lt HA1.out)).trans HA1.out)
  have HB2 := Lib.hid (show w2.heap[w1.heap.size]? = some (.cells #[.int .i64 (p : Int), .int .u64 0, .int .i64 0, .slice none 0 0, .int .u64 0, .int .i64 0] 86 (0, 0)) from by rw [hw2]; exact setRow_heap _ _ _ _ _ _ D0)
  have HS1 := Lib.hid HO1.out.size
  have HWW := Lib.hid hw2
  have hgK' : some w1.heap.size ≠ some g := by simpa using hgK
  have hwK := HO1.out.size
  clear hbel HT1 HO1 HA1 HW2 hw2 HS1
  go_wp2_with (refine wpList_store_row rfl 86 (.tmp 3) (.tmp 6) rfl w1.heap.size #[.int .i64 (p : Int), .int .u64 0, .int .i64 0, .slice none 0 0, .int .u64 0, .int .i64 0] (by simp [Act.eval, Act.put]) (by simp [Act.eval, Act.put]) 86 #[.int .i64 0, .int .u64 0, .int .i64 0, .slice none 0 0, .int .u64 0, .int .i64 0] D0 (by exact HI.out) (by rfl) (by kernel_rfl) ?_; clear D0; rw [← HWW.out]; clear HWW)
  generalize w1.heap.size = K at *
  refine (tconf g s (m + 8) st1 w2 HT2.out hs (by omega)).mono ?_
  rintro e w3 ⟨c, st2, rfl, hvia, hT, ho⟩
  have B3 := (ho.block K (blk_lt HB2.out) hgK').trans HB2.out
  have A3 := (ho.block w.heap.size (blk_lt HA2.out) n0').trans HA2.out
  have t1 := cell_of_row _ _ 1 _ _ _ B3
  simp at t1
  have f1 : w3.frozen? ⟨K, 1, none⟩ = false := by simp [World.frozen?, B3]
  have t2 := cell_of_row _ _ 2 _ _ _ B3
  simp at t2
  have f2 : w3.frozen? ⟨K, 2, none⟩ = false := by simp [World.frozen?, B3]
  have HT3 := Lib.hid ((hT.set hgK 1 (.int .u64 (c.e : Int))).set hgK 2 (.int .i64 c.r))
  have HO3 := Lib.hid (((HO2.out.trans ho).fresh hwK 1 (.int .u64 (c.e : Int))).fresh hwK 2 (.int .i64 c.r))
  have HB3 := Lib.hid (show ((w3.setCell ⟨K, 1, none⟩ (.int .u64 (c.e : Int))).setCell ⟨K, 2, none⟩ (.int .i64 c.r)).heap[K]? = some (.cells #[.int .i64 (p : Int), .int .u64 (c.e : Int), .int .i64 c.r, .slice none 0 0, .int .u64 0, .int .i64 0] 86 (0, 0)) from (blk_setj (blk_setj B3 1 (.int .u64 (c.e : Int))) 2 (.int .i64 c.r)))
  have HA3 := Lib.hid ((Below.heap_setCell (w3.setCell ⟨K, 1, none⟩ (.int .u64 (c.e : Int))) ⟨K, 2, none⟩ (.int .i64 c.r) w.heap.size hne1).trans ((Below.heap_setCell w3 ⟨K, 1, none⟩ (.int .u64 (c.e : Int)) w.heap.size hne1).trans A3))
  have HV3 := Lib.hid hvia
  clear hT ho hvia HT2 HO2 HB2 HA2 B3 A3
  go_wp2_with fail
  refine (tvec g s (m + 8 + 16) st2 _ HT3.out hs (by omega)).mono ?_
  rintro e w4 ⟨us, A, cc, st3, rfl, hown, hvia, hT, ho⟩
  have B4 := (ho.block K (blk_lt HB3.out) hgK').trans HB3.out
  have A4 := (ho.block w.heap.size (blk_lt HA3.out) n0').trans HA3.out
  have hgB : (Value.slice A us.length cc).ownBlock ≠ some K := by
    intro e
    have h1 := own_base_any hown e
    have h2 := blk_lt HB3.out
    omega
  have hgA : (Value.slice A us.length cc).ownBlock = none ∨ (Value.slice A us.length cc).ownBlock ≠ some g := by
    cases hq : (Value.slice A us.length cc).ownBlock with
    | none => exact .inl rfl
    | some q => exact .inr (by have h1 := own_base_any hown hq; have h2 := HT3.out.lt; intro e; injection e with e; omega)
  have hgW : (Value.slice A us.length cc).ownBlock ≠ some w.heap.size := by
    intro e
    have h1 := own_base_any hown e
    have h2 := blk_lt HA3.out
    omega
  have t3 := cell_of_row _ _ 3 _ _ _ B4
  simp at t3
  have f3 : w4.frozen? ⟨K, 3, none⟩ = false := by simp [World.frozen?, B4]
  have HT4 := Lib.hid (hT.set hgK 3 (.slice A us.length cc))
  have HO4 := Lib.hid ((HO3.out.trans ho).fresh hwK 3 (.slice A us.length cc))
  have HB4 := Lib.hid (show (w4.setCell ⟨K, 3, none⟩ (.slice A us.length cc)).heap[K]? = some (.cells #[.int .i64 (p : Int), .int .u64 (c.e : Int), .int .i64 c.r, .slice A us.length cc, .int .u64 0, .int .i64 0] 86 (0, 0)) from (blk_setj B4 3 (.slice A us.length cc)))
  have HA4 := Lib.hid ((Below.heap_setCell w4 ⟨K, 3, none⟩ (.slice A us.length cc) w.heap.size hne1).trans A4)
  have HW4 := Lib.hid (own_set_any (own_low_any hown HO3.out.size) hgB 3 (.slice A us.length cc))
  have HV4 := Lib.hid hvia
  clear hT ho hvia HT3 HO3 HB3 HA3 B4 A4 hown
  go_wp2_with fail
  refine (tnum g s (m + 8 + 16 + 2080) 8 st3 _ HT4.out hs (by omega) (by omega) (by omega)).mono ?_
  rintro e w5 ⟨v, st4, rfl, hv, hvia, hT, ho⟩
  have B5 := (ho.block K (blk_lt HB4.out) hgK').trans HB4.out
  have A5 := (ho.block w.heap.size (blk_lt HA4.out) n0').trans HA4.out
  have t4 := cell_of_row _ _ 4 _ _ _ B5
  simp at t4
  have f4 : w5.frozen? ⟨K, 4, none⟩ = false := by simp [World.frozen?, B5]
  have HT5 := Lib.hid (hT.set hgK 4 (.int .u64 (v : Int)))
  have HO5 := Lib.hid ((HO4.out.trans ho).fresh hwK 4 (.int .u64 (v : Int)))
  have HB5 := Lib.hid (show (w5.setCell ⟨K, 4, none⟩ (.int .u64 (v : Int))).heap[K]? = some (.cells #[.int .i64 (p : Int), .int .u64 (c.e : Int), .int .i64 c.r, .slice A us.length cc, .int .u64 (v : Int), .int .i64 0] 86 (0, 0)) from (blk_setj B5 4 (.int .u64 (v : Int))))
  have HA5 := Lib.hid ((Below.heap_setCell w5 ⟨K, 4, none⟩ (.int .u64 (v : Int)) w.heap.size hne1).trans A5)
  have HW5 := Lib.hid (own_set_any (HW4.out.kept ho hgA) hgB 4 (.int .u64 (v : Int)))
  have HV5 := Lib.hid hvia
  clear hT ho hvia HT4 HO4 HB4 HA4 B5 A5 HW4
  go_wp2_with fail
  refine (tproc g s (m + 8 + 16 + 2080 + 8) st4 _ HT5.out hs (by omega)).mono ?_
  rintro e w6 ⟨q, st5, rfl, hq, hvia, hT, ho⟩
  have B6 := (ho.block K (blk_lt HB5.out) hgK').trans HB5.out
  have A6 := (ho.block w.heap.size (blk_lt HA5.out) n0').trans HA5.out
  have t5 := cell_of_row _ _ 5 _ _ _ B6
  simp at t5
  have f5 : w6.frozen? ⟨K, 5, none⟩ = false := by simp [World.frozen?, B6]
  have HT6 := Lib.hid (hT.set hgK 5 (.int .i64 (q : Int)))
  have HO6 := Lib.hid ((HO5.out.trans ho).fresh hwK 5 (.int .i64 (q : Int)))
  have HB6 := Lib.hid (show (w6.setCell ⟨K, 5, none⟩ (.int .i64 (q : Int))).heap[K]? = some (.cells #[.int .i64 (p : Int), .int .u64 (c.e : Int), .int .i64 c.r, .slice A us.length cc, .int .u64 (v : Int), .int .i64 (q : Int)] 86 (0, 0)) from (blk_setj B6 5 (.int .i64 (q : Int))))
  have HA6 := Lib.hid ((Below.heap_setCell w6 ⟨K, 5, none⟩ (.int .i64 (q : Int)) w.heap.size hne1).trans A6)
  have HW6 := Lib.hid (own_set_any (HW5.out.kept ho hgA) hgB 5 (.int .i64 (q : Int)))
  have HV6 := Lib.hid hvia
  clear hT ho hvia HT5 HO5 HB5 HA5 B6 A6 HW5
  obtain ⟨W, hW⟩ : ∃ W, W = (w6.setCell ⟨K, 5, none⟩ (.int .i64 (q : Int))) := ⟨_, rfl⟩
  have HWE := Lib.hid hW
  rw [← hW] at HT6 HO6 HB6 HA6 HW6
  clear hW
  have RB := HB6.out
  have RA := HA6.out
  go_wp2_with (first | (rw [← HWE.out]; clear HWE; refine wpList_load_row rfl 86 (.tmp 3) rfl K (by simp [Act.eval, Act.put]) 86 #[.int .i64 (p : Int), .int .u64 (c.e : Int), .int .i64 c.r, .slice A us.length cc, .int .u64 (v : Int), .int .i64 (q : Int)] (0, 0) _ RB Try.underlying86 rfl HI.out ?_) | (refine wpList_store_row rfl 86 (.tmp 2) (.tmp 21) rfl w.heap.size #[.int .i64 (p : Int), .int .u64 (c.e : Int), .int .i64 c.r, .slice A us.length cc, .int .u64 (v : Int), .int .i64 (q : Int)] (by simp [Act.eval, Act.put]) (by simp [Act.eval, Act.put]) 86 #[.int .i64 0, .int .u64 0, .int .i64 0, .slice none 0 0, .int .u64 0, .int .i64 0] RA HI.out rfl (by kernel_rfl) ?_))
  refine bodyPost_ret (v := .agg #[.int .i64 (p : Int), .int .u64 (c.e : Int), .int .i64 c.r, .slice A us.length cc, .int .u64 (v : Int), .int .i64 (q : Int)]) (results_cell_row rfl _ _ w.heap.size 86 #[.int .i64 (p : Int), .int .u64 (c.e : Int), .int .i64 c.r, .slice A us.length cc, .int .u64 (v : Int), .int .i64 (q : Int)] (0, 0) _ (by simp [Act.put]) (setRow_heap _ _ _ _ _ _ RA) Try.underlying86 rfl HI.out) rfl ?_
  exact ⟨⟨(p : Int), c, us, ⟨v, (q : Int)⟩⟩, A, cc, st5, rfl, HW6.out.kept (row := some w.heap.size) ⟨rfl, rfl, rfl, by simp [World.setRow], fun k hk hne => setRow_other W w.heap.size k _ (fun e => hne (by rw [e]))⟩ (.inr hgW),
    exP_via HV1.out HV3.out HV4.out HV5.out HV6.out, HT6.out.of_blk (setRow_other W w.heap.size g _ n0.symm),
    ⟨HO6.out.os, HO6.out.tape, HO6.out.output, by simpa [World.setRow] using HO6.out.size, fun k hk hne => (setRow_other W w.heap.size k _ (by omega)).trans (HO6.out.block k hk hne)⟩⟩
end Go.Proofs.Ythkfgjdbgnbjkaa
