/- The walk of the reference's taker: message. (Printed by pktm.py.) -/
import Derived.Test.YthkfgjdbgnbjkaaPkTo
namespace Go.Proofs.Ythkfgjdbgnbjkaa
open Go.RowKit Go.Sort
set_option linter.unusedSimpArgs false
set_option linter.unusedVariables false

theorem tinfo70 : (Try.prog.info? 70).map (·.size) = some 6 := by kernel_rfl
theorem ttext_any (s : ByteArray) (p n : Nat) (hs : s.size ≤ 1000000) (hn : n ≤ 1000000) (hp : p ≤ s.size) : ∃ (t : ByteArray) (to : Nat) (b : Bool),
    (∀ w, Calls Try.prog 105 #[.string s, .int .i64 (p : Int), .int .i64 (n : Int)] w fun e w' => e = .returned (.tuple #[.string t, .int .i64 (to : Int), .bool b]) ∧ w = w') ∧ to ≤ s.size ∧
    (b = true → p + n ≤ s.size ∧ t = s.extract p (p + n) ∧ to = p + n) ∧ (b = false → s.size < p + n) := by
  by_cases h : s.size < p + n
  · exact ⟨_, _, _, fun w => rtext_no s p n w hs hn hp h, hp, by simp, fun _ => h⟩
  · exact ⟨_, _, _, fun w => rtext_ok s p n w hs hn (by omega), by omega, fun _ => ⟨by omega, rfl, rfl⟩, by simp⟩

theorem via_test {β : Type} {Q : List UInt8 → In β} {c : Int} {p : Prop} [Decidable p] {st : St} : via (fun l => if p then .error c else Q l) st = via Q (badT c (decide p) st) := by
  rw [← via_bad st]
  congr 1
  funext l
  by_cases h : p
  · rw [if_pos h, decide_eq_true h]
    rfl
  · rw [if_neg h, decide_eq_false h]
    rfl
theorem extract_take (s : ByteArray) (p n : Nat) : (⟨((s.data.toList.drop p).take n).toArray⟩ : ByteArray) = s.extract p (p + n) := by
  have h : (s.extract p (p + n)).data.toList = (s.data.toList.drop p).take n := by simp [List.take_drop]
  rw [← h]

theorem ttext_end {w w' : World} {g : Nat} {s : ByteArray} {m : Nat} {st : St} {p : Nat} {cz : Int} {mp n : Nat} {t : ByteArray} {to : Nat} {b : Bool} (h : Tk w g s m st)
    (hb : w.heap[g]? = some (.cells #[.string s, .int .i64 (p : Int), .int .i64 cz] 115 (0, 0))) (hmp : mp = min p s.size) (hto : to ≤ s.size)
    (hy : b = true → mp + n ≤ s.size ∧ t = s.extract mp (mp + n) ∧ to = mp + n) (hn : b = false → s.size < mp + n) (h' : Tk w' g s m (badT 2 (!b) st)) :
    ∃ st', via (textP n) st = ret t st' ∧ Tk (w'.setCell ⟨g, 1, none⟩ (.int .i64 (to : Int))) g s m st' := by
  cases st with
  | error c =>
    obtain ⟨q, hq, hqm, hc, hm⟩ := h'
    exact ⟨.error c, rfl, ⟨to, blk_setj hq 1 _, by omega, hc, hm⟩⟩
  | ok l =>
    obtain ⟨q, hq, hqs, rfl, hm⟩ := h
    rw [hb] at hq
    injection hq with hq
    injection hq with hq
    have hqp : q = p := by
      injection hq with hq
      injection hq with _ hq
      injection hq with hq _
      injection hq with _ hq
      omega
    subst hqp
    have hmq : mp = q := by omega
    subst hmq
    clear hmp
    have hl : (s.data.toList.drop mp).length = s.size - mp := by rw [List.length_drop, size_data]
    cases b with
    | false =>
      obtain ⟨q', hq', hqm', hc, hm'⟩ := h'
      refine ⟨.error 2, ?_, ⟨to, blk_setj hq' 1 _, by omega, by decide, hm⟩⟩
      show textP n _ = _
      unfold textP
      rw [if_pos (by have := hn rfl; rw [hl]; omega)]
      rfl
    | true =>
      obtain ⟨q', hq', hqs', hqd, hm'⟩ := h'
      obtain ⟨h1, rfl, rfl⟩ := hy rfl
      refine ⟨.ok ((s.data.toList.drop mp).drop n), ?_, ⟨mp + n, blk_setj hq' 1 _, h1, by rw [List.drop_drop], hm⟩⟩
      show textP n _ = _
      unfold textP
      rw [if_neg (by rw [hl]; omega)]
      show (.ok _ : In ByteArray) = .ok _
      rw [extract_take]
theorem msgP_via {src : Int} {st st1 st2 st3 st5 st6 st7 : St} {seq stamp svc n : Nat} {us : List Nat} {t : ByteArray} (h1 : via (numP 4) st = ret seq st1) (h2 : via (numP 8) st1 = ret stamp st2) (h3 : via (numP 1) st2 = ret svc st3)
    (h4 : via vecP (badT 1 (decide (2 < svc)) st3) = ret us st5) (h5 : via (numP 2) st5 = ret n st6) (h6 : via (textP n) (badT 3 (decide (1024 < n)) st6) = ret t st7) :
    via (msgP src) st = ret (⟨src, seq, stamp, svc, us, t⟩ : Ms) st7 := by
  rw [show msgP src = (fun l => andP (numP 4 l) fun seq r => andP (numP 8 r) fun stamp r => andP (numP 1 r) fun svc r =>
    if 2 < svc then .error 1 else andP (vecP r) fun deps r => andP (numP 2 r) fun n r =>
    if 1024 < n then .error 3 else andP (textP n r) fun t r => .ok (⟨src, seq, stamp, svc, deps, t⟩, r)) from rfl, via_and h1]
  refine (via_and (P := numP 8) (Q := fun stamp r => andP (numP 1 r) fun svc r =>
    if 2 < svc then (.error 1 : In Ms) else andP (vecP r) fun deps r => andP (numP 2 r) fun n r =>
    if 1024 < n then .error 3 else andP (textP n r) fun t r => .ok (⟨src, seq, stamp, svc, deps, t⟩, r)) h2).trans ?_
  refine (via_and (P := numP 1) (Q := fun (svc : Nat) r =>
    if 2 < svc then (.error 1 : In Ms) else andP (vecP r) fun deps r => andP (numP 2 r) fun n r =>
    if 1024 < n then .error 3 else andP (textP n r) fun t r => .ok (⟨src, seq, stamp, svc, deps, t⟩, r)) h3).trans ?_
  refine (via_test (p := 2 < svc)).trans ?_
  refine (via_and (P := vecP) (Q := fun deps r => andP (numP 2 r) fun n r =>
    if 1024 < n then (.error 3 : In Ms) else andP (textP n r) fun t r => .ok (⟨src, seq, stamp, svc, deps, t⟩, r)) h4).trans ?_
  refine (via_and (P := numP 2) (Q := fun n r =>
    if 1024 < n then (.error 3 : In Ms) else andP (textP n r) fun t r => .ok (⟨src, seq, stamp, svc, us, t⟩, r)) h5).trans ?_
  refine (via_test (p := 1024 < n)).trans ?_
  exact via_and (P := textP n) (Q := fun t r => (.ok ((⟨src, seq, stamp, svc, us, t⟩ : Ms), r) : In Ms)) h6

set_option maxHeartbeats 3200000 in
set_option maxRecDepth 8000 in
theorem tmsg (g : Nat) (s : ByteArray) (m : Nat) (st : St) (src : Int) (w : World) (h : Tk w g s m st) (hs : s.size ≤ 1000000) (hm : m ≤ 1800000) :
    Calls Try.prog 93 #[.pointer (some ⟨g, 0, none⟩), .int .i64 src] w fun e w' => ∃ (x : Ms) (A : Option Addr) (c : Nat) (st' : St), e = .returned (msV x A c) ∧ w'.ownsRow w.heap.size 25 1 (.slice A x.deps.length c) x.deps.length (uvals x.deps) ∧
      via (msgP src) st = ret x st' ∧ Tk w' g s (m + 2120) st' ∧ Only g w w' := by
  have hg := h.lt
  have n0 : w.heap.size ≠ g := by omega
  have n0' : some w.heap.size ≠ some g := by simpa using n0
  have hgK : w.heap.size + 1 ≠ g := by omega
  have hgK' : some (w.heap.size + 1) ≠ some g := by simpa using hgK
  have hwK : w.heap.size ≤ w.heap.size + 1 := by omega
  have hne1 : w.heap.size ≠ w.heap.size + 1 := by omega
  have HI := Lib.hid tinfo70
  have D0 : ((w.alloc (.cells #[.int .i64 0, .int .u32 0, .int .u64 0, .int .i64 0, .slice none 0 0, .string ⟨#[]⟩] 70)).alloc (.cells #[.int .i64 0, .int .u32 0, .int .u64 0, .int .i64 0, .slice none 0 0, .string ⟨#[]⟩] 70)).heap[w.heap.size + 1]? = some (.cells #[.int .i64 0, .int .u32 0, .int .u64 0, .int .i64 0, .slice none 0 0, .string ⟨#[]⟩] 70 (0, 0)) := by
    rw [show w.heap.size + 1 = (w.alloc (.cells #[.int .i64 0, .int .u32 0, .int .u64 0, .int .i64 0, .slice none 0 0, .string ⟨#[]⟩] 70)).heap.size by simp]
    exact heap_alloc_new _ _
  obtain ⟨w2, hw2⟩ : ∃ W, W = ((w.alloc (.cells #[.int .i64 0, .int .u32 0, .int .u64 0, .int .i64 0, .slice none 0 0, .string ⟨#[]⟩] 70)).alloc (.cells #[.int .i64 0, .int .u32 0, .int .u64 0, .int .i64 0, .slice none 0 0, .string ⟨#[]⟩] 70)).setRow (w.heap.size + 1) #[.int .i64 src, .int .u32 0, .int .u64 0, .int .i64 0, .slice none 0 0, .string ⟨#[]⟩] := ⟨_, rfl⟩
  have HWW := Lib.hid hw2
  have hbel := below_setRow (B := w.heap.size) (below_alloc (below_alloc (Below.refl w.heap.size w) (.cells #[.int .i64 0, .int .u32 0, .int .u64 0, .int .i64 0, .slice none 0 0, .string ⟨#[]⟩] 70)) (.cells #[.int .i64 0, .int .u32 0, .int .u64 0, .int .i64 0, .slice none 0 0, .string ⟨#[]⟩] 70)) (show w.heap.size ≤ w.heap.size + 1 by omega) #[.int .i64 src, .int .u32 0, .int .u64 0, .int .i64 0, .slice none 0 0, .string ⟨#[]⟩]
  rw [← hw2] at hbel
  have HT2 := Lib.hid (h.kept hbel)
  have HO2 := Lib.hid (Only.of_below (g := g) hbel)
  have HA2 := Lib.hid (show w2.heap[w.heap.size]? = some (.cells #[.int .i64 0, .int .u32 0, .int .u64 0, .int .i64 0, .slice none 0 0, .string ⟨#[]⟩] 70 (0, 0)) from by
    rw [hw2]
    exact (setRow_other _ _ _ _ (by omega)).trans ((Below.heap_alloc (w.alloc (.cells #[.int .i64 0, .int .u32 0, .int .u64 0, .int .i64 0, .slice none 0 0, .string ⟨#[]⟩] 70)) _ w.heap.size (by simp)).trans (heap_alloc_new _ _)))
  have HB2 := Lib.hid (show w2.heap[w.heap.size + 1]? = some (.cells #[.int .i64 src, .int .u32 0, .int .u64 0, .int .i64 0, .slice none 0 0, .string ⟨#[]⟩] 70 (0, 0)) from by rw [hw2]; exact setRow_heap _ _ _ _ _ _ D0)
  obtain ⟨R, hR0⟩ : ∃ R, R = via (msgP src) st := ⟨_, rfl⟩
  rw [← hR0]
  have HR0 := Lib.hid hR0
  clear hbel h hw2 hR0
  go_enter Try.func93, Try.ntmps93
  go_wp2_with (refine wpList_store_row rfl 70 (.tmp 5) (.tmp 11) rfl (w.heap.size + 1) #[.int .i64 src, .int .u32 0, .int .u64 0, .int .i64 0, .slice none 0 0, .string ⟨#[]⟩] (by simp [Act.eval, Act.put]) (by simp [Act.eval, Act.put]) 70 #[.int .i64 0, .int .u32 0, .int .u64 0, .int .i64 0, .slice none 0 0, .string ⟨#[]⟩] D0 (by exact HI.out) (by rfl) (by kernel_rfl) ?_; clear D0; rw [← HWW.out]; clear HWW)
  generalize w.heap.size + 1 = K at *
  refine (tnum g s m 4 st w2 HT2.out hs (by omega) (by omega) (by omega)).mono ?_
  rintro e w3 ⟨seq, st1, rfl, hv, hvia, hT, ho⟩
  have B3 := (ho.block K (blk_lt HB2.out) hgK').trans HB2.out
  have A3 := (ho.block w.heap.size (blk_lt HA2.out) n0').trans HA2.out
  have t1 := cell_of_row _ _ 1 _ _ _ B3
  simp at t1
  have f1 : w3.frozen? ⟨K, 1, none⟩ = false := by simp [World.frozen?, B3]
  have HT3 := Lib.hid (hT.set hgK 1 (.int .u32 (seq : Int)))
  have HO3 := Lib.hid ((HO2.out.trans ho).fresh hwK 1 (.int .u32 (seq : Int)))
  have HB3 := Lib.hid (show (w3.setCell ⟨K, 1, none⟩ (.int .u32 (seq : Int))).heap[K]? = some (.cells #[.int .i64 src, .int .u32 (seq : Int), .int .u64 0, .int .i64 0, .slice none 0 0, .string ⟨#[]⟩] 70 (0, 0)) from (blk_setj B3 1 (.int .u32 (seq : Int))))
  have HA3 := Lib.hid ((Below.heap_setCell w3 ⟨K, 1, none⟩ (.int .u32 (seq : Int)) w.heap.size hne1).trans A3)
  have z1 : (w3.setCell ⟨K, 1, none⟩ (.int .u32 (seq : Int))).cell? ⟨K, 1, none⟩ = some (.int .u32 (seq : Int)) := cell_of_row _ _ 1 _ _ _ HB3.out
  have HV3 := Lib.hid hvia
  have hv4 : seq < 4294967296 := hv
  have eu : IntKind.u32.wrap (seq : Int) = (seq : Int) := by rw [IntKind.wrap_u32]; omega
  clear hv
  clear hT ho hvia HT2 HO2 HB2 HA2 B3 A3
  go_wp2_with fail
  refine (tnum g s (m + 8) 8 st1 _ HT3.out hs (by omega) (by omega) (by omega)).mono ?_
  rintro e w4 ⟨stamp, st2, rfl, hv, hvia, hT, ho⟩
  have B4 := (ho.block K (blk_lt HB3.out) hgK').trans HB3.out
  have A4 := (ho.block w.heap.size (blk_lt HA3.out) n0').trans HA3.out
  have t2 := cell_of_row _ _ 2 _ _ _ B4
  simp at t2
  have f2 : w4.frozen? ⟨K, 2, none⟩ = false := by simp [World.frozen?, B4]
  have HT4 := Lib.hid (hT.set hgK 2 (.int .u64 (stamp : Int)))
  have HO4 := Lib.hid ((HO3.out.trans ho).fresh hwK 2 (.int .u64 (stamp : Int)))
  have HB4 := Lib.hid (show (w4.setCell ⟨K, 2, none⟩ (.int .u64 (stamp : Int))).heap[K]? = some (.cells #[.int .i64 src, .int .u32 (seq : Int), .int .u64 (stamp : Int), .int .i64 0, .slice none 0 0, .string ⟨#[]⟩] 70 (0, 0)) from (blk_setj B4 2 (.int .u64 (stamp : Int))))
  have HA4 := Lib.hid ((Below.heap_setCell w4 ⟨K, 2, none⟩ (.int .u64 (stamp : Int)) w.heap.size hne1).trans A4)
  have z2 : (w4.setCell ⟨K, 2, none⟩ (.int .u64 (stamp : Int))).cell? ⟨K, 2, none⟩ = some (.int .u64 (stamp : Int)) := cell_of_row _ _ 2 _ _ _ HB4.out
  have HV4 := Lib.hid hvia
  clear hv
  clear hT ho hvia HT3 HO3 HB3 HA3 B4 A4
  go_wp2_with fail
  refine (tnum g s (m + 16) 1 st2 _ HT4.out hs (by omega) (by omega) (by omega)).mono ?_
  rintro e w5 ⟨svc, st3, rfl, hv, hvia, hT, ho⟩
  have B5 := (ho.block K (blk_lt HB4.out) hgK').trans HB4.out
  have A5 := (ho.block w.heap.size (blk_lt HA4.out) n0').trans HA4.out
  have t3 := cell_of_row _ _ 3 _ _ _ B5
  simp at t3
  have f3 : w5.frozen? ⟨K, 3, none⟩ = false := by simp [World.frozen?, B5]
  have HT5 := Lib.hid (hT.set hgK 3 (.int .i64 (svc : Int)))
  have HO5 := Lib.hid ((HO4.out.trans ho).fresh hwK 3 (.int .i64 (svc : Int)))
  have HB5 := Lib.hid (show (w5.setCell ⟨K, 3, none⟩ (.int .i64 (svc : Int))).heap[K]? = some (.cells #[.int .i64 src, .int .u32 (seq : Int), .int .u64 (stamp : Int), .int .i64 (svc : Int), .slice none 0 0, .string ⟨#[]⟩] 70 (0, 0)) from (blk_setj B5 3 (.int .i64 (svc : Int))))
  have HA5 := Lib.hid ((Below.heap_setCell w5 ⟨K, 3, none⟩ (.int .i64 (svc : Int)) w.heap.size hne1).trans A5)
  have z3 : (w5.setCell ⟨K, 3, none⟩ (.int .i64 (svc : Int))).cell? ⟨K, 3, none⟩ = some (.int .i64 (svc : Int)) := cell_of_row _ _ 3 _ _ _ HB5.out
  have HV5 := Lib.hid hvia
  have es : IntKind.i64.wrap (svc : Int) = (svc : Int) := IntWalk.i64_in _ (by omega)
  obtain ⟨b1, hb1⟩ : ∃ b, b = decide (2 < svc) := ⟨_, rfl⟩
  have hd1 : decide (2 < (svc : Int)) = b1 := by
    rw [hb1]
    by_cases hh : 2 < svc <;> simp [hh] <;> omega
  have HD1 := Lib.hid hb1
  clear hv hb1
  clear hT ho hvia HT4 HO4 HB4 HA4 B5 A5
  go_wp2_with fail
  refine (tbad_any g s (m + 24) st3 1 b1 _ HT5.out (by decide)).mono ?_
  rintro e w6 ⟨rfl, hT, ho⟩
  have B6 := (ho.block K (blk_lt HB5.out) hgK').trans HB5.out
  have A6 := (ho.block w.heap.size (blk_lt HA5.out) n0').trans HA5.out
  have HT6 := Lib.hid hT
  have HO6 := Lib.hid (HO5.out.trans ho)
  have HB6 := Lib.hid (show w6.heap[K]? = some (.cells #[.int .i64 src, .int .u32 (seq : Int), .int .u64 (stamp : Int), .int .i64 (svc : Int), .slice none 0 0, .string ⟨#[]⟩] 70 (0, 0)) from B6)
  have HA6 := Lib.hid A6
  clear hT ho HT5 HO5 HB5 HA5 B6 A6
  go_wp2_with fail
  refine (tvec g s (m + 24) _ _ HT6.out hs (by omega)).mono ?_
  rintro e w7 ⟨us, A, cc, st5, rfl, hown, hvia, hT, ho⟩
  have B7 := (ho.block K (blk_lt HB6.out) hgK').trans HB6.out
  have A7 := (ho.block w.heap.size (blk_lt HA6.out) n0').trans HA6.out
  have hgB : (Value.slice A us.length cc).ownBlock ≠ some K := by
    intro e
    have h1 := own_base_any hown e
    have h2 := blk_lt HB6.out
    omega
  have hgA : (Value.slice A us.length cc).ownBlock = none ∨ (Value.slice A us.length cc).ownBlock ≠ some g := by
    cases hq : (Value.slice A us.length cc).ownBlock with
    | none => exact .inl rfl
    | some q => exact .inr (by have h1 := own_base_any hown hq; have h2 := HT6.out.lt; intro e; injection e with e; omega)
  have hgW : (Value.slice A us.length cc).ownBlock ≠ some w.heap.size := by
    intro e
    have h1 := own_base_any hown e
    have h2 := blk_lt HA6.out
    omega
  have t4 := cell_of_row _ _ 4 _ _ _ B7
  simp at t4
  have f4 : w7.frozen? ⟨K, 4, none⟩ = false := by simp [World.frozen?, B7]
  have HT7 := Lib.hid (hT.set hgK 4 (.slice A us.length cc))
  have HO7 := Lib.hid ((HO6.out.trans ho).fresh hwK 4 (.slice A us.length cc))
  have HB7 := Lib.hid (show (w7.setCell ⟨K, 4, none⟩ (.slice A us.length cc)).heap[K]? = some (.cells #[.int .i64 src, .int .u32 (seq : Int), .int .u64 (stamp : Int), .int .i64 (svc : Int), .slice A us.length cc, .string ⟨#[]⟩] 70 (0, 0)) from (blk_setj B7 4 (.slice A us.length cc)))
  have HA7 := Lib.hid ((Below.heap_setCell w7 ⟨K, 4, none⟩ (.slice A us.length cc) w.heap.size hne1).trans A7)
  have z4 : (w7.setCell ⟨K, 4, none⟩ (.slice A us.length cc)).cell? ⟨K, 4, none⟩ = some (.slice A us.length cc) := cell_of_row _ _ 4 _ _ _ HB7.out
  have HW7 := Lib.hid (own_set_any (own_low_any hown HO6.out.size) hgB 4 (.slice A us.length cc))
  have HV7 := Lib.hid hvia
  clear hT ho hvia HT6 HO6 HB6 HA6 B7 A7 hown
  go_wp2_with fail
  refine (tnum g s (m + 24 + 2080) 2 st5 _ HT7.out hs (by omega) (by omega) (by omega)).mono ?_
  rintro e w8 ⟨n, st6, rfl, hv, hvia, hT, ho⟩
  have B8 := (ho.block K (blk_lt HB7.out) hgK').trans HB7.out
  have A8 := (ho.block w.heap.size (blk_lt HA7.out) n0').trans HA7.out
  have HT8 := Lib.hid hT
  have HO8 := Lib.hid (HO7.out.trans ho)
  have HB8 := Lib.hid (show w8.heap[K]? = some (.cells #[.int .i64 src, .int .u32 (seq : Int), .int .u64 (stamp : Int), .int .i64 (svc : Int), .slice A us.length cc, .string ⟨#[]⟩] 70 (0, 0)) from B8)
  have HA8 := Lib.hid A8
  have HW8 := Lib.hid (HW7.out.kept ho hgA)
  have HV8 := Lib.hid hvia
  have hn : n < 65536 := hv
  have en : IntKind.i64.wrap (n : Int) = (n : Int) := IntWalk.i64_in _ (by omega)
  obtain ⟨b2, hb2⟩ : ∃ b, b = decide (1024 < n) := ⟨_, rfl⟩
  have hd2 : decide (1024 < (n : Int)) = b2 := by
    rw [hb2]
    by_cases hh : 1024 < n <;> simp [hh] <;> omega
  have HD2 := Lib.hid hb2
  clear hv hb2
  clear hT ho hvia HT7 HO7 HB7 HA7 B8 A8 HW7
  go_wp2_with fail
  refine (tbad_any g s (m + 24 + 2080 + 8) st6 3 b2 _ HT8.out (by decide)).mono ?_
  rintro e w9 ⟨rfl, hT, ho⟩
  have B9 := (ho.block K (blk_lt HB8.out) hgK').trans HB8.out
  have A9 := (ho.block w.heap.size (blk_lt HA8.out) n0').trans HA8.out
  have HT9 := Lib.hid hT
  have HO9 := Lib.hid (HO8.out.trans ho)
  have HB9 := Lib.hid (show w9.heap[K]? = some (.cells #[.int .i64 src, .int .u32 (seq : Int), .int .u64 (stamp : Int), .int .i64 (svc : Int), .slice A us.length cc, .string ⟨#[]⟩] 70 (0, 0)) from B9)
  have HA9 := Lib.hid A9
  have HW9 := Lib.hid (HW8.out.kept ho hgA)
  clear hT ho HT8 HO8 HB8 HA8 B9 A9 HW8
  go_wp2_with fail
  obtain ⟨p, cz, hb, hp⟩ := HT9.out.blk
  obtain ⟨mp, hmp⟩ : ∃ k : Nat, k = min p s.size := ⟨_, rfl⟩
  obtain ⟨t, to, b, hget, hto, hyes, hno⟩ := ttext_any s mp n hs (by omega) (by omega)
  have k0 := cell_of_row _ _ 0 _ _ _ hb
  have k1 := cell_of_row _ _ 1 _ _ _ hb
  simp at k0 k1
  have emin : (if s.size < p then (s.size : Int) else (p : Int)) = (mp : Int) := by split <;> omega
  have HBK := Lib.hid hb
  have HY := Lib.hid hyes
  have HNO := Lib.hid hno
  have HMP := Lib.hid hmp
  have HQ := Lib.hid (fun d os => show Calls Try.prog 105 #[.string s, .int .i64 (mp : Int), .int .i64 (n : Int)] (grow (redrawn w9 d) os) (fun e w' => e = .returned (.tuple #[.string t, .int .i64 (to : Int), .bool b]) ∧ Below (grow (redrawn w9 d) os).heap.size (grow (redrawn w9 d) os) w') from (hget _).mono (by rintro e w' ⟨rfl, rfl⟩; exact ⟨rfl, Below.refl _ _⟩))
  clear hget hyes hno hmp hb
  have g0 := fun d os => cell_regrown k0 d os
  have g1 := fun d os => cell_regrown k1 d os
  refine wp_region_quiet_below (by kernel_rfl) (by kernel_rfl) ?_
  repeat (quiet_step (first | (go_at_call 105; (try rw [emin]); exact Calls.regrown_of (HQ.out _ _))))
  refine wpQuiet_nil ?_
  intro _ hw'
  obtain ⟨⟨dq, osq⟩, hw''⟩ := hw'
  subst hw''
  have hbl := below_regrown w9 dq osq
  have HBG := Lib.hid ((hbl.block g (blk_lt HBK.out)).trans HBK.out)
  have hT := HT9.out.kept hbl
  have ho := Only.of_below (g := g) hbl
  clear g0 g1 k0 k1 HBK hbl HQ
  generalize grow (redrawn w9 dq) osq = w10 at *

  have B10 := (ho.block K (blk_lt HB9.out) hgK').trans HB9.out
  have A10 := (ho.block w.heap.size (blk_lt HA9.out) n0').trans HA9.out
  have HT10 := Lib.hid hT
  have HO10 := Lib.hid (HO9.out.trans ho)
  have HB10 := Lib.hid (show w10.heap[K]? = some (.cells #[.int .i64 src, .int .u32 (seq : Int), .int .u64 (stamp : Int), .int .i64 (svc : Int), .slice A us.length cc, .string ⟨#[]⟩] 70 (0, 0)) from B10)
  have HA10 := Lib.hid A10
  have HW10 := Lib.hid (HW9.out.kept ho hgA)
  clear hT ho HT9 HO9 HB9 HA9 B10 A10 HW9
  go_wp2_with fail
  refine (tbad_any g s (m + 24 + 2080 + 8) (badT 3 b2 st6) 2 (!b) w10 HT10.out (by decide)).mono ?_
  rintro e w11 ⟨rfl, hT, ho⟩
  obtain ⟨stT, hviaT, hTT⟩ := ttext_end HT10.out HBG.out HMP.out hto HY.out HNO.out hT
  obtain ⟨pq, cq, hbq, hpq⟩ := hT.blk
  have q1 := cell_of_row _ _ 1 _ _ _ hbq
  simp at q1
  have fq1 : w11.frozen? ⟨g, 1, none⟩ = false := by simp [World.frozen?, hbq]
  clear hbq hpq hT HY HNO HMP HBG
  have hoW := (ho.set 1 (.int .i64 (to : Int)))
  have HB11 := Lib.hid ((Below.heap_setCell w11 ⟨g, 1, none⟩ (.int .i64 (to : Int)) K hgK).trans ((ho.block K (blk_lt HB10.out) hgK').trans HB10.out))
  have HA11 := Lib.hid ((Below.heap_setCell w11 ⟨g, 1, none⟩ (.int .i64 (to : Int)) w.heap.size n0).trans ((ho.block w.heap.size (blk_lt HA10.out) n0').trans HA10.out))
  have HW11 := Lib.hid (HW10.out.kept hoW hgA)
  have HO11 := Lib.hid (HO10.out.trans hoW)
  have HT11 := Lib.hid hTT
  have HV11 := Lib.hid hviaT
  clear hTT hviaT ho hoW HB10 HA10 HW10 HO10 HT10
  obtain ⟨w12, hw12⟩ : ∃ W, W = w11.setCell ⟨g, 1, none⟩ (.int .i64 (to : Int)) := ⟨_, rfl⟩
  have t5 := cell_of_row _ _ 5 _ _ _ HB11.out
  simp at t5
  have f5 : (w11.setCell ⟨g, 1, none⟩ (.int .i64 (to : Int))).frozen? ⟨K, 5, none⟩ = false := by simp [World.frozen?, HB11.out]
  have HT12 := Lib.hid (HT11.out.set hgK 5 (.string t))
  have HO12 := Lib.hid (HO11.out.fresh hwK 5 (.string t))
  have HB12 := Lib.hid (blk_setj HB11.out 5 (.string t))
  have HA12 := Lib.hid ((Below.heap_setCell (w11.setCell ⟨g, 1, none⟩ (.int .i64 (to : Int))) ⟨K, 5, none⟩ (.string t) w.heap.size hne1).trans HA11.out)
  have HW12 := Lib.hid (own_set_any HW11.out hgB 5 (.string t))
  clear HT11 HO11 HB11 HA11 HW11 hw12
  obtain ⟨W, hW⟩ : ∃ W, W = ((w11.setCell ⟨g, 1, none⟩ (.int .i64 (to : Int))).setCell ⟨K, 5, none⟩ (.string t)) := ⟨_, rfl⟩
  have HWE := Lib.hid hW
  rw [← hW] at HT12 HO12 HB12 HA12 HW12
  clear hW
  have RB := HB12.out
  simp at RB
  have RA := HA12.out

  go_wp2_with (first | (rw [← HWE.out]; clear HWE; refine wpList_load_row rfl 70 (.tmp 5) rfl K (by simp [Act.eval, Act.put]) 70 #[.int .i64 src, .int .u32 (seq : Int), .int .u64 (stamp : Int), .int .i64 (svc : Int), .slice A us.length cc, .string t] (0, 0) _ RB Try.underlying70 rfl HI.out ?_) | (refine wpList_store_row rfl 70 (.tmp 4) (.tmp 68) rfl w.heap.size #[.int .i64 src, .int .u32 (seq : Int), .int .u64 (stamp : Int), .int .i64 (svc : Int), .slice A us.length cc, .string t] (by simp [Act.eval, Act.put]) (by simp [Act.eval, Act.put]) 70 #[.int .i64 0, .int .u32 0, .int .u64 0, .int .i64 0, .slice none 0 0, .string ⟨#[]⟩] RA HI.out rfl (by kernel_rfl) ?_))
  refine bodyPost_ret (v := .agg #[.int .i64 src, .int .u32 (seq : Int), .int .u64 (stamp : Int), .int .i64 (svc : Int), .slice A us.length cc, .string t]) (results_cell_row rfl _ _ w.heap.size 70 #[.int .i64 src, .int .u32 (seq : Int), .int .u64 (stamp : Int), .int .i64 (svc : Int), .slice A us.length cc, .string t] (0, 0) _ (by simp [Act.put]) (setRow_heap _ _ _ _ _ _ RA) Try.underlying70 rfl HI.out) rfl ?_
  refine ⟨⟨src, seq, stamp, svc, us, t⟩, A, cc, stT, rfl, HW12.out.kept (row := some w.heap.size) ⟨rfl, rfl, rfl, by simp [World.setRow], fun k hk hne => setRow_other W w.heap.size k _ (fun e => hne (by rw [e]))⟩ (.inr hgW), ?_, (HT12.out.of_blk (setRow_other W w.heap.size g _ n0.symm)).mono (by omega),
    ⟨HO12.out.os, HO12.out.tape, HO12.out.output, by simpa [World.setRow] using HO12.out.size, fun k hk hne => (setRow_other W w.heap.size k _ (by omega)).trans (HO12.out.block k hk hne)⟩⟩
  rw [HR0.out]
  have e1 := HD1.out
  have e2 := HD2.out
  subst e1
  subst e2
  exact msgP_via HV3.out HV4.out HV5.out HV7.out HV8.out HV11.out
end Go.Proofs.Ythkfgjdbgnbjkaa
