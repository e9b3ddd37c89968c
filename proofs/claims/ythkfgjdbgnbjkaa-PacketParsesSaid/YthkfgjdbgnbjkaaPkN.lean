/- The walk of packet's reader: message. (Printed by pkmsg.py.) -/
import Derived.Test.YthkfgjdbgnbjkaaPkM
namespace Go.Proofs.Ythkfgjdbgnbjkaa
open Go.RowKit
set_option linter.unusedSimpArgs false
set_option linter.unusedVariables false

/-- what message leaves. -/
def MOut (g : Nat) (w : World) (s : ByteArray) (r : In Ms) (e : Ending) (w' : World) : Prop :=
  match r with
  | .ok (m, l) => (∃ A c, e = .returned (msV m A c) ∧ w'.ownsRow w.heap.size 25 1 (.slice A m.deps.length c) m.deps.length (uvals m.deps)) ∧ m.fits ∧ RdL w' g s l ∧ Only g w w'
  | .error c => e = .panicked [pv c] ∧ Only g w w'
theorem textP_size {n : Nat} {l r : List UInt8} {t : ByteArray} (h : textP n l = .ok (t, r)) : t.size = n := by
  unfold textP at h
  split at h
  · cases h
  · cases h
    rw [← size_data]
    simp
    omega
/-- message, behind its three numbers. -/
def msgQ (src : Int) (seq stamp svc : Nat) (r : List UInt8) : In Ms :=
  if 2 < svc then .error 1 else andP (vecP r) fun deps r => andP (numP 2 r) fun n r =>
  if 1024 < n then .error 3 else andP (textP n r) fun t r => .ok (⟨src, seq, stamp, svc, deps, t⟩, r)

set_option maxHeartbeats 6400000 in
set_option maxRecDepth 8000 in
theorem rmsg_any (g : Nat) (s : ByteArray) (l : List UInt8) (src : Int) (w : World) (h : RdL w g s l) (hs : s.size ≤ 1000000) :
    Calls Try.prog 87 #[.agg #[.pointer (some ⟨g, 0, none⟩)], .int .i64 src] w (MOut g w s (msgP src l)) := by
  have hg := h.lt
  have hb0 : Below w.heap.size w ((w.alloc (.cells #[.pointer (some ⟨g, 0, none⟩)] 110)).alloc (.cells #[.int .i64 0, .int .u32 0, .int .u64 0, .int .i64 0, .slice none 0 0, .string ⟨#[]⟩] 70)) := below_alloc (below_alloc (Below.refl _ _) _) _
  have ho0 : Only g w ((w.alloc (.cells #[.pointer (some ⟨g, 0, none⟩)] 110)).alloc (.cells #[.int .i64 0, .int .u32 0, .int .u64 0, .int .i64 0, .slice none 0 0, .string ⟨#[]⟩] 70)).drew := (Only.of_below (g := g) hb0).drew
  have h1d : RdL ((w.alloc (.cells #[.pointer (some ⟨g, 0, none⟩)] 110)).alloc (.cells #[.int .i64 0, .int .u32 0, .int .u64 0, .int .i64 0, .slice none 0 0, .string ⟨#[]⟩] 70)).drew g s l := h.kept (below_drew hb0)
  have b0d : ((w.alloc (.cells #[.pointer (some ⟨g, 0, none⟩)] 110)).alloc (.cells #[.int .i64 0, .int .u32 0, .int .u64 0, .int .i64 0, .slice none 0 0, .string ⟨#[]⟩] 70)).drew.cell? ⟨w.heap.size, 0, none⟩ = some (.pointer (some ⟨g, 0, none⟩)) := by simp
  have n1 : w.heap.size ≠ g := by omega
  have n2 : w.heap.size + 1 ≠ g := by omega
  have n3 : w.heap.size ≠ w.heap.size + 1 := by omega
  go_enter Try.func87, Try.ntmps87
  go_wp2_with fail
  rename_i K1 hK1
  have HREST : ∀ (Kb seq stamp svc : Nat) (r3 : List UInt8) (w3 : World), w3.heap[Kb]? = some (.cells #[.int .i64 src, .int .u32 (seq : Int), .int .u64 (stamp : Int), .int .i64 (svc : Int), .slice none 0 0, .string ⟨#[]⟩] 70 (0, 0)) → w3.heap[w.heap.size]? = some (.cells #[.pointer (some ⟨g, 0, none⟩)] 110 (0, 0)) → w3.heap[w.heap.size + 1]? = some (.cells #[.int .i64 0, .int .u32 0, .int .u64 0, .int .i64 0, .slice none 0 0, .string ⟨#[]⟩] 70 (0, 0)) → RdL w3 g s r3 → Only g w w3 → w.heap.size + 2 ≤ Kb → seq < 4294967296 → U64 stamp → svc < 256 → msgP src l = msgQ src seq stamp svc r3 → K1 { tmps := #[.agg #[.pointer (some ⟨g, 0, none⟩)], .int .i64 src, .pointer (some ⟨w.heap.size, 0, none⟩), undef, .pointer (some ⟨w.heap.size + 1, 0, none⟩), .pointer (some ⟨Kb, 0, none⟩), undef, .int .i64 src, .pointer (some ⟨w.heap.size, 0, none⟩), .pointer (some ⟨g, 0, none⟩), .int .u64 (seq : Int), .int .u32 (seq : Int), .pointer (some ⟨w.heap.size, 0, none⟩), .pointer (some ⟨g, 0, none⟩), .int .u64 (stamp : Int), .pointer (some ⟨w.heap.size, 0, none⟩), .pointer (some ⟨g, 0, none⟩), .int .u64 (svc : Int), .int .i64 (svc : Int), .agg #[.int .i64 src, .int .u32 (seq : Int), .int .u64 (stamp : Int), .int .i64 (svc : Int), .slice none 0 0, .string ⟨#[]⟩], undef, undef, undef, undef, undef, undef, undef, undef, undef, undef, undef, undef, undef, undef, undef, undef, undef, undef, undef, undef], defers := [] } w3 := by
    intro Kb seq stamp svc r3 w3 hM hB hR hr ho hKb f1 f2 f3 heq
    refine hK1 _ _ ?_
    have n4 : Kb ≠ g := by omega
    have k3 : w3.cell? ⟨Kb, 3, none⟩ = some (.int .i64 (svc : Int)) := cell_of_row _ _ 3 _ _ _ hM
    rw [heq]
    by_cases h2 : 2 < svc
    · have hd : decide ((2 : Int) < (svc : Int)) = true := by simp; omega
      have hdn : decide (2 < svc) = true := by simpa using h2
      rw [show msgQ src seq stamp svc r3 = .error 1 by unfold msgQ; rw [if_pos h2]]
      go_wp2_with fail
      refine (bad_yes _ _).mono ?_
      rintro e w4 ⟨rfl, rfl⟩
      go_wp2_with fail
      exact ⟨rfl, rfl, ho⟩
    · have hd : decide ((2 : Int) < (svc : Int)) = false := by simp; omega
      have hdn : decide (2 < svc) = false := by simpa using h2
      have b0 := blk_cell hB
      have H3 := Lib.hid (rvec_any g s r3 w3 hr hs)
      go_wp2_with fail
      refine (bad_no _ _).mono ?_
      rintro e w4 ⟨rfl, rfl⟩
      go_wp2_with fail
      refine H3.out.mono ?_
      cases hv : vecP r3 with
      | error z =>
        rintro e w4 ⟨rfl, ho4⟩
        go_wp2_with fail
        rw [show msgQ src seq stamp svc r3 = .error z by unfold msgQ; rw [if_neg h2]; simp only [hv, andP]]
        exact ⟨rfl, rfl, ho.trans ho4⟩
      | ok y =>
      obtain ⟨us, r4⟩ := y
      rintro e w4 ⟨⟨A, c, rfl, hown⟩, hu, hr4, ho4⟩
      have hlt := blk_lt hM
      have hM4 := (ho4.block Kb hlt (by simpa using n4)).trans hM
      have hB4 := (ho4.block w.heap.size (blk_lt hB) (by simpa using n1)).trans hB
      have hR4 := (ho4.block (w.heap.size + 1) (blk_lt hR) (by simpa using n2)).trans hR
      have hgK : (Value.slice A us.length c).ownBlock ≠ some Kb := by
        intro e
        have := own_base_any hown e
        omega
      have hgA : (Value.slice A us.length c).ownBlock = none ∨ (Value.slice A us.length c).ownBlock ≠ some g := by
        cases hq : (Value.slice A us.length c).ownBlock with
        | none => exact .inl rfl
        | some q => exact .inr (by have := own_base_any hown hq; intro e; injection e with e; omega)
      have hgR : (Value.slice A us.length c).ownBlock ≠ some (w.heap.size + 1) := by
        intro e
        have := own_base_any hown e
        omega
      have k4 : w4.cell? ⟨Kb, 4, none⟩ = some (.slice none 0 0) := cell_of_row _ _ 4 _ _ _ hM4
      have z4 : w4.frozen? ⟨Kb, 4, none⟩ = false := by simp [World.frozen?, hM4]
      have hM5 := Lib.hid (blk_setj hM4 4 (.slice A us.length c))
      have hB5 := Lib.hid ((Below.heap_setCell w4 ⟨Kb, 4, none⟩ (.slice A us.length c) w.heap.size (by simp; omega)).trans hB4)
      have hR5 := Lib.hid ((Below.heap_setCell w4 ⟨Kb, 4, none⟩ (.slice A us.length c) (w.heap.size + 1) (by simp; omega)).trans hR4)
      have HW5 := Lib.hid (own_set_any hown hgK 4 (.slice A us.length c))
      have HR5 := Lib.hid (hr4.set n4 4 (.slice A us.length c))
      have HO5 := Lib.hid ((ho.trans ho4).fresh (k := Kb) (by omega) 4 (.slice A us.length c))
      have HU := Lib.hid hu
      have hsz3 := ho.size
      have b5 := blk_cell hB5.out
      have H4 := Lib.hid (rnum_any g s r4 2 _ HR5.out hs (by omega))
      clear hM hB hR hr ho hown hu hr4 ho4 k3 b0 hM4 hB4 hR4 H3
      go_wp2_with fail
      generalize w4.setCell ⟨Kb, 4, none⟩ (.slice A us.length c) = w5 at *
      refine H4.out.mono ?_
      cases hq : numP 2 r4 with
      | error z =>
        rintro e w6 ⟨rfl, ho6⟩
        go_wp2_with fail
        rw [show msgQ src seq stamp svc r3 = .error z by unfold msgQ; rw [if_neg h2]; simp only [hv, hq, andP]]
        exact ⟨rfl, rfl, HO5.out.trans ho6⟩
      | ok y =>
      obtain ⟨n, r5⟩ := y
      have hn6 : n < 65536 := (numP_ok hq).1
      have ewn : IntKind.i64.wrap (n : Int) = (n : Int) := IntWalk.i64_in _ (by omega)
      rintro e w6 ⟨rfl, hr6, ho6⟩
      have hB6 := (ho6.block w.heap.size (blk_lt hB5.out) (by simpa using n1)).trans hB5.out
      have hM6 := Lib.hid ((ho6.block Kb (blk_lt hM5.out) (by simpa using n4)).trans hM5.out)
      have hR6 := Lib.hid ((ho6.block (w.heap.size + 1) (blk_lt hR5.out) (by simpa using n2)).trans hR5.out)
      have b6 := blk_cell hB6
      have HW6 := Lib.hid (HW5.out.kept ho6 hgA)
      have HO6 := Lib.hid (HO5.out.trans ho6)
      have HR6 := Lib.hid hr6
      clear b5 hB5 hM5 hR5 HW5 HO5 HR5 H4 ho6 hr6 z4 k4
      by_cases h3 : 1024 < n
      · have hd3 : decide ((1024 : Int) < (n : Int)) = true := by simp; omega
        have hdn3 : decide (1024 < n) = true := by simpa using h3
        go_wp2_with fail
        refine (bad_yes _ _).mono ?_
        rintro e w7 ⟨rfl, rfl⟩
        go_wp2_with fail
        rw [show msgQ src seq stamp svc r3 = .error 3 by unfold msgQ; rw [if_neg h2]; simp only [hv, hq, andP, if_pos h3]]
        exact ⟨rfl, rfl, HO6.out⟩
      · have hd3 : decide ((1024 : Int) < (n : Int)) = false := by simp; omega
        have hdn3 : decide (1024 < n) = false := by simpa using h3
        have H5 := Lib.hid (rtext_any g s r5 n w6 HR6.out hs)
        go_wp2_with fail
        refine (bad_no _ _).mono ?_
        rintro e w7 ⟨rfl, rfl⟩
        go_wp2_with fail
        refine H5.out.mono ?_
        cases ht : textP n r5 with
        | error z =>
          rintro e w7 ⟨rfl, ho7⟩
          go_wp2_with fail
          rw [show msgQ src seq stamp svc r3 = .error z by unfold msgQ; rw [if_neg h2]; simp only [hv, hq, ht, andP, if_neg h3]]
          exact ⟨rfl, rfl, HO6.out.trans ho7⟩
        | ok y =>
        obtain ⟨tx, r6⟩ := y
        rintro e w7 ⟨rfl, hr7, ho7⟩
        have hM7 := (ho7.block Kb (blk_lt hM6.out) (by simpa using n4)).trans hM6.out
        have hR7 := (ho7.block (w.heap.size + 1) (blk_lt hR6.out) (by simpa using n2)).trans hR6.out
        have k5 : w7.cell? ⟨Kb, 5, none⟩ = some (.string ⟨#[]⟩) := cell_of_row _ _ 5 _ _ _ hM7
        have z5 : w7.frozen? ⟨Kb, 5, none⟩ = false := by simp [World.frozen?, hM7]
        have hM8 : (w7.setCell ⟨Kb, 5, none⟩ (.string tx)).heap[Kb]? = some (.cells #[.int .i64 src, .int .u32 (seq : Int), .int .u64 (stamp : Int), .int .i64 (svc : Int), .slice A us.length c, .string tx] 70 (0, 0)) := blk_setj hM7 5 (.string tx)
        have hR8 := (Below.heap_setCell w7 ⟨Kb, 5, none⟩ (.string tx) (w.heap.size + 1) (by simp; omega)).trans hR7
        have HW8 := Lib.hid (own_set_any (HW6.out.kept ho7 hgA) hgK 5 (.string tx))
        have HR8 := Lib.hid (hr7.set n4 5 (.string tx))
        have HO8 := Lib.hid ((HO6.out.trans ho7).fresh (k := Kb) (by omega) 5 (.string tx))
        have htx : tx.size = n := textP_size ht
        have HRES := Lib.hid (show msgQ src seq stamp svc r3 = .ok (⟨src, seq, stamp, svc, us, tx⟩, r6) by unfold msgQ; rw [if_neg h2]; simp only [hv, hq, ht, andP, if_neg h3])
        have HFIT := Lib.hid (show Ms.fits ⟨src, seq, stamp, svc, us, tx⟩ from ⟨f1, f2, HU.out⟩)
        have m0 : (w7.setCell ⟨Kb, 5, none⟩ (.string tx)).cell? ⟨Kb, 0, none⟩ = some (.int .i64 src) := cell_of_row _ _ 0 _ _ _ hM8
        have t0 : (w7.setCell ⟨Kb, 5, none⟩ (.string tx)).cell? ⟨w.heap.size + 1, 0, none⟩ = some (.int .i64 0) := cell_of_row _ _ 0 _ _ _ hR8
        have y0 : (w7.setCell ⟨Kb, 5, none⟩ (.string tx)).frozen? ⟨w.heap.size + 1, 0, none⟩ = false := by simp [World.frozen?, hR8]
        have m1 : (w7.setCell ⟨Kb, 5, none⟩ (.string tx)).cell? ⟨Kb, 1, none⟩ = some (.int .u32 (seq : Int)) := cell_of_row _ _ 1 _ _ _ hM8
        have t1 : (w7.setCell ⟨Kb, 5, none⟩ (.string tx)).cell? ⟨w.heap.size + 1, 1, none⟩ = some (.int .u32 0) := cell_of_row _ _ 1 _ _ _ hR8
        have y1 : (w7.setCell ⟨Kb, 5, none⟩ (.string tx)).frozen? ⟨w.heap.size + 1, 1, none⟩ = false := by simp [World.frozen?, hR8]
        have m2 : (w7.setCell ⟨Kb, 5, none⟩ (.string tx)).cell? ⟨Kb, 2, none⟩ = some (.int .u64 (stamp : Int)) := cell_of_row _ _ 2 _ _ _ hM8
        have t2 : (w7.setCell ⟨Kb, 5, none⟩ (.string tx)).cell? ⟨w.heap.size + 1, 2, none⟩ = some (.int .u64 0) := cell_of_row _ _ 2 _ _ _ hR8
        have y2 : (w7.setCell ⟨Kb, 5, none⟩ (.string tx)).frozen? ⟨w.heap.size + 1, 2, none⟩ = false := by simp [World.frozen?, hR8]
        have m3 : (w7.setCell ⟨Kb, 5, none⟩ (.string tx)).cell? ⟨Kb, 3, none⟩ = some (.int .i64 (svc : Int)) := cell_of_row _ _ 3 _ _ _ hM8
        have t3 : (w7.setCell ⟨Kb, 5, none⟩ (.string tx)).cell? ⟨w.heap.size + 1, 3, none⟩ = some (.int .i64 0) := cell_of_row _ _ 3 _ _ _ hR8
        have y3 : (w7.setCell ⟨Kb, 5, none⟩ (.string tx)).frozen? ⟨w.heap.size + 1, 3, none⟩ = false := by simp [World.frozen?, hR8]
        have m4 : (w7.setCell ⟨Kb, 5, none⟩ (.string tx)).cell? ⟨Kb, 4, none⟩ = some (.slice A us.length c) := cell_of_row _ _ 4 _ _ _ hM8
        have t4 : (w7.setCell ⟨Kb, 5, none⟩ (.string tx)).cell? ⟨w.heap.size + 1, 4, none⟩ = some (.slice none 0 0) := cell_of_row _ _ 4 _ _ _ hR8
        have y4 : (w7.setCell ⟨Kb, 5, none⟩ (.string tx)).frozen? ⟨w.heap.size + 1, 4, none⟩ = false := by simp [World.frozen?, hR8]
        have m5 : (w7.setCell ⟨Kb, 5, none⟩ (.string tx)).cell? ⟨Kb, 5, none⟩ = some (.string tx) := cell_of_row _ _ 5 _ _ _ hM8
        have t5 : (w7.setCell ⟨Kb, 5, none⟩ (.string tx)).cell? ⟨w.heap.size + 1, 5, none⟩ = some (.string ⟨#[]⟩) := cell_of_row _ _ 5 _ _ _ hR8
        have y5 : (w7.setCell ⟨Kb, 5, none⟩ (.string tx)).frozen? ⟨w.heap.size + 1, 5, none⟩ = false := by simp [World.frozen?, hR8]
        have H8 := Lib.hid hR8
        clear hM7 hR7 hM8 hR8 hM6 hR6 HW6 HO6 HR6 H5 ho7 hr7 b6 hB6 hv hq ht htx
        go_wp2_with fail
        generalize w7.setCell ⟨Kb, 5, none⟩ (.string tx) = w8 at *
        have hfin : ((((((w8.setCell ⟨w.heap.size + 1, 0, none⟩ (.int .i64 src)).setCell ⟨w.heap.size + 1, 1, none⟩ (.int .u32 (seq : Int))).setCell ⟨w.heap.size + 1, 2, none⟩ (.int .u64 (stamp : Int))).setCell ⟨w.heap.size + 1, 3, none⟩ (.int .i64 (svc : Int))).setCell ⟨w.heap.size + 1, 4, none⟩ (.slice A us.length c)).setCell ⟨w.heap.size + 1, 5, none⟩ (.string tx)).heap[w.heap.size + 1]? = some (.cells #[.int .i64 src, .int .u32 (seq : Int), .int .u64 (stamp : Int), .int .i64 (svc : Int), .slice A us.length c, .string tx] 70 (0, 0)) := (blk_setj (blk_setj (blk_setj (blk_setj (blk_setj (blk_setj H8.out 0 (.int .i64 src)) 1 (.int .u32 (seq : Int))) 2 (.int .u64 (stamp : Int))) 3 (.int .i64 (svc : Int))) 4 (.slice A us.length c)) 5 (.string tx))
        have hown := (own_set_any (own_set_any (own_set_any (own_set_any (own_set_any (own_set_any HW8.out hgR 0 (.int .i64 src)) hgR 1 (.int .u32 (seq : Int))) hgR 2 (.int .u64 (stamp : Int))) hgR 3 (.int .i64 (svc : Int))) hgR 4 (.slice A us.length c)) hgR 5 (.string tx))
        have hrd := ((((((HR8.out.set n2 0 (.int .i64 src)).set n2 1 (.int .u32 (seq : Int))).set n2 2 (.int .u64 (stamp : Int))).set n2 3 (.int .i64 (svc : Int))).set n2 4 (.slice A us.length c)).set n2 5 (.string tx))
        have hon := ((((((HO8.out.fresh (k := w.heap.size + 1) (by omega) 0 (.int .i64 src)).fresh (k := w.heap.size + 1) (by omega) 1 (.int .u32 (seq : Int))).fresh (k := w.heap.size + 1) (by omega) 2 (.int .u64 (stamp : Int))).fresh (k := w.heap.size + 1) (by omega) 3 (.int .i64 (svc : Int))).fresh (k := w.heap.size + 1) (by omega) 4 (.slice A us.length c)).fresh (k := w.heap.size + 1) (by omega) 5 (.string tx))
        clear m0 m1 m2 m3 m4 m5 t0 t1 t2 t3 t4 t5 y0 y1 y2 y3 y4 y5
        generalize ((((((w8.setCell ⟨w.heap.size + 1, 0, none⟩ (.int .i64 src)).setCell ⟨w.heap.size + 1, 1, none⟩ (.int .u32 (seq : Int))).setCell ⟨w.heap.size + 1, 2, none⟩ (.int .u64 (stamp : Int))).setCell ⟨w.heap.size + 1, 3, none⟩ (.int .i64 (svc : Int))).setCell ⟨w.heap.size + 1, 4, none⟩ (.slice A us.length c)).setCell ⟨w.heap.size + 1, 5, none⟩ (.string tx)) = w9 at *
        have q0 : w9.cell? ⟨w.heap.size + 1, 0, none⟩ = some (.int .i64 src) := cell_of_row _ _ 0 _ _ _ hfin
        have q1 : w9.cell? ⟨w.heap.size + 1, 1, none⟩ = some (.int .u32 (seq : Int)) := cell_of_row _ _ 1 _ _ _ hfin
        have q2 : w9.cell? ⟨w.heap.size + 1, 2, none⟩ = some (.int .u64 (stamp : Int)) := cell_of_row _ _ 2 _ _ _ hfin
        have q3 : w9.cell? ⟨w.heap.size + 1, 3, none⟩ = some (.int .i64 (svc : Int)) := cell_of_row _ _ 3 _ _ _ hfin
        have q4 : w9.cell? ⟨w.heap.size + 1, 4, none⟩ = some (.slice A us.length c) := cell_of_row _ _ 4 _ _ _ hfin
        have q5 : w9.cell? ⟨w.heap.size + 1, 5, none⟩ = some (.string tx) := cell_of_row _ _ 5 _ _ _ hfin
        rw [HRES.out]
        refine bodyPost_ret (v := .agg #[.int .i64 src, .int .u32 (seq : Int), .int .u64 (stamp : Int), .int .i64 (svc : Int), .slice A us.length c, .string tx]) (by simp [results, Try.results87, go_sem, q0, q1, q2, q3, q4, q5]) rfl ⟨⟨A, c, rfl, own_low_any hown hsz3⟩, HFIT.out, hrd, hon⟩
  refine wp_region_held_drew (S := fun w' => w'.cell? ⟨w.heap.size, 0, none⟩ = some (.pointer (some ⟨g, 0, none⟩))) (by kernel_rfl) ?_ (fun hHeld => ?_)
  · exact b0d
  refine wpAnyH_take (i := 0) (v := .int .i64 src) rfl (by kernel_rfl) (by kernel_rfl) (by kernel_rfl) (fun _ _ _ h => h) (Or.inl ⟨by rfl, ?_⟩) (by assumption) ?_
  · intro w hSw; (try dsimp only at hSw); go_simp
  simp only [Act.put, List.setIfInBounds_toArray, List.set_cons_zero, List.set_cons_succ]
  refine wpAnyH_take (i := 1) (v := .pointer (some ⟨w.heap.size, 0, none⟩)) rfl (by kernel_rfl) (by kernel_rfl) (by kernel_rfl) (fun _ _ _ h => h) (Or.inl ⟨by rfl, ?_⟩) (by assumption) ?_
  · intro w hSw; (try dsimp only at hSw); go_simp
  simp only [Act.put, List.setIfInBounds_toArray, List.set_cons_zero, List.set_cons_succ]
  refine wpAnyH_take (i := 2) (v := .pointer (some ⟨g, 0, none⟩)) rfl (by kernel_rfl) (by kernel_rfl) (by kernel_rfl) (fun _ _ _ h => h) (Or.inl ⟨by rfl, ?_⟩) (by assumption) ?_
  · intro w hSw; (try dsimp only at hSw); go_simp
  simp only [Act.put, List.setIfInBounds_toArray, List.set_cons_zero, List.set_cons_succ]
  refine wpAnyH_take (i := 5) (v := .pointer (some ⟨w.heap.size, 0, none⟩)) rfl (by kernel_rfl) (by kernel_rfl) (by kernel_rfl) (fun _ _ _ h => h) (Or.inl ⟨by rfl, ?_⟩) (by assumption) ?_
  · intro w hSw; (try dsimp only at hSw); go_simp
  simp only [Act.put, List.setIfInBounds_toArray, List.set_cons_zero, List.set_cons_succ]
  refine wpAnyH_take (i := 6) (v := .pointer (some ⟨g, 0, none⟩)) rfl (by kernel_rfl) (by kernel_rfl) (by kernel_rfl) (fun _ _ _ h => h) (Or.inl ⟨by rfl, ?_⟩) (by assumption) ?_
  · intro w hSw; (try dsimp only at hSw); go_simp
  simp only [Act.put, List.setIfInBounds_toArray, List.set_cons_zero, List.set_cons_succ]
  refine wpAnyH_take (i := 8) (v := .pointer (some ⟨w.heap.size, 0, none⟩)) rfl (by kernel_rfl) (by kernel_rfl) (by kernel_rfl) (fun _ _ _ h => h) (Or.inl ⟨by rfl, ?_⟩) (by assumption) ?_
  · intro w hSw; (try dsimp only at hSw); go_simp
  simp only [Act.put, List.setIfInBounds_toArray, List.set_cons_zero, List.set_cons_succ]
  refine wpAnyH_take (i := 9) (v := .pointer (some ⟨g, 0, none⟩)) rfl (by kernel_rfl) (by kernel_rfl) (by kernel_rfl) (fun _ _ _ h => h) (Or.inl ⟨by rfl, ?_⟩) (by assumption) ?_
  · intro w hSw; (try dsimp only at hSw); go_simp
  simp only [Act.put, List.setIfInBounds_toArray, List.set_cons_zero, List.set_cons_succ]
  have hS := b0d
  have hB : ((w.alloc (.cells #[.pointer (some ⟨g, 0, none⟩)] 110)).alloc (.cells #[.int .i64 0, .int .u32 0, .int .u64 0, .int .i64 0, .slice none 0 0, .string ⟨#[]⟩] 70)).drew.heap[w.heap.size]? = some (.cells #[.pointer (some ⟨g, 0, none⟩)] 110 (0, 0)) := (Below.heap_alloc _ _ _ (by simp)).trans (heap_alloc_new w _)
  have hR : ((w.alloc (.cells #[.pointer (some ⟨g, 0, none⟩)] 110)).alloc (.cells #[.int .i64 0, .int .u32 0, .int .u64 0, .int .i64 0, .slice none 0 0, .string ⟨#[]⟩] 70)).drew.heap[w.heap.size + 1]? = some (.cells #[.int .i64 0, .int .u32 0, .int .u64 0, .int .i64 0, .slice none 0 0, .string ⟨#[]⟩] 70 (0, 0)) := by
    show ((w.alloc (.cells #[.pointer (some ⟨g, 0, none⟩)] 110)).alloc (.cells #[.int .i64 0, .int .u32 0, .int .u64 0, .int .i64 0, .slice none 0 0, .string ⟨#[]⟩] 70)).heap[w.heap.size + 1]? = _
    rw [show w.heap.size + 1 = (w.alloc (.cells #[.pointer (some ⟨g, 0, none⟩)] 110)).heap.size by simp]
    exact heap_alloc_new _ _
  have hr := h1d
  have ho := ho0
  clear h1d ho0 b0d hb0 hHeld
  generalize ((w.alloc (.cells #[.pointer (some ⟨g, 0, none⟩)] 110)).alloc (.cells #[.int .i64 0, .int .u32 0, .int .u64 0, .int .i64 0, .slice none 0 0, .string ⟨#[]⟩] 70)).drew = u0 at *
  refine wpAnyH_ready (rs := [3, 13]) (by kernel_rfl) (by simp) ?_
  refine AllReadyH.cons rfl (fun K hK => ?_) (AllReadyH.cons rfl (fun K hK => ?_) AllReadyH.nil)
  · go_simp
    refine (rnum_any g s l 4 _ hr hs (by omega)).mono ?_
    cases hc0 : numP 4 l with
    | error z =>
      rintro e u1 ⟨rfl, ho1⟩
      rw [show msgP src l = .error z by unfold msgP; simp only [hc0, andP]]
      exact ⟨rfl, rfl, ho.trans ho1⟩
    | ok y =>
    obtain ⟨seq, l1⟩ := y
    rintro e u1 ⟨rfl, hr1, ho1⟩
    have hS1 := ho1.cell' hS n1
    have hB1 := (ho1.block w.heap.size (blk_lt hB) (by simpa using n1)).trans hB
    have hR1 := (ho1.block (w.heap.size + 1) (blk_lt hR) (by simpa using n2)).trans hR
    have ho2 := ho.trans ho1
    refine hK.out _ _ hS1 (fun hS2 => ?_)
    clear hK K hS2
    have f1 : seq < 4294967296 := (numP_ok hc0).1
    have eu : IntKind.u32.wrap (seq : Int) = (seq : Int) := by rw [IntKind.wrap_u32]; omega
    clear hS hB hR hr ho ho1
    have hS := hS1
    have hB := hB1
    have hR := hR1
    have hr := hr1
    have ho := ho2
    clear hS1 hB1 hR1 hr1 ho2
    refine wpAnyH_take (i := 4) (v := .int .u32 (seq : Int)) rfl (by kernel_rfl) (by kernel_rfl) (by kernel_rfl) (fun _ _ _ h => h) (Or.inl ⟨by rfl, ?_⟩) (by assumption) ?_
    · intro w hSw; (try dsimp only at hSw); go_simp
    simp only [Act.put, List.setIfInBounds_toArray, List.set_cons_zero, List.set_cons_succ]
    refine wpAnyH_ready (rs := [7, 13]) (by kernel_rfl) (by simp) ?_
    refine AllReadyH.cons rfl (fun K hK => ?_) (AllReadyH.cons rfl (fun K hK => ?_) AllReadyH.nil)
    · go_simp
      refine (rnum_any g s l1 8 _ hr hs (by omega)).mono ?_
      cases hc1 : numP 8 l1 with
      | error z =>
        rintro e u2 ⟨rfl, ho1⟩
        rw [show msgP src l = .error z by unfold msgP; simp only [hc0, hc1, andP]]
        exact ⟨rfl, rfl, ho.trans ho1⟩
      | ok y =>
      obtain ⟨stamp, l2⟩ := y
      rintro e u2 ⟨rfl, hr1, ho1⟩
      have hS1 := ho1.cell' hS n1
      have hB1 := (ho1.block w.heap.size (blk_lt hB) (by simpa using n1)).trans hB
      have hR1 := (ho1.block (w.heap.size + 1) (blk_lt hR) (by simpa using n2)).trans hR
      have ho2 := ho.trans ho1
      refine hK.out _ _ hS1 (fun hS2 => ?_)
      clear hK K hS2
      have f2 : U64 stamp := (numP_ok hc1).1
      clear hS hB hR hr ho ho1
      have hS := hS1
      have hB := hB1
      have hR := hR1
      have hr := hr1
      have ho := ho2
      clear hS1 hB1 hR1 hr1 ho2
      refine wpAnyH_ready (rs := [10, 13]) (by kernel_rfl) (by simp) ?_
      refine AllReadyH.cons rfl (fun K hK => ?_) (AllReadyH.cons rfl (fun K hK => ?_) AllReadyH.nil)
      · go_simp
        refine (rnum_any g s l2 1 _ hr hs (by omega)).mono ?_
        cases hc2 : numP 1 l2 with
        | error z =>
          rintro e u3 ⟨rfl, ho1⟩
          rw [show msgP src l = .error z by unfold msgP; simp only [hc0, hc1, hc2, andP]]
          exact ⟨rfl, rfl, ho.trans ho1⟩
        | ok y =>
        obtain ⟨svc, l3⟩ := y
        rintro e u3 ⟨rfl, hr1, ho1⟩
        have hS1 := ho1.cell' hS n1
        have hB1 := (ho1.block w.heap.size (blk_lt hB) (by simpa using n1)).trans hB
        have hR1 := (ho1.block (w.heap.size + 1) (blk_lt hR) (by simpa using n2)).trans hR
        have ho2 := ho.trans ho1
        refine hK.out _ _ hS1 (fun hS2 => ?_)
        clear hK K hS2
        have f3 : svc < 256 := (numP_ok hc2).1
        have ei : IntKind.i64.wrap (svc : Int) = (svc : Int) := IntWalk.i64_in _ (by omega)
        clear hS hB hR hr ho ho1
        have hS := hS1
        have hB := hB1
        have hR := hR1
        have hr := hr1
        have ho := ho2
        clear hS1 hB1 hR1 hr1 ho2
        refine wpAnyH_take (i := 11) (v := .int .i64 (svc : Int)) rfl (by kernel_rfl) (by kernel_rfl) (by kernel_rfl) (fun _ _ _ h => h) (Or.inl ⟨by rfl, ?_⟩) (by assumption) ?_
        · intro w hSw; (try dsimp only at hSw); go_simp
        simp only [Act.put, List.setIfInBounds_toArray, List.set_cons_zero, List.set_cons_succ]
        refine wpAnyH_take (i := 12) (v := .agg #[.int .i64 src, .int .u32 (seq : Int), .int .u64 (stamp : Int), .int .i64 (svc : Int), .slice none 0 0, .string ⟨#[]⟩]) rfl (by kernel_rfl) (by kernel_rfl) (by kernel_rfl) (fun _ _ _ h => h) (Or.inl ⟨by rfl, ?_⟩) (by assumption) ?_
        · intro w hSw; (try dsimp only at hSw); go_simp
        simp only [Act.put, List.setIfInBounds_toArray, List.set_cons_zero, List.set_cons_succ]
        refine wpAnyH_ready (rs := [13]) (by kernel_rfl) (by simp) ?_
        refine AllReadyH.cons rfl (fun K hK => ?_) AllReadyH.nil
        go_simp
        have hMa : (u3.alloc (.cells #[.int .i64 0, .int .u32 0, .int .u64 0, .int .i64 0, .slice none 0 0, .string ⟨#[]⟩] 70)).heap[u3.heap.size]? = some (.cells #[.int .i64 0, .int .u32 0, .int .u64 0, .int .i64 0, .slice none 0 0, .string ⟨#[]⟩] 70 (0, 0)) := heap_alloc_new u3 _
        have hSa : (u3.alloc (.cells #[.int .i64 0, .int .u32 0, .int .u64 0, .int .i64 0, .slice none 0 0, .string ⟨#[]⟩] 70)).cell? ⟨w.heap.size, 0, none⟩ = some (.pointer (some ⟨g, 0, none⟩)) := (World.cell?_alloc_lt u3 _ _ (World.block_lt_of_cell? u3 ⟨w.heap.size, 0, none⟩ hS)).trans hS
        have hBa := (Below.heap_alloc u3 (.cells #[.int .i64 0, .int .u32 0, .int .u64 0, .int .i64 0, .slice none 0 0, .string ⟨#[]⟩] 70) _ (blk_lt hB)).trans hB
        have hRa := (Below.heap_alloc u3 (.cells #[.int .i64 0, .int .u32 0, .int .u64 0, .int .i64 0, .slice none 0 0, .string ⟨#[]⟩] 70) _ (blk_lt hR)).trans hR
        have hra := hr.kept (below_alloc (Below.refl _ _) (.cells #[.int .i64 0, .int .u32 0, .int .u64 0, .int .i64 0, .slice none 0 0, .string ⟨#[]⟩] 70))
        have hoa := ho.trans (Only.of_below (below_alloc (Below.refl _ _) (.cells #[.int .i64 0, .int .u32 0, .int .u64 0, .int .i64 0, .slice none 0 0, .string ⟨#[]⟩] 70)))
        have hKb : w.heap.size + 2 ≤ u3.heap.size := by have := blk_lt hR; omega
        refine hK.out _ _ hSa (fun hS2 => ?_)
        clear hK K
        generalize u3.heap.size = Kb at *
        generalize u3.alloc (.cells #[.int .i64 0, .int .u32 0, .int .u64 0, .int .i64 0, .slice none 0 0, .string ⟨#[]⟩] 70) = v4 at *
        clear hS hB hR hr ho hS2
        have hS := hSa
        have hM := hMa
        have hB := hBa
        have hR := hRa
        have hr := hra
        have ho := hoa
        clear hSa hMa hBa hRa hra hoa
        have t0 : v4.cell? ⟨Kb, 0, none⟩ = some (.int .i64 0) := cell_of_row _ _ 0 _ _ _ hM
        have y0 : v4.frozen? ⟨Kb, 0, none⟩ = false := by simp [World.frozen?, hM]
        have t1 : v4.cell? ⟨Kb, 1, none⟩ = some (.int .u32 0) := cell_of_row _ _ 1 _ _ _ hM
        have y1 : v4.frozen? ⟨Kb, 1, none⟩ = false := by simp [World.frozen?, hM]
        have t2 : v4.cell? ⟨Kb, 2, none⟩ = some (.int .u64 0) := cell_of_row _ _ 2 _ _ _ hM
        have y2 : v4.frozen? ⟨Kb, 2, none⟩ = false := by simp [World.frozen?, hM]
        have t3 : v4.cell? ⟨Kb, 3, none⟩ = some (.int .i64 0) := cell_of_row _ _ 3 _ _ _ hM
        have y3 : v4.frozen? ⟨Kb, 3, none⟩ = false := by simp [World.frozen?, hM]
        have t4 : v4.cell? ⟨Kb, 4, none⟩ = some (.slice none 0 0) := cell_of_row _ _ 4 _ _ _ hM
        have y4 : v4.frozen? ⟨Kb, 4, none⟩ = false := by simp [World.frozen?, hM]
        have t5 : v4.cell? ⟨Kb, 5, none⟩ = some (.string ⟨#[]⟩) := cell_of_row _ _ 5 _ _ _ hM
        have y5 : v4.frozen? ⟨Kb, 5, none⟩ = false := by simp [World.frozen?, hM]
        have HMH := Lib.hid hM
        have HBH := Lib.hid hB
        have HRH := Lib.hid hR
        clear hM hB hR
        refine wpAnyH_ready (rs := [14]) (by kernel_rfl) (by simp) ?_
        refine AllReadyH.cons rfl (fun K hK => ?_) AllReadyH.nil
        go_simp
        refine hK.out _ _ (set_other (set_other (set_other (set_other (set_other (set_other hS (by omega)) (by omega)) (by omega)) (by omega)) (by omega)) (by omega)) (fun hS2 => ?_)
        clear hK K
        refine wpAnyH_done (by kernel_rfl) ?_ _
        exact HREST Kb seq stamp svc l3 _ (blk_setj (blk_setj (blk_setj (blk_setj (blk_setj (blk_setj HMH.out 0 (.int .i64 src)) 1 (.int .u32 (seq : Int))) 2 (.int .u64 (stamp : Int))) 3 (.int .i64 (svc : Int))) 4 (.slice none 0 0)) 5 (.string ⟨#[]⟩)) ((Below.heap_setCell _ ⟨Kb, 5, none⟩ (.string ⟨#[]⟩) w.heap.size (by simp; omega)).trans ((Below.heap_setCell _ ⟨Kb, 4, none⟩ (.slice none 0 0) w.heap.size (by simp; omega)).trans ((Below.heap_setCell _ ⟨Kb, 3, none⟩ (.int .i64 (svc : Int)) w.heap.size (by simp; omega)).trans ((Below.heap_setCell _ ⟨Kb, 2, none⟩ (.int .u64 (stamp : Int)) w.heap.size (by simp; omega)).trans ((Below.heap_setCell _ ⟨Kb, 1, none⟩ (.int .u32 (seq : Int)) w.heap.size (by simp; omega)).trans ((Below.heap_setCell _ ⟨Kb, 0, none⟩ (.int .i64 src) w.heap.size (by simp; omega)).trans HBH.out)))))) ((Below.heap_setCell _ ⟨Kb, 5, none⟩ (.string ⟨#[]⟩) (w.heap.size + 1) (by simp; omega)).trans ((Below.heap_setCell _ ⟨Kb, 4, none⟩ (.slice none 0 0) (w.heap.size + 1) (by simp; omega)).trans ((Below.heap_setCell _ ⟨Kb, 3, none⟩ (.int .i64 (svc : Int)) (w.heap.size + 1) (by simp; omega)).trans ((Below.heap_setCell _ ⟨Kb, 2, none⟩ (.int .u64 (stamp : Int)) (w.heap.size + 1) (by simp; omega)).trans ((Below.heap_setCell _ ⟨Kb, 1, none⟩ (.int .u32 (seq : Int)) (w.heap.size + 1) (by simp; omega)).trans ((Below.heap_setCell _ ⟨Kb, 0, none⟩ (.int .i64 src) (w.heap.size + 1) (by simp; omega)).trans HRH.out)))))) ((((((hr.set (K := Kb) (by omega) 0 (.int .i64 src)).set (K := Kb) (by omega) 1 (.int .u32 (seq : Int))).set (K := Kb) (by omega) 2 (.int .u64 (stamp : Int))).set (K := Kb) (by omega) 3 (.int .i64 (svc : Int))).set (K := Kb) (by omega) 4 (.slice none 0 0)).set (K := Kb) (by omega) 5 (.string ⟨#[]⟩)) ((((((ho.fresh (k := Kb) (by omega) 0 (.int .i64 src)).fresh (k := Kb) (by omega) 1 (.int .u32 (seq : Int))).fresh (k := Kb) (by omega) 2 (.int .u64 (stamp : Int))).fresh (k := Kb) (by omega) 3 (.int .i64 (svc : Int))).fresh (k := Kb) (by omega) 4 (.slice none 0 0)).fresh (k := Kb) (by omega) 5 (.string ⟨#[]⟩)) hKb f1 f2 f3 (by unfold msgP; simp only [hc0, hc1, hc2, andP]; rfl)
      · go_simp
        have hMa : (u2.alloc (.cells #[.int .i64 0, .int .u32 0, .int .u64 0, .int .i64 0, .slice none 0 0, .string ⟨#[]⟩] 70)).heap[u2.heap.size]? = some (.cells #[.int .i64 0, .int .u32 0, .int .u64 0, .int .i64 0, .slice none 0 0, .string ⟨#[]⟩] 70 (0, 0)) := heap_alloc_new u2 _
        have hSa : (u2.alloc (.cells #[.int .i64 0, .int .u32 0, .int .u64 0, .int .i64 0, .slice none 0 0, .string ⟨#[]⟩] 70)).cell? ⟨w.heap.size, 0, none⟩ = some (.pointer (some ⟨g, 0, none⟩)) := (World.cell?_alloc_lt u2 _ _ (World.block_lt_of_cell? u2 ⟨w.heap.size, 0, none⟩ hS)).trans hS
        have hBa := (Below.heap_alloc u2 (.cells #[.int .i64 0, .int .u32 0, .int .u64 0, .int .i64 0, .slice none 0 0, .string ⟨#[]⟩] 70) _ (blk_lt hB)).trans hB
        have hRa := (Below.heap_alloc u2 (.cells #[.int .i64 0, .int .u32 0, .int .u64 0, .int .i64 0, .slice none 0 0, .string ⟨#[]⟩] 70) _ (blk_lt hR)).trans hR
        have hra := hr.kept (below_alloc (Below.refl _ _) (.cells #[.int .i64 0, .int .u32 0, .int .u64 0, .int .i64 0, .slice none 0 0, .string ⟨#[]⟩] 70))
        have hoa := ho.trans (Only.of_below (below_alloc (Below.refl _ _) (.cells #[.int .i64 0, .int .u32 0, .int .u64 0, .int .i64 0, .slice none 0 0, .string ⟨#[]⟩] 70)))
        have hKb : w.heap.size + 2 ≤ u2.heap.size := by have := blk_lt hR; omega
        refine hK.out _ _ hSa (fun hS2 => ?_)
        clear hK K
        generalize u2.heap.size = Kb at *
        generalize u2.alloc (.cells #[.int .i64 0, .int .u32 0, .int .u64 0, .int .i64 0, .slice none 0 0, .string ⟨#[]⟩] 70) = v5 at *
        clear hS hB hR hr ho hS2
        have hS := hSa
        have hM := hMa
        have hB := hBa
        have hR := hRa
        have hr := hra
        have ho := hoa
        clear hSa hMa hBa hRa hra hoa
        refine wpAnyH_ready (rs := [10]) (by kernel_rfl) (by simp) ?_
        refine AllReadyH.cons rfl (fun K hK => ?_) AllReadyH.nil
        go_simp
        refine (rnum_any g s l2 1 _ hr hs (by omega)).mono ?_
        cases hc2 : numP 1 l2 with
        | error z =>
          rintro e u6 ⟨rfl, ho1⟩
          rw [show msgP src l = .error z by unfold msgP; simp only [hc0, hc1, hc2, andP]]
          exact ⟨rfl, rfl, ho.trans ho1⟩
        | ok y =>
        obtain ⟨svc, l3⟩ := y
        rintro e u6 ⟨rfl, hr1, ho1⟩
        have hS1 := ho1.cell' hS n1
        have hB1 := (ho1.block w.heap.size (blk_lt hB) (by simpa using n1)).trans hB
        have hR1 := (ho1.block (w.heap.size + 1) (blk_lt hR) (by simpa using n2)).trans hR
        have ho2 := ho.trans ho1
        have n4 : Kb ≠ g := by omega
        have hM1 := (ho1.block Kb (blk_lt hM) (by simpa using n4)).trans hM
        refine hK.out _ _ hS1 (fun hS2 => ?_)
        clear hK K hS2
        have f3 : svc < 256 := (numP_ok hc2).1
        have ei : IntKind.i64.wrap (svc : Int) = (svc : Int) := IntWalk.i64_in _ (by omega)
        clear hS hB hR hr ho ho1 hM
        have hS := hS1
        have hB := hB1
        have hR := hR1
        have hr := hr1
        have ho := ho2
        have hM := hM1
        clear hM1
        clear hS1 hB1 hR1 hr1 ho2
        refine wpAnyH_take (i := 11) (v := .int .i64 (svc : Int)) rfl (by kernel_rfl) (by kernel_rfl) (by kernel_rfl) (fun _ _ _ h => h) (Or.inl ⟨by rfl, ?_⟩) (by assumption) ?_
        · intro w hSw; (try dsimp only at hSw); go_simp
        simp only [Act.put, List.setIfInBounds_toArray, List.set_cons_zero, List.set_cons_succ]
        refine wpAnyH_take (i := 12) (v := .agg #[.int .i64 src, .int .u32 (seq : Int), .int .u64 (stamp : Int), .int .i64 (svc : Int), .slice none 0 0, .string ⟨#[]⟩]) rfl (by kernel_rfl) (by kernel_rfl) (by kernel_rfl) (fun _ _ _ h => h) (Or.inl ⟨by rfl, ?_⟩) (by assumption) ?_
        · intro w hSw; (try dsimp only at hSw); go_simp
        simp only [Act.put, List.setIfInBounds_toArray, List.set_cons_zero, List.set_cons_succ]
        have t0 : u6.cell? ⟨Kb, 0, none⟩ = some (.int .i64 0) := cell_of_row _ _ 0 _ _ _ hM
        have y0 : u6.frozen? ⟨Kb, 0, none⟩ = false := by simp [World.frozen?, hM]
        have t1 : u6.cell? ⟨Kb, 1, none⟩ = some (.int .u32 0) := cell_of_row _ _ 1 _ _ _ hM
        have y1 : u6.frozen? ⟨Kb, 1, none⟩ = false := by simp [World.frozen?, hM]
        have t2 : u6.cell? ⟨Kb, 2, none⟩ = some (.int .u64 0) := cell_of_row _ _ 2 _ _ _ hM
        have y2 : u6.frozen? ⟨Kb, 2, none⟩ = false := by simp [World.frozen?, hM]
        have t3 : u6.cell? ⟨Kb, 3, none⟩ = some (.int .i64 0) := cell_of_row _ _ 3 _ _ _ hM
        have y3 : u6.frozen? ⟨Kb, 3, none⟩ = false := by simp [World.frozen?, hM]
        have t4 : u6.cell? ⟨Kb, 4, none⟩ = some (.slice none 0 0) := cell_of_row _ _ 4 _ _ _ hM
        have y4 : u6.frozen? ⟨Kb, 4, none⟩ = false := by simp [World.frozen?, hM]
        have t5 : u6.cell? ⟨Kb, 5, none⟩ = some (.string ⟨#[]⟩) := cell_of_row _ _ 5 _ _ _ hM
        have y5 : u6.frozen? ⟨Kb, 5, none⟩ = false := by simp [World.frozen?, hM]
        have HMH := Lib.hid hM
        have HBH := Lib.hid hB
        have HRH := Lib.hid hR
        clear hM hB hR
        refine wpAnyH_ready (rs := [14]) (by kernel_rfl) (by simp) ?_
        refine AllReadyH.cons rfl (fun K hK => ?_) AllReadyH.nil
        go_simp
        refine hK.out _ _ (set_other (set_other (set_other (set_other (set_other (set_other hS (by omega)) (by omega)) (by omega)) (by omega)) (by omega)) (by omega)) (fun hS2 => ?_)
        clear hK K
        refine wpAnyH_done (by kernel_rfl) ?_ _
        exact HREST Kb seq stamp svc l3 _ (blk_setj (blk_setj (blk_setj (blk_setj (blk_setj (blk_setj HMH.out 0 (.int .i64 src)) 1 (.int .u32 (seq : Int))) 2 (.int .u64 (stamp : Int))) 3 (.int .i64 (svc : Int))) 4 (.slice none 0 0)) 5 (.string ⟨#[]⟩)) ((Below.heap_setCell _ ⟨Kb, 5, none⟩ (.string ⟨#[]⟩) w.heap.size (by simp; omega)).trans ((Below.heap_setCell _ ⟨Kb, 4, none⟩ (.slice none 0 0) w.heap.size (by simp; omega)).trans ((Below.heap_setCell _ ⟨Kb, 3, none⟩ (.int .i64 (svc : Int)) w.heap.size (by simp; omega)).trans ((Below.heap_setCell _ ⟨Kb, 2, none⟩ (.int .u64 (stamp : Int)) w.heap.size (by simp; omega)).trans ((Below.heap_setCell _ ⟨Kb, 1, none⟩ (.int .u32 (seq : Int)) w.heap.size (by simp; omega)).trans ((Below.heap_setCell _ ⟨Kb, 0, none⟩ (.int .i64 src) w.heap.size (by simp; omega)).trans HBH.out)))))) ((Below.heap_setCell _ ⟨Kb, 5, none⟩ (.string ⟨#[]⟩) (w.heap.size + 1) (by simp; omega)).trans ((Below.heap_setCell _ ⟨Kb, 4, none⟩ (.slice none 0 0) (w.heap.size + 1) (by simp; omega)).trans ((Below.heap_setCell _ ⟨Kb, 3, none⟩ (.int .i64 (svc : Int)) (w.heap.size + 1) (by simp; omega)).trans ((Below.heap_setCell _ ⟨Kb, 2, none⟩ (.int .u64 (stamp : Int)) (w.heap.size + 1) (by simp; omega)).trans ((Below.heap_setCell _ ⟨Kb, 1, none⟩ (.int .u32 (seq : Int)) (w.heap.size + 1) (by simp; omega)).trans ((Below.heap_setCell _ ⟨Kb, 0, none⟩ (.int .i64 src) (w.heap.size + 1) (by simp; omega)).trans HRH.out)))))) ((((((hr.set (K := Kb) (by omega) 0 (.int .i64 src)).set (K := Kb) (by omega) 1 (.int .u32 (seq : Int))).set (K := Kb) (by omega) 2 (.int .u64 (stamp : Int))).set (K := Kb) (by omega) 3 (.int .i64 (svc : Int))).set (K := Kb) (by omega) 4 (.slice none 0 0)).set (K := Kb) (by omega) 5 (.string ⟨#[]⟩)) ((((((ho.fresh (k := Kb) (by omega) 0 (.int .i64 src)).fresh (k := Kb) (by omega) 1 (.int .u32 (seq : Int))).fresh (k := Kb) (by omega) 2 (.int .u64 (stamp : Int))).fresh (k := Kb) (by omega) 3 (.int .i64 (svc : Int))).fresh (k := Kb) (by omega) 4 (.slice none 0 0)).fresh (k := Kb) (by omega) 5 (.string ⟨#[]⟩)) hKb f1 f2 f3 (by unfold msgP; simp only [hc0, hc1, hc2, andP]; rfl)
    · go_simp
      have hMa : (u1.alloc (.cells #[.int .i64 0, .int .u32 0, .int .u64 0, .int .i64 0, .slice none 0 0, .string ⟨#[]⟩] 70)).heap[u1.heap.size]? = some (.cells #[.int .i64 0, .int .u32 0, .int .u64 0, .int .i64 0, .slice none 0 0, .string ⟨#[]⟩] 70 (0, 0)) := heap_alloc_new u1 _
      have hSa : (u1.alloc (.cells #[.int .i64 0, .int .u32 0, .int .u64 0, .int .i64 0, .slice none 0 0, .string ⟨#[]⟩] 70)).cell? ⟨w.heap.size, 0, none⟩ = some (.pointer (some ⟨g, 0, none⟩)) := (World.cell?_alloc_lt u1 _ _ (World.block_lt_of_cell? u1 ⟨w.heap.size, 0, none⟩ hS)).trans hS
      have hBa := (Below.heap_alloc u1 (.cells #[.int .i64 0, .int .u32 0, .int .u64 0, .int .i64 0, .slice none 0 0, .string ⟨#[]⟩] 70) _ (blk_lt hB)).trans hB
      have hRa := (Below.heap_alloc u1 (.cells #[.int .i64 0, .int .u32 0, .int .u64 0, .int .i64 0, .slice none 0 0, .string ⟨#[]⟩] 70) _ (blk_lt hR)).trans hR
      have hra := hr.kept (below_alloc (Below.refl _ _) (.cells #[.int .i64 0, .int .u32 0, .int .u64 0, .int .i64 0, .slice none 0 0, .string ⟨#[]⟩] 70))
      have hoa := ho.trans (Only.of_below (below_alloc (Below.refl _ _) (.cells #[.int .i64 0, .int .u32 0, .int .u64 0, .int .i64 0, .slice none 0 0, .string ⟨#[]⟩] 70)))
      have hKb : w.heap.size + 2 ≤ u1.heap.size := by have := blk_lt hR; omega
      refine hK.out _ _ hSa (fun hS2 => ?_)
      clear hK K
      generalize u1.heap.size = Kb at *
      generalize u1.alloc (.cells #[.int .i64 0, .int .u32 0, .int .u64 0, .int .i64 0, .slice none 0 0, .string ⟨#[]⟩] 70) = v7 at *
      clear hS hB hR hr ho hS2
      have hS := hSa
      have hM := hMa
      have hB := hBa
      have hR := hRa
      have hr := hra
      have ho := hoa
      clear hSa hMa hBa hRa hra hoa
      refine wpAnyH_ready (rs := [7]) (by kernel_rfl) (by simp) ?_
      refine AllReadyH.cons rfl (fun K hK => ?_) AllReadyH.nil
      go_simp
      refine (rnum_any g s l1 8 _ hr hs (by omega)).mono ?_
      cases hc1 : numP 8 l1 with
      | error z =>
        rintro e u8 ⟨rfl, ho1⟩
        rw [show msgP src l = .error z by unfold msgP; simp only [hc0, hc1, andP]]
        exact ⟨rfl, rfl, ho.trans ho1⟩
      | ok y =>
      obtain ⟨stamp, l2⟩ := y
      rintro e u8 ⟨rfl, hr1, ho1⟩
      have hS1 := ho1.cell' hS n1
      have hB1 := (ho1.block w.heap.size (blk_lt hB) (by simpa using n1)).trans hB
      have hR1 := (ho1.block (w.heap.size + 1) (blk_lt hR) (by simpa using n2)).trans hR
      have ho2 := ho.trans ho1
      have n4 : Kb ≠ g := by omega
      have hM1 := (ho1.block Kb (blk_lt hM) (by simpa using n4)).trans hM
      refine hK.out _ _ hS1 (fun hS2 => ?_)
      clear hK K hS2
      have f2 : U64 stamp := (numP_ok hc1).1
      clear hS hB hR hr ho ho1 hM
      have hS := hS1
      have hB := hB1
      have hR := hR1
      have hr := hr1
      have ho := ho2
      have hM := hM1
      clear hM1
      clear hS1 hB1 hR1 hr1 ho2
      refine wpAnyH_ready (rs := [10]) (by kernel_rfl) (by simp) ?_
      refine AllReadyH.cons rfl (fun K hK => ?_) AllReadyH.nil
      go_simp
      refine (rnum_any g s l2 1 _ hr hs (by omega)).mono ?_
      cases hc2 : numP 1 l2 with
      | error z =>
        rintro e u9 ⟨rfl, ho1⟩
        rw [show msgP src l = .error z by unfold msgP; simp only [hc0, hc1, hc2, andP]]
        exact ⟨rfl, rfl, ho.trans ho1⟩
      | ok y =>
      obtain ⟨svc, l3⟩ := y
      rintro e u9 ⟨rfl, hr1, ho1⟩
      have hS1 := ho1.cell' hS n1
      have hB1 := (ho1.block w.heap.size (blk_lt hB) (by simpa using n1)).trans hB
      have hR1 := (ho1.block (w.heap.size + 1) (blk_lt hR) (by simpa using n2)).trans hR
      have ho2 := ho.trans ho1
      have n4 : Kb ≠ g := by omega
      have hM1 := (ho1.block Kb (blk_lt hM) (by simpa using n4)).trans hM
      refine hK.out _ _ hS1 (fun hS2 => ?_)
      clear hK K hS2
      have f3 : svc < 256 := (numP_ok hc2).1
      have ei : IntKind.i64.wrap (svc : Int) = (svc : Int) := IntWalk.i64_in _ (by omega)
      clear hS hB hR hr ho ho1 hM
      have hS := hS1
      have hB := hB1
      have hR := hR1
      have hr := hr1
      have ho := ho2
      have hM := hM1
      clear hM1
      clear hS1 hB1 hR1 hr1 ho2
      refine wpAnyH_take (i := 11) (v := .int .i64 (svc : Int)) rfl (by kernel_rfl) (by kernel_rfl) (by kernel_rfl) (fun _ _ _ h => h) (Or.inl ⟨by rfl, ?_⟩) (by assumption) ?_
      · intro w hSw; (try dsimp only at hSw); go_simp
      simp only [Act.put, List.setIfInBounds_toArray, List.set_cons_zero, List.set_cons_succ]
      refine wpAnyH_take (i := 12) (v := .agg #[.int .i64 src, .int .u32 (seq : Int), .int .u64 (stamp : Int), .int .i64 (svc : Int), .slice none 0 0, .string ⟨#[]⟩]) rfl (by kernel_rfl) (by kernel_rfl) (by kernel_rfl) (fun _ _ _ h => h) (Or.inl ⟨by rfl, ?_⟩) (by assumption) ?_
      · intro w hSw; (try dsimp only at hSw); go_simp
      simp only [Act.put, List.setIfInBounds_toArray, List.set_cons_zero, List.set_cons_succ]
      have t0 : u9.cell? ⟨Kb, 0, none⟩ = some (.int .i64 0) := cell_of_row _ _ 0 _ _ _ hM
      have y0 : u9.frozen? ⟨Kb, 0, none⟩ = false := by simp [World.frozen?, hM]
      have t1 : u9.cell? ⟨Kb, 1, none⟩ = some (.int .u32 0) := cell_of_row _ _ 1 _ _ _ hM
      have y1 : u9.frozen? ⟨Kb, 1, none⟩ = false := by simp [World.frozen?, hM]
      have t2 : u9.cell? ⟨Kb, 2, none⟩ = some (.int .u64 0) := cell_of_row _ _ 2 _ _ _ hM
      have y2 : u9.frozen? ⟨Kb, 2, none⟩ = false := by simp [World.frozen?, hM]
      have t3 : u9.cell? ⟨Kb, 3, none⟩ = some (.int .i64 0) := cell_of_row _ _ 3 _ _ _ hM
      have y3 : u9.frozen? ⟨Kb, 3, none⟩ = false := by simp [World.frozen?, hM]
      have t4 : u9.cell? ⟨Kb, 4, none⟩ = some (.slice none 0 0) := cell_of_row _ _ 4 _ _ _ hM
      have y4 : u9.frozen? ⟨Kb, 4, none⟩ = false := by simp [World.frozen?, hM]
      have t5 : u9.cell? ⟨Kb, 5, none⟩ = some (.string ⟨#[]⟩) := cell_of_row _ _ 5 _ _ _ hM
      have y5 : u9.frozen? ⟨Kb, 5, none⟩ = false := by simp [World.frozen?, hM]
      have HMH := Lib.hid hM
      have HBH := Lib.hid hB
      have HRH := Lib.hid hR
      clear hM hB hR
      refine wpAnyH_ready (rs := [14]) (by kernel_rfl) (by simp) ?_
      refine AllReadyH.cons rfl (fun K hK => ?_) AllReadyH.nil
      go_simp
      refine hK.out _ _ (set_other (set_other (set_other (set_other (set_other (set_other hS (by omega)) (by omega)) (by omega)) (by omega)) (by omega)) (by omega)) (fun hS2 => ?_)
      clear hK K
      refine wpAnyH_done (by kernel_rfl) ?_ _
      exact HREST Kb seq stamp svc l3 _ (blk_setj (blk_setj (blk_setj (blk_setj (blk_setj (blk_setj HMH.out 0 (.int .i64 src)) 1 (.int .u32 (seq : Int))) 2 (.int .u64 (stamp : Int))) 3 (.int .i64 (svc : Int))) 4 (.slice none 0 0)) 5 (.string ⟨#[]⟩)) ((Below.heap_setCell _ ⟨Kb, 5, none⟩ (.string ⟨#[]⟩) w.heap.size (by simp; omega)).trans ((Below.heap_setCell _ ⟨Kb, 4, none⟩ (.slice none 0 0) w.heap.size (by simp; omega)).trans ((Below.heap_setCell _ ⟨Kb, 3, none⟩ (.int .i64 (svc : Int)) w.heap.size (by simp; omega)).trans ((Below.heap_setCell _ ⟨Kb, 2, none⟩ (.int .u64 (stamp : Int)) w.heap.size (by simp; omega)).trans ((Below.heap_setCell _ ⟨Kb, 1, none⟩ (.int .u32 (seq : Int)) w.heap.size (by simp; omega)).trans ((Below.heap_setCell _ ⟨Kb, 0, none⟩ (.int .i64 src) w.heap.size (by simp; omega)).trans HBH.out)))))) ((Below.heap_setCell _ ⟨Kb, 5, none⟩ (.string ⟨#[]⟩) (w.heap.size + 1) (by simp; omega)).trans ((Below.heap_setCell _ ⟨Kb, 4, none⟩ (.slice none 0 0) (w.heap.size + 1) (by simp; omega)).trans ((Below.heap_setCell _ ⟨Kb, 3, none⟩ (.int .i64 (svc : Int)) (w.heap.size + 1) (by simp; omega)).trans ((Below.heap_setCell _ ⟨Kb, 2, none⟩ (.int .u64 (stamp : Int)) (w.heap.size + 1) (by simp; omega)).trans ((Below.heap_setCell _ ⟨Kb, 1, none⟩ (.int .u32 (seq : Int)) (w.heap.size + 1) (by simp; omega)).trans ((Below.heap_setCell _ ⟨Kb, 0, none⟩ (.int .i64 src) (w.heap.size + 1) (by simp; omega)).trans HRH.out)))))) ((((((hr.set (K := Kb) (by omega) 0 (.int .i64 src)).set (K := Kb) (by omega) 1 (.int .u32 (seq : Int))).set (K := Kb) (by omega) 2 (.int .u64 (stamp : Int))).set (K := Kb) (by omega) 3 (.int .i64 (svc : Int))).set (K := Kb) (by omega) 4 (.slice none 0 0)).set (K := Kb) (by omega) 5 (.string ⟨#[]⟩)) ((((((ho.fresh (k := Kb) (by omega) 0 (.int .i64 src)).fresh (k := Kb) (by omega) 1 (.int .u32 (seq : Int))).fresh (k := Kb) (by omega) 2 (.int .u64 (stamp : Int))).fresh (k := Kb) (by omega) 3 (.int .i64 (svc : Int))).fresh (k := Kb) (by omega) 4 (.slice none 0 0)).fresh (k := Kb) (by omega) 5 (.string ⟨#[]⟩)) hKb f1 f2 f3 (by unfold msgP; simp only [hc0, hc1, hc2, andP]; rfl)
  · go_simp
    have hMa : (u0.alloc (.cells #[.int .i64 0, .int .u32 0, .int .u64 0, .int .i64 0, .slice none 0 0, .string ⟨#[]⟩] 70)).heap[u0.heap.size]? = some (.cells #[.int .i64 0, .int .u32 0, .int .u64 0, .int .i64 0, .slice none 0 0, .string ⟨#[]⟩] 70 (0, 0)) := heap_alloc_new u0 _
    have hSa : (u0.alloc (.cells #[.int .i64 0, .int .u32 0, .int .u64 0, .int .i64 0, .slice none 0 0, .string ⟨#[]⟩] 70)).cell? ⟨w.heap.size, 0, none⟩ = some (.pointer (some ⟨g, 0, none⟩)) := (World.cell?_alloc_lt u0 _ _ (World.block_lt_of_cell? u0 ⟨w.heap.size, 0, none⟩ hS)).trans hS
    have hBa := (Below.heap_alloc u0 (.cells #[.int .i64 0, .int .u32 0, .int .u64 0, .int .i64 0, .slice none 0 0, .string ⟨#[]⟩] 70) _ (blk_lt hB)).trans hB
    have hRa := (Below.heap_alloc u0 (.cells #[.int .i64 0, .int .u32 0, .int .u64 0, .int .i64 0, .slice none 0 0, .string ⟨#[]⟩] 70) _ (blk_lt hR)).trans hR
    have hra := hr.kept (below_alloc (Below.refl _ _) (.cells #[.int .i64 0, .int .u32 0, .int .u64 0, .int .i64 0, .slice none 0 0, .string ⟨#[]⟩] 70))
    have hoa := ho.trans (Only.of_below (below_alloc (Below.refl _ _) (.cells #[.int .i64 0, .int .u32 0, .int .u64 0, .int .i64 0, .slice none 0 0, .string ⟨#[]⟩] 70)))
    have hKb : w.heap.size + 2 ≤ u0.heap.size := by have := blk_lt hR; omega
    refine hK.out _ _ hSa (fun hS2 => ?_)
    clear hK K
    generalize u0.heap.size = Kb at *
    generalize u0.alloc (.cells #[.int .i64 0, .int .u32 0, .int .u64 0, .int .i64 0, .slice none 0 0, .string ⟨#[]⟩] 70) = v10 at *
    clear hS hB hR hr ho hS2
    have hS := hSa
    have hM := hMa
    have hB := hBa
    have hR := hRa
    have hr := hra
    have ho := hoa
    clear hSa hMa hBa hRa hra hoa
    refine wpAnyH_ready (rs := [3]) (by kernel_rfl) (by simp) ?_
    refine AllReadyH.cons rfl (fun K hK => ?_) AllReadyH.nil
    go_simp
    refine (rnum_any g s l 4 _ hr hs (by omega)).mono ?_
    cases hc0 : numP 4 l with
    | error z =>
      rintro e u11 ⟨rfl, ho1⟩
      rw [show msgP src l = .error z by unfold msgP; simp only [hc0, andP]]
      exact ⟨rfl, rfl, ho.trans ho1⟩
    | ok y =>
    obtain ⟨seq, l1⟩ := y
    rintro e u11 ⟨rfl, hr1, ho1⟩
    have hS1 := ho1.cell' hS n1
    have hB1 := (ho1.block w.heap.size (blk_lt hB) (by simpa using n1)).trans hB
    have hR1 := (ho1.block (w.heap.size + 1) (blk_lt hR) (by simpa using n2)).trans hR
    have ho2 := ho.trans ho1
    have n4 : Kb ≠ g := by omega
    have hM1 := (ho1.block Kb (blk_lt hM) (by simpa using n4)).trans hM
    refine hK.out _ _ hS1 (fun hS2 => ?_)
    clear hK K hS2
    have f1 : seq < 4294967296 := (numP_ok hc0).1
    have eu : IntKind.u32.wrap (seq : Int) = (seq : Int) := by rw [IntKind.wrap_u32]; omega
    clear hS hB hR hr ho ho1 hM
    have hS := hS1
    have hB := hB1
    have hR := hR1
    have hr := hr1
    have ho := ho2
    have hM := hM1
    clear hM1
    clear hS1 hB1 hR1 hr1 ho2
    refine wpAnyH_take (i := 4) (v := .int .u32 (seq : Int)) rfl (by kernel_rfl) (by kernel_rfl) (by kernel_rfl) (fun _ _ _ h => h) (Or.inl ⟨by rfl, ?_⟩) (by assumption) ?_
    · intro w hSw; (try dsimp only at hSw); go_simp
    simp only [Act.put, List.setIfInBounds_toArray, List.set_cons_zero, List.set_cons_succ]
    refine wpAnyH_ready (rs := [7]) (by kernel_rfl) (by simp) ?_
    refine AllReadyH.cons rfl (fun K hK => ?_) AllReadyH.nil
    go_simp
    refine (rnum_any g s l1 8 _ hr hs (by omega)).mono ?_
    cases hc1 : numP 8 l1 with
    | error z =>
      rintro e u12 ⟨rfl, ho1⟩
      rw [show msgP src l = .error z by unfold msgP; simp only [hc0, hc1, andP]]
      exact ⟨rfl, rfl, ho.trans ho1⟩
    | ok y =>
    obtain ⟨stamp, l2⟩ := y
    rintro e u12 ⟨rfl, hr1, ho1⟩
    have hS1 := ho1.cell' hS n1
    have hB1 := (ho1.block w.heap.size (blk_lt hB) (by simpa using n1)).trans hB
    have hR1 := (ho1.block (w.heap.size + 1) (blk_lt hR) (by simpa using n2)).trans hR
    have ho2 := ho.trans ho1
    have n4 : Kb ≠ g := by omega
    have hM1 := (ho1.block Kb (blk_lt hM) (by simpa using n4)).trans hM
    refine hK.out _ _ hS1 (fun hS2 => ?_)
    clear hK K hS2
    have f2 : U64 stamp := (numP_ok hc1).1
    clear hS hB hR hr ho ho1 hM
    have hS := hS1
    have hB := hB1
    have hR := hR1
    have hr := hr1
    have ho := ho2
    have hM := hM1
    clear hM1
    clear hS1 hB1 hR1 hr1 ho2
    refine wpAnyH_ready (rs := [10]) (by kernel_rfl) (by simp) ?_
    refine AllReadyH.cons rfl (fun K hK => ?_) AllReadyH.nil
    go_simp
    refine (rnum_any g s l2 1 _ hr hs (by omega)).mono ?_
    cases hc2 : numP 1 l2 with
    | error z =>
      rintro e u13 ⟨rfl, ho1⟩
      rw [show msgP src l = .error z by unfold msgP; simp only [hc0, hc1, hc2, andP]]
      exact ⟨rfl, rfl, ho.trans ho1⟩
    | ok y =>
    obtain ⟨svc, l3⟩ := y
    rintro e u13 ⟨rfl, hr1, ho1⟩
    have hS1 := ho1.cell' hS n1
    have hB1 := (ho1.block w.heap.size (blk_lt hB) (by simpa using n1)).trans hB
    have hR1 := (ho1.block (w.heap.size + 1) (blk_lt hR) (by simpa using n2)).trans hR
    have ho2 := ho.trans ho1
    have n4 : Kb ≠ g := by omega
    have hM1 := (ho1.block Kb (blk_lt hM) (by simpa using n4)).trans hM
    refine hK.out _ _ hS1 (fun hS2 => ?_)
    clear hK K hS2
    have f3 : svc < 256 := (numP_ok hc2).1
    have ei : IntKind.i64.wrap (svc : Int) = (svc : Int) := IntWalk.i64_in _ (by omega)
    clear hS hB hR hr ho ho1 hM
    have hS := hS1
    have hB := hB1
    have hR := hR1
    have hr := hr1
    have ho := ho2
    have hM := hM1
    clear hM1
    clear hS1 hB1 hR1 hr1 ho2
    refine wpAnyH_take (i := 11) (v := .int .i64 (svc : Int)) rfl (by kernel_rfl) (by kernel_rfl) (by kernel_rfl) (fun _ _ _ h => h) (Or.inl ⟨by rfl, ?_⟩) (by assumption) ?_
    · intro w hSw; (try dsimp only at hSw); go_simp
    simp only [Act.put, List.setIfInBounds_toArray, List.set_cons_zero, List.set_cons_succ]
    refine wpAnyH_take (i := 12) (v := .agg #[.int .i64 src, .int .u32 (seq : Int), .int .u64 (stamp : Int), .int .i64 (svc : Int), .slice none 0 0, .string ⟨#[]⟩]) rfl (by kernel_rfl) (by kernel_rfl) (by kernel_rfl) (fun _ _ _ h => h) (Or.inl ⟨by rfl, ?_⟩) (by assumption) ?_
    · intro w hSw; (try dsimp only at hSw); go_simp
    simp only [Act.put, List.setIfInBounds_toArray, List.set_cons_zero, List.set_cons_succ]
    have t0 : u13.cell? ⟨Kb, 0, none⟩ = some (.int .i64 0) := cell_of_row _ _ 0 _ _ _ hM
    have y0 : u13.frozen? ⟨Kb, 0, none⟩ = false := by simp [World.frozen?, hM]
    have t1 : u13.cell? ⟨Kb, 1, none⟩ = some (.int .u32 0) := cell_of_row _ _ 1 _ _ _ hM
    have y1 : u13.frozen? ⟨Kb, 1, none⟩ = false := by simp [World.frozen?, hM]
    have t2 : u13.cell? ⟨Kb, 2, none⟩ = some (.int .u64 0) := cell_of_row _ _ 2 _ _ _ hM
    have y2 : u13.frozen? ⟨Kb, 2, none⟩ = false := by simp [World.frozen?, hM]
    have t3 : u13.cell? ⟨Kb, 3, none⟩ = some (.int .i64 0) := cell_of_row _ _ 3 _ _ _ hM
    have y3 : u13.frozen? ⟨Kb, 3, none⟩ = false := by simp [World.frozen?, hM]
    have t4 : u13.cell? ⟨Kb, 4, none⟩ = some (.slice none 0 0) := cell_of_row _ _ 4 _ _ _ hM
    have y4 : u13.frozen? ⟨Kb, 4, none⟩ = false := by simp [World.frozen?, hM]
    have t5 : u13.cell? ⟨Kb, 5, none⟩ = some (.string ⟨#[]⟩) := cell_of_row _ _ 5 _ _ _ hM
    have y5 : u13.frozen? ⟨Kb, 5, none⟩ = false := by simp [World.frozen?, hM]
    have HMH := Lib.hid hM
    have HBH := Lib.hid hB
    have HRH := Lib.hid hR
    clear hM hB hR
    refine wpAnyH_ready (rs := [14]) (by kernel_rfl) (by simp) ?_
    refine AllReadyH.cons rfl (fun K hK => ?_) AllReadyH.nil
    go_simp
    refine hK.out _ _ (set_other (set_other (set_other (set_other (set_other (set_other hS (by omega)) (by omega)) (by omega)) (by omega)) (by omega)) (by omega)) (fun hS2 => ?_)
    clear hK K
    refine wpAnyH_done (by kernel_rfl) ?_ _
    exact HREST Kb seq stamp svc l3 _ (blk_setj (blk_setj (blk_setj (blk_setj (blk_setj (blk_setj HMH.out 0 (.int .i64 src)) 1 (.int .u32 (seq : Int))) 2 (.int .u64 (stamp : Int))) 3 (.int .i64 (svc : Int))) 4 (.slice none 0 0)) 5 (.string ⟨#[]⟩)) ((Below.heap_setCell _ ⟨Kb, 5, none⟩ (.string ⟨#[]⟩) w.heap.size (by simp; omega)).trans ((Below.heap_setCell _ ⟨Kb, 4, none⟩ (.slice none 0 0) w.heap.size (by simp; omega)).trans ((Below.heap_setCell _ ⟨Kb, 3, none⟩ (.int .i64 (svc : Int)) w.heap.size (by simp; omega)).trans ((Below.heap_setCell _ ⟨Kb, 2, none⟩ (.int .u64 (stamp : Int)) w.heap.size (by simp; omega)).trans ((Below.heap_setCell _ ⟨Kb, 1, none⟩ (.int .u32 (seq : Int)) w.heap.size (by simp; omega)).trans ((Below.heap_setCell _ ⟨Kb, 0, none⟩ (.int .i64 src) w.heap.size (by simp; omega)).trans HBH.out)))))) ((Below.heap_setCell _ ⟨Kb, 5, none⟩ (.string ⟨#[]⟩) (w.heap.size + 1) (by simp; omega)).trans ((Below.heap_setCell _ ⟨Kb, 4, none⟩ (.slice none 0 0) (w.heap.size + 1) (by simp; omega)).trans ((Below.heap_setCell _ ⟨Kb, 3, none⟩ (.int .i64 (svc : Int)) (w.heap.size + 1) (by simp; omega)).trans ((Below.heap_setCell _ ⟨Kb, 2, none⟩ (.int .u64 (stamp : Int)) (w.heap.size + 1) (by simp; omega)).trans ((Below.heap_setCell _ ⟨Kb, 1, none⟩ (.int .u32 (seq : Int)) (w.heap.size + 1) (by simp; omega)).trans ((Below.heap_setCell _ ⟨Kb, 0, none⟩ (.int .i64 src) (w.heap.size + 1) (by simp; omega)).trans HRH.out)))))) ((((((hr.set (K := Kb) (by omega) 0 (.int .i64 src)).set (K := Kb) (by omega) 1 (.int .u32 (seq : Int))).set (K := Kb) (by omega) 2 (.int .u64 (stamp : Int))).set (K := Kb) (by omega) 3 (.int .i64 (svc : Int))).set (K := Kb) (by omega) 4 (.slice none 0 0)).set (K := Kb) (by omega) 5 (.string ⟨#[]⟩)) ((((((ho.fresh (k := Kb) (by omega) 0 (.int .i64 src)).fresh (k := Kb) (by omega) 1 (.int .u32 (seq : Int))).fresh (k := Kb) (by omega) 2 (.int .u64 (stamp : Int))).fresh (k := Kb) (by omega) 3 (.int .i64 (svc : Int))).fresh (k := Kb) (by omega) 4 (.slice none 0 0)).fresh (k := Kb) (by omega) 5 (.string ⟨#[]⟩)) hKb f1 f2 f3 (by unfold msgP; simp only [hc0, hc1, hc2, andP]; rfl)
end Go.Proofs.Ythkfgjdbgnbjkaa
