/- The walks of packet's reader: conf, key. (Printed by pkreader.py.) -/
import Derived.Test.YthkfgjdbgnbjkaaPkBase
namespace Go.Proofs.Ythkfgjdbgnbjkaa
open Go.RowKit
set_option linter.unusedSimpArgs false
set_option linter.unusedVariables false

theorem only_frozen {g k j : Nat} {w w' : World} {v : Value} (h : Only g w w') (hc : w.cell? ⟨k, j, none⟩ = some v) (hf : w.frozen? ⟨k, j, none⟩ = false) (hne : k ≠ g) : w'.frozen? ⟨k, j, none⟩ = false := by
  have hl : k < w.heap.size := World.block_lt_of_cell? w ⟨k, j, none⟩ hc
  have e : w'.heap[k]? = w.heap[k]? := h.block k hl (by simpa using hne)
  exact (World.frozen?_of_block (w := w) e).trans hf
theorem RdL.set {w : World} {g K : Nat} {s : ByteArray} {l : List UInt8} (h : RdL w g s l) (hne : K ≠ g) (m : Nat) (u : Value) : RdL (w.setCell ⟨K, m, none⟩ u) g s l := by
  obtain ⟨p, h1, h2, h3, h4, h5⟩ := h
  exact ⟨p, h1, h2, set_other h3 (fun e => hne e.symm), set_other h4 (fun e => hne e.symm), by rw [World.frozen?_setCell]; exact h5⟩
theorem Only.fresh {g k : Nat} {a b : World} (h : Only g a b) (hk : a.heap.size ≤ k) (m : Nat) (u : Value) : Only g a (b.setCell ⟨k, m, none⟩ u) :=
  ⟨h.os, h.tape, h.output, by simpa [World.setCell] using World.grownBy.size h, fun i hi hne => (Below.heap_setCell b _ u i (by
    intro e
    have : i = k := e
    omega)).trans (h.block i hi hne)⟩

set_option maxHeartbeats 1600000 in
set_option maxRecDepth 8000 in
theorem rconf_any (g : Nat) (s : ByteArray) (l : List UInt8) (w : World) (h : RdL w g s l) (hs : s.size ≤ 1000000) :
    Calls Try.prog 86 #[.agg #[.pointer (some ⟨g, 0, none⟩)]] w (ROut (fun v : Cf => .agg #[.int .u64 ((v.e : Nat) : Int), .int .i64 v.r]) g w s (confP l)) := by
  have hg := h.lt
  have hb0 : Below w.heap.size w ((w.alloc (.cells #[.pointer (some ⟨g, 0, none⟩)] 110)).alloc (.cells #[.int .u64 0, .int .i64 0] 67)) := below_alloc (below_alloc (Below.refl _ _) _) _
  have ho0 := Only.of_below (g := g) hb0
  have ho0d : Only g w ((w.alloc (.cells #[.pointer (some ⟨g, 0, none⟩)] 110)).alloc (.cells #[.int .u64 0, .int .i64 0] 67)).drew := ho0.drew
  have h1 := h.kept hb0
  have h1d : RdL ((w.alloc (.cells #[.pointer (some ⟨g, 0, none⟩)] 110)).alloc (.cells #[.int .u64 0, .int .i64 0] 67)).drew g s l := h1
  have b0 : ((w.alloc (.cells #[.pointer (some ⟨g, 0, none⟩)] 110)).alloc (.cells #[.int .u64 0, .int .i64 0] 67)).cell? ⟨w.heap.size, 0, none⟩ = some (.pointer (some ⟨g, 0, none⟩)) := by simp
  have b0d : ((w.alloc (.cells #[.pointer (some ⟨g, 0, none⟩)] 110)).alloc (.cells #[.int .u64 0, .int .i64 0] 67)).drew.cell? ⟨w.heap.size, 0, none⟩ = some (.pointer (some ⟨g, 0, none⟩)) := b0
  have r0 : ((w.alloc (.cells #[.pointer (some ⟨g, 0, none⟩)] 110)).alloc (.cells #[.int .u64 0, .int .i64 0] 67)).drew.cell? ⟨w.heap.size + 1, 0, none⟩ = some (.int .u64 0) := by simp
  have r1 : ((w.alloc (.cells #[.pointer (some ⟨g, 0, none⟩)] 110)).alloc (.cells #[.int .u64 0, .int .i64 0] 67)).drew.cell? ⟨w.heap.size + 1, 1, none⟩ = some (.int .i64 0) := by simp
  have r2 : ((w.alloc (.cells #[.pointer (some ⟨g, 0, none⟩)] 110)).alloc (.cells #[.int .u64 0, .int .i64 0] 67)).drew.frozen? ⟨w.heap.size + 1, 0, none⟩ = false := by simp
  have r3 : ((w.alloc (.cells #[.pointer (some ⟨g, 0, none⟩)] 110)).alloc (.cells #[.int .u64 0, .int .i64 0] 67)).drew.frozen? ⟨w.heap.size + 1, 1, none⟩ = false := by simp
  have n1 : w.heap.size ≠ g := by omega
  have n2 : w.heap.size + 1 ≠ g := by omega
  have n3 : w.heap.size ≠ w.heap.size + 1 := by omega
  have H1 := Lib.hid (fun W (hW : RdL W g s l) => rnum_any g s l 8 W hW hs (by omega))
  have H2 := Lib.hid (fun r W (hW : RdL W g s r) => rproc_any' g s r W hW hs)
  unfold confP
  cases hn : numP 8 l with
  | error c =>
    rw [hn] at H1
    go_enter Try.func86, Try.ntmps86
    go_wp2_with fail
    go_region_with (go_at_call 59; refine (H1.out _ h1d).mono ?_; rintro e w1 ⟨rfl, ho1⟩; refine shut_way w1 (⟨rfl, rfl, ho0d.trans ho1⟩) ?_)
    all_goals trivial
  | ok x =>
    obtain ⟨v, r⟩ := x
    rw [hn] at H1
    have H2 := Lib.hid (H2.out r)
    cases hp : procP r with
    | error c =>
      rw [hp] at H2
      have hres : andP (.ok (v, r)) (fun e r => andP (procP r) fun p r => .ok ((⟨e, p⟩ : Cf), r)) = .error c := by simp only [andP, hp]
      rw [hres]
      clear hres
      go_enter Try.func86, Try.ntmps86
      go_wp2_with fail
      go_region_with (first | (go_at_call 59; refine (H1.out _ h1d).mono ?_; rintro e w1 ⟨rfl, hr1, ho1⟩; have b1 := ho1.cell' b0d n1; have s0 := ho1.cell' r0 n2; have s1 := ho1.cell' r1 n2; have s2 := only_frozen ho1 r0 r2 n2; have s3 := only_frozen ho1 r1 r3 n2) | (go_at_call 89; refine (H2.out _ hr1).mono ?_; rintro e w2 ⟨rfl, ho2⟩; refine shut_way w2 (⟨rfl, rfl, (ho0d.trans ho1).trans ho2⟩) ?_))
      all_goals trivial
    | ok y =>
      obtain ⟨q, r'⟩ := y
      rw [hp] at H2
      have hres : andP (.ok (v, r)) (fun e r => andP (procP r) fun p r => .ok ((⟨e, p⟩ : Cf), r)) = .ok (⟨v, q⟩, r') := by simp only [andP, hp]
      rw [hres]
      clear hres
      go_enter Try.func86, Try.ntmps86
      go_wp2_with fail
      go_region_with (first | (go_at_call 59; refine (H1.out _ h1d).mono ?_; rintro e w1 ⟨rfl, hr1, ho1⟩; have b1 := ho1.cell' b0d n1; have s0 := ho1.cell' r0 n2; have s1 := ho1.cell' r1 n2; have s2 := only_frozen ho1 r0 r2 n2; have s3 := only_frozen ho1 r1 r3 n2) | (go_at_call 89; refine (H2.out _ hr1).mono ?_; rintro e w2 ⟨rfl, hr2, ho2⟩; have t0 := ho2.cell' s0 n2; have t1 := ho2.cell' s1 n2; have t2 := only_frozen ho2 s0 s2 n2; have t3 := only_frozen ho2 s1 s3 n2))
      all_goals go_wp2_with fail
      all_goals
        have z0 := World.cell?_setCell_same _ _ (.int .u64 (v : Int)) t0
        have z1 : (w2.setCell ⟨w.heap.size + 1, 0, none⟩ (.int .u64 (v : Int))).cell? ⟨w.heap.size + 1, 1, none⟩ = some (.int .i64 0) := (World.cell?_setCell_other _ _ _ _ (by simp)).trans t1
        have z2 := World.cell?_setCell_same _ _ (.int .i64 q) z1
        have z3 : ((w2.setCell ⟨w.heap.size + 1, 0, none⟩ (.int .u64 (v : Int))).setCell ⟨w.heap.size + 1, 1, none⟩ (.int .i64 q)).cell? ⟨w.heap.size + 1, 0, none⟩ = some (.int .u64 (v : Int)) := (World.cell?_setCell_other _ _ _ _ (by simp)).trans z0
        refine bodyPost_ret (v := .agg #[.int .u64 (v : Int), .int .i64 q]) (by simp [results, Try.results86, go_sem, z0, z1, z2, z3]) rfl ⟨rfl, (hr2.set n2 _ _).set n2 _ _, (((ho0d.trans ho1).trans ho2).fresh (by simp) _ _).fresh (by simp) _ _⟩

set_option maxHeartbeats 1600000 in
set_option maxRecDepth 8000 in
theorem rkey_any (g : Nat) (s : ByteArray) (l : List UInt8) (w : World) (h : RdL w g s l) (hs : s.size ≤ 1000000) :
    Calls Try.prog 104 #[.agg #[.pointer (some ⟨g, 0, none⟩)]] w (ROut (fun v : Ky => .agg #[.int .u64 ((v.s : Nat) : Int), .int .i64 v.f]) g w s (keyP l)) := by
  have hg := h.lt
  have hb0 : Below w.heap.size w ((w.alloc (.cells #[.pointer (some ⟨g, 0, none⟩)] 110)).alloc (.cells #[.int .u64 0, .int .i64 0] 84)) := below_alloc (below_alloc (Below.refl _ _) _) _
  have ho0 := Only.of_below (g := g) hb0
  have ho0d : Only g w ((w.alloc (.cells #[.pointer (some ⟨g, 0, none⟩)] 110)).alloc (.cells #[.int .u64 0, .int .i64 0] 84)).drew := ho0.drew
  have h1 := h.kept hb0
  have h1d : RdL ((w.alloc (.cells #[.pointer (some ⟨g, 0, none⟩)] 110)).alloc (.cells #[.int .u64 0, .int .i64 0] 84)).drew g s l := h1
  have b0 : ((w.alloc (.cells #[.pointer (some ⟨g, 0, none⟩)] 110)).alloc (.cells #[.int .u64 0, .int .i64 0] 84)).cell? ⟨w.heap.size, 0, none⟩ = some (.pointer (some ⟨g, 0, none⟩)) := by simp
  have b0d : ((w.alloc (.cells #[.pointer (some ⟨g, 0, none⟩)] 110)).alloc (.cells #[.int .u64 0, .int .i64 0] 84)).drew.cell? ⟨w.heap.size, 0, none⟩ = some (.pointer (some ⟨g, 0, none⟩)) := b0
  have r0 : ((w.alloc (.cells #[.pointer (some ⟨g, 0, none⟩)] 110)).alloc (.cells #[.int .u64 0, .int .i64 0] 84)).drew.cell? ⟨w.heap.size + 1, 0, none⟩ = some (.int .u64 0) := by simp
  have r1 : ((w.alloc (.cells #[.pointer (some ⟨g, 0, none⟩)] 110)).alloc (.cells #[.int .u64 0, .int .i64 0] 84)).drew.cell? ⟨w.heap.size + 1, 1, none⟩ = some (.int .i64 0) := by simp
  have r2 : ((w.alloc (.cells #[.pointer (some ⟨g, 0, none⟩)] 110)).alloc (.cells #[.int .u64 0, .int .i64 0] 84)).drew.frozen? ⟨w.heap.size + 1, 0, none⟩ = false := by simp
  have r3 : ((w.alloc (.cells #[.pointer (some ⟨g, 0, none⟩)] 110)).alloc (.cells #[.int .u64 0, .int .i64 0] 84)).drew.frozen? ⟨w.heap.size + 1, 1, none⟩ = false := by simp
  have n1 : w.heap.size ≠ g := by omega
  have n2 : w.heap.size + 1 ≠ g := by omega
  have n3 : w.heap.size ≠ w.heap.size + 1 := by omega
  have H1 := Lib.hid (fun W (hW : RdL W g s l) => rnum_any g s l 8 W hW hs (by omega))
  have H2 := Lib.hid (fun r W (hW : RdL W g s r) => rproc_any' g s r W hW hs)
  unfold keyP
  cases hn : numP 8 l with
  | error c =>
    rw [hn] at H1
    go_enter Try.func104, Try.ntmps104
    go_wp2_with fail
    go_region_with (go_at_call 59; refine (H1.out _ h1d).mono ?_; rintro e w1 ⟨rfl, ho1⟩; refine shut_way w1 (⟨rfl, rfl, ho0d.trans ho1⟩) ?_)
    all_goals trivial
  | ok x =>
    obtain ⟨v, r⟩ := x
    rw [hn] at H1
    have H2 := Lib.hid (H2.out r)
    cases hp : procP r with
    | error c =>
      rw [hp] at H2
      have hres : andP (.ok (v, r)) (fun e r => andP (procP r) fun p r => .ok ((⟨e, p⟩ : Ky), r)) = .error c := by simp only [andP, hp]
      rw [hres]
      clear hres
      go_enter Try.func104, Try.ntmps104
      go_wp2_with fail
      go_region_with (first | (go_at_call 59; refine (H1.out _ h1d).mono ?_; rintro e w1 ⟨rfl, hr1, ho1⟩; have b1 := ho1.cell' b0d n1; have s0 := ho1.cell' r0 n2; have s1 := ho1.cell' r1 n2; have s2 := only_frozen ho1 r0 r2 n2; have s3 := only_frozen ho1 r1 r3 n2) | (go_at_call 89; refine (H2.out _ hr1).mono ?_; rintro e w2 ⟨rfl, ho2⟩; refine shut_way w2 (⟨rfl, rfl, (ho0d.trans ho1).trans ho2⟩) ?_))
      all_goals trivial
    | ok y =>
      obtain ⟨q, r'⟩ := y
      rw [hp] at H2
      have hres : andP (.ok (v, r)) (fun e r => andP (procP r) fun p r => .ok ((⟨e, p⟩ : Ky), r)) = .ok (⟨v, q⟩, r') := by simp only [andP, hp]
      rw [hres]
      clear hres
      go_enter Try.func104, Try.ntmps104
      go_wp2_with fail
      go_region_with (first | (go_at_call 59; refine (H1.out _ h1d).mono ?_; rintro e w1 ⟨rfl, hr1, ho1⟩; have b1 := ho1.cell' b0d n1; have s0 := ho1.cell' r0 n2; have s1 := ho1.cell' r1 n2; have s2 := only_frozen ho1 r0 r2 n2; have s3 := only_frozen ho1 r1 r3 n2) | (go_at_call 89; refine (H2.out _ hr1).mono ?_; rintro e w2 ⟨rfl, hr2, ho2⟩; have t0 := ho2.cell' s0 n2; have t1 := ho2.cell' s1 n2; have t2 := only_frozen ho2 s0 s2 n2; have t3 := only_frozen ho2 s1 s3 n2))
      all_goals go_wp2_with fail
      all_goals
        have z0 := World.cell?_setCell_same _ _ (.int .u64 (v : Int)) t0
        have z1 : (w2.setCell ⟨w.heap.size + 1, 0, none⟩ (.int .u64 (v : Int))).cell? ⟨w.heap.size + 1, 1, none⟩ = some (.int .i64 0) := (World.cell?_setCell_other _ _ _ _ (by simp)).trans t1
        have z2 := World.cell?_setCell_same _ _ (.int .i64 q) z1
        have z3 : ((w2.setCell ⟨w.heap.size + 1, 0, none⟩ (.int .u64 (v : Int))).setCell ⟨w.heap.size + 1, 1, none⟩ (.int .i64 q)).cell? ⟨w.heap.size + 1, 0, none⟩ = some (.int .u64 (v : Int)) := (World.cell?_setCell_other _ _ _ _ (by simp)).trans z0
        refine bodyPost_ret (v := .agg #[.int .u64 (v : Int), .int .i64 q]) (by simp [results, Try.results104, go_sem, z0, z1, z2, z3]) rfl ⟨rfl, (hr2.set n2 _ _).set n2 _ _, (((ho0d.trans ho1).trans ho2).fresh (by simp) _ _).fresh (by simp) _ _⟩
end Go.Proofs.Ythkfgjdbgnbjkaa
