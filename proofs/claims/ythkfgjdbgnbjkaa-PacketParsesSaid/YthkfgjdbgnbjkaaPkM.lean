/- The walk of packet's reader: exchange. (Printed by pkreader2.py.) -/
import Derived.Test.YthkfgjdbgnbjkaaPkL
import Derived.Test.YthkfgjdbgnbjkaaPkE
namespace Go.Proofs.Ythkfgjdbgnbjkaa
open Go.RowKit
set_option linter.unusedSimpArgs false
set_option linter.unusedVariables false

/-- what exchange leaves. -/
def EOut (g : Nat) (w : World) (s : ByteArray) (r : In Ex) (e : Ending) (w' : World) : Prop :=
  match r with
  | .ok (x, l) => (∃ A c, e = .returned (exV x A c) ∧ w'.ownsRow w.heap.size 25 1 (.slice A x.cnt.length c) x.cnt.length (uvals x.cnt)) ∧ x.fits ∧ RdL w' g s l ∧ Only g w w'
  | .error c => e = .panicked [pv c] ∧ Only g w w'
theorem blk_setj {w : World} {g : Nat} {cs : Array Value} {t : TypeId} (h : w.heap[g]? = some (.cells cs t (0, 0))) (j : Nat) (u : Value) : (w.setCell ⟨g, j, none⟩ u).heap[g]? = some (.cells (cs.setIfInBounds j u) t (0, 0)) := by
  simp [World.setCell, Array.getElem?_modify, h]
theorem own_set_any {w : World} {base : Nat} {e : TypeId} {size : Nat} {v : Value} {n g : Nat} {xs : List Value} (h : w.ownsRow base e size v n xs) (hne : v.ownBlock ≠ some g) (j : Nat) (u : Value) : (w.setCell ⟨g, j, none⟩ u).ownsRow base e size v n xs := by
  refine h.kept (row := some g) ⟨rfl, rfl, rfl, by simp [World.setCell], fun k hk hkg => Below.heap_setCell w _ u k (by simpa using hkg)⟩ (.inr hne)
theorem own_low_any {w : World} {B B' : Nat} {e : TypeId} {size : Nat} {v : Value} {n : Nat} {xs : List Value} (h : w.ownsRow B e size v n xs) (hB : B' ≤ B) : w.ownsRow B' e size v n xs := own_low h hB
theorem procP_shape {l r : List UInt8} {p : Int} (h : procP l = .ok (p, r)) : 0 ≤ p ∧ p < 64 := by
  unfold procP at h
  cases hn : numP 1 l with
  | error c => rw [hn] at h; cases h
  | ok x =>
    obtain ⟨v, r'⟩ := x
    rw [hn] at h
    simp only [andP] at h
    split at h
    · cases h
    · cases h; omega
theorem confP_shape {l r : List UInt8} {c : Cf} (h : confP l = .ok (c, r)) : U64 c.e := by
  unfold confP at h
  cases hn : numP 8 l with
  | error c => rw [hn] at h; cases h
  | ok x =>
    obtain ⟨v, r'⟩ := x
    have hv : v < 256 ^ 8 := (numP_ok hn).1
    rw [hn] at h
    simp only [andP] at h
    cases hp : procP r' with
    | error c => rw [hp] at h; cases h
    | ok y => rw [hp] at h; cases h; exact hv
theorem keyP_shape {l r : List UInt8} {c : Ky} (h : keyP l = .ok (c, r)) : U64 c.s := by
  unfold keyP at h
  cases hn : numP 8 l with
  | error c => rw [hn] at h; cases h
  | ok x =>
    obtain ⟨v, r'⟩ := x
    have hv : v < 256 ^ 8 := (numP_ok hn).1
    rw [hn] at h
    simp only [andP] at h
    cases hp : procP r' with
    | error c => rw [hp] at h; cases h
    | ok y => rw [hp] at h; cases h; exact hv

set_option maxHeartbeats 3200000 in
set_option maxRecDepth 8000 in
theorem rex_any (g : Nat) (s : ByteArray) (l : List UInt8) (w : World) (h : RdL w g s l) (hs : s.size ≤ 1000000) :
    Calls Try.prog 90 #[.agg #[.pointer (some ⟨g, 0, none⟩)]] w (EOut g w s (exP l)) := by
  have hg := h.lt
  have hb0 : Below w.heap.size w ((w.alloc (.cells #[.pointer (some ⟨g, 0, none⟩)] 110)).alloc (.cells #[.int .i64 0, .int .u64 0, .int .i64 0, .slice none 0 0, .int .u64 0, .int .i64 0] 86)) := below_alloc (below_alloc (Below.refl _ _) _) _
  have ho0 : Only g w ((w.alloc (.cells #[.pointer (some ⟨g, 0, none⟩)] 110)).alloc (.cells #[.int .i64 0, .int .u64 0, .int .i64 0, .slice none 0 0, .int .u64 0, .int .i64 0] 86)).drew := (Only.of_below (g := g) hb0).drew
  have h1d : RdL ((w.alloc (.cells #[.pointer (some ⟨g, 0, none⟩)] 110)).alloc (.cells #[.int .i64 0, .int .u64 0, .int .i64 0, .slice none 0 0, .int .u64 0, .int .i64 0] 86)).drew g s l := h.kept (below_drew hb0)
  have b0d : ((w.alloc (.cells #[.pointer (some ⟨g, 0, none⟩)] 110)).alloc (.cells #[.int .i64 0, .int .u64 0, .int .i64 0, .slice none 0 0, .int .u64 0, .int .i64 0] 86)).drew.cell? ⟨w.heap.size, 0, none⟩ = some (.pointer (some ⟨g, 0, none⟩)) := by simp
  have R0 : Hid (((w.alloc (.cells #[.pointer (some ⟨g, 0, none⟩)] 110)).alloc (.cells #[.int .i64 0, .int .u64 0, .int .i64 0, .slice none 0 0, .int .u64 0, .int .i64 0] 86)).drew.heap[w.heap.size + 1]? = some (.cells #[.int .i64 0, .int .u64 0, .int .i64 0, .slice none 0 0, .int .u64 0, .int .i64 0] 86 (0, 0))) := by
    show ((w.alloc (.cells #[.pointer (some ⟨g, 0, none⟩)] 110)).alloc (.cells #[.int .i64 0, .int .u64 0, .int .i64 0, .slice none 0 0, .int .u64 0, .int .i64 0] 86)).heap[w.heap.size + 1]? = _
    rw [show w.heap.size + 1 = (w.alloc (.cells #[.pointer (some ⟨g, 0, none⟩)] 110)).heap.size by simp]
    exact heap_alloc_new _ _
  have n1 : w.heap.size ≠ g := by omega
  have n2 : w.heap.size + 1 ≠ g := by omega
  have H1 := Lib.hid (fun W (hW : RdL W g s l) => rproc_any' g s l W hW hs)
  have H2 := Lib.hid (fun r W (hW : RdL W g s r) => rconf_any g s r W hW hs)
  have H3 := Lib.hid (fun r W (hW : RdL W g s r) => rvec_any g s r W hW hs)
  have H4 := Lib.hid (fun r W (hW : RdL W g s r) => rkey_any g s r W hW hs)
  go_enter Try.func90, Try.ntmps90
  go_wp2_with fail
  refine wp_region_held_drew (S := fun w' => w'.cell? ⟨w.heap.size, 0, none⟩ = some (.pointer (some ⟨g, 0, none⟩))) (by kernel_rfl) ?_ (fun hHeld => ?_)
  · exact b0d
  refine wpAnyH_take (i := 0) (v := .agg #[.pointer (some ⟨g, 0, none⟩)]) rfl (by kernel_rfl) (by kernel_rfl) (by kernel_rfl) (fun _ _ _ h => h) (Or.inl ⟨by rfl, ?_⟩) (by assumption) ?_
  · intro w hSw; (try dsimp only at hSw); go_simp
  simp only [Act.put, List.setIfInBounds_toArray, List.set_cons_zero, List.set_cons_succ]
  refine wpAnyH_take (i := 2) (v := .agg #[.pointer (some ⟨g, 0, none⟩)]) rfl (by kernel_rfl) (by kernel_rfl) (by kernel_rfl) (fun _ _ _ h => h) (Or.inl ⟨by rfl, ?_⟩) (by assumption) ?_
  · intro w hSw; (try dsimp only at hSw); go_simp
  simp only [Act.put, List.setIfInBounds_toArray, List.set_cons_zero, List.set_cons_succ]
  refine wpAnyH_take (i := 4) (v := .agg #[.pointer (some ⟨g, 0, none⟩)]) rfl (by kernel_rfl) (by kernel_rfl) (by kernel_rfl) (fun _ _ _ h => h) (Or.inl ⟨by rfl, ?_⟩) (by assumption) ?_
  · intro w hSw; (try dsimp only at hSw); go_simp
  simp only [Act.put, List.setIfInBounds_toArray, List.set_cons_zero, List.set_cons_succ]
  refine wpAnyH_take (i := 6) (v := .agg #[.pointer (some ⟨g, 0, none⟩)]) rfl (by kernel_rfl) (by kernel_rfl) (by kernel_rfl) (fun _ _ _ h => h) (Or.inl ⟨by rfl, ?_⟩) (by assumption) ?_
  · intro w hSw; (try dsimp only at hSw); go_simp
  simp only [Act.put, List.setIfInBounds_toArray, List.set_cons_zero, List.set_cons_succ]
  refine wpAnyH_ready (rs := [1]) (by kernel_rfl) (by simp) ?_
  refine AllReadyH.cons rfl (fun K hK => ?_) AllReadyH.nil
  go_simp
  refine (H1.out _ h1d).mono ?_
  cases hp1 : procP l with
  | error z =>
    rintro e w1 ⟨rfl, ho1⟩
    rw [show exP l = .error z by unfold exP; simp only [hp1, andP]]
    exact ⟨rfl, rfl, ho0.trans ho1⟩
  | ok y1 =>
  obtain ⟨p1, l1⟩ := y1
  rintro e w1 ⟨rfl, hr1, ho1⟩
  refine hK.out _ _ (ho1.cell' b0d n1) (fun hHeld1 => ?_)
  clear hK K
  have ho1' := ho0.trans ho1
  have R1 := Lib.hid ((ho1.block (w.heap.size + 1) (by simp) (by simpa using n2)).trans R0.out)
  refine wpAnyH_ready (rs := [3]) (by kernel_rfl) (by simp) ?_
  refine AllReadyH.cons rfl (fun K hK => ?_) AllReadyH.nil
  go_simp
  refine (H2.out l1 _ hr1).mono ?_
  cases hp2 : confP l1 with
  | error z =>
    rintro e w2 ⟨rfl, ho2⟩
    rw [show exP l = .error z by unfold exP; simp only [hp1, hp2, andP]]
    exact ⟨rfl, rfl, ho1'.trans ho2⟩
  | ok y2 =>
  obtain ⟨⟨c1, c2⟩, l2⟩ := y2
  rintro e w2 ⟨rfl, hr2, ho2⟩
  refine hK.out _ _ (ho2.cell' hHeld1 n1) (fun hHeld2 => ?_)
  clear hK K
  have ho2' := ho1'.trans ho2
  have R2 := Lib.hid ((ho2.block (w.heap.size + 1) (blk_lt R1.out) (by simpa using n2)).trans R1.out)
  refine wpAnyH_ready (rs := [5]) (by kernel_rfl) (by simp) ?_
  refine AllReadyH.cons rfl (fun K hK => ?_) AllReadyH.nil
  go_simp
  refine (H3.out l2 _ hr2).mono ?_
  cases hp3 : vecP l2 with
  | error z =>
    rintro e w3 ⟨rfl, ho3⟩
    rw [show exP l = .error z by unfold exP; simp only [hp1, hp2, hp3, andP]]
    exact ⟨rfl, rfl, ho2'.trans ho3⟩
  | ok y3 =>
  obtain ⟨us, l3⟩ := y3
  rintro e w3 ⟨⟨A, c, rfl, hown⟩, hu, hr3, ho3⟩
  refine hK.out _ _ (ho3.cell' hHeld2 n1) (fun hHeld3 => ?_)
  clear hK K
  have ho3' := ho2'.trans ho3
  have R3 := Lib.hid ((ho3.block (w.heap.size + 1) (blk_lt R2.out) (by simpa using n2)).trans R2.out)
  have hsz2 := ho2'.size
  have hgA : (Value.slice A us.length c).ownBlock = none ∨ (Value.slice A us.length c).ownBlock ≠ some g := by
    cases hq : (Value.slice A us.length c).ownBlock with
    | none => exact .inl rfl
    | some q => exact .inr (by have := own_base_any hown hq; intro e; injection e with e; omega)
  have hgB : (Value.slice A us.length c).ownBlock ≠ some (w.heap.size + 1) := by
    intro e
    have := own_base_any hown e
    have := blk_lt R2.out
    omega
  have HW3 := Lib.hid hown
  have HU := Lib.hid hu
  clear hown hu
  refine wpAnyH_ready (rs := [7]) (by kernel_rfl) (by simp) ?_
  refine AllReadyH.cons rfl (fun K hK => ?_) AllReadyH.nil
  go_simp
  refine (H4.out l3 _ hr3).mono ?_
  cases hp4 : keyP l3 with
  | error z =>
    rintro e w4 ⟨rfl, ho4⟩
    rw [show exP l = .error z by unfold exP; simp only [hp1, hp2, hp3, hp4, andP]]
    exact ⟨rfl, rfl, ho3'.trans ho4⟩
  | ok y4 =>
  obtain ⟨⟨k1, k2⟩, l4⟩ := y4
  rintro e w4 ⟨rfl, hr4, ho4⟩
  refine hK.out _ _ (ho4.cell' hHeld3 n1) (fun hHeld4 => ?_)
  clear hK K
  have ho4' := ho3'.trans ho4
  have R4 := (ho4.block (w.heap.size + 1) (blk_lt R3.out) (by simpa using n2)).trans R3.out
  have HW4 := Lib.hid (HW3.out.kept ho4 hgA)
  have HO4 := Lib.hid ho4'
  have HR4 := Lib.hid hr4
  have t0 : w4.cell? ⟨w.heap.size + 1, 0, none⟩ = some (.int .i64 0) := cell_of_row _ _ 0 _ _ _ R4
  have f0 : w4.frozen? ⟨w.heap.size + 1, 0, none⟩ = false := by simp [World.frozen?, R4]
  have t1 : w4.cell? ⟨w.heap.size + 1, 1, none⟩ = some (.int .u64 0) := cell_of_row _ _ 1 _ _ _ R4
  have f1 : w4.frozen? ⟨w.heap.size + 1, 1, none⟩ = false := by simp [World.frozen?, R4]
  have t2 : w4.cell? ⟨w.heap.size + 1, 2, none⟩ = some (.int .i64 0) := cell_of_row _ _ 2 _ _ _ R4
  have f2 : w4.frozen? ⟨w.heap.size + 1, 2, none⟩ = false := by simp [World.frozen?, R4]
  have t3 : w4.cell? ⟨w.heap.size + 1, 3, none⟩ = some (.slice none 0 0) := cell_of_row _ _ 3 _ _ _ R4
  have f3 : w4.frozen? ⟨w.heap.size + 1, 3, none⟩ = false := by simp [World.frozen?, R4]
  have t4 : w4.cell? ⟨w.heap.size + 1, 4, none⟩ = some (.int .u64 0) := cell_of_row _ _ 4 _ _ _ R4
  have f4 : w4.frozen? ⟨w.heap.size + 1, 4, none⟩ = false := by simp [World.frozen?, R4]
  have t5 : w4.cell? ⟨w.heap.size + 1, 5, none⟩ = some (.int .i64 0) := cell_of_row _ _ 5 _ _ _ R4
  have f5 : w4.frozen? ⟨w.heap.size + 1, 5, none⟩ = false := by simp [World.frozen?, R4]
  have HR := Lib.hid R4
  have hres : exP l = .ok (⟨p1, ⟨c1, c2⟩, us, ⟨k1, k2⟩⟩, l4) := by unfold exP; simp only [hp1, hp2, hp3, hp4, andP]
  have HRES := Lib.hid hres
  have hfits : Ex.fits ⟨p1, ⟨c1, c2⟩, us, ⟨k1, k2⟩⟩ := ⟨confP_shape hp2, HU.out, keyP_shape hp4⟩
  have HFITS := Lib.hid hfits
  clear hres hfits R4 R3 R2 R1 R0 ho1 ho2 ho3 ho4 ho1' ho2' ho3' ho4' hr1 hr2 hr3 hr4 h1d H1 H2 H3 H4 hHeld hHeld1 hHeld2 hHeld3 HW3 hp1 hp2 hp3 hp4 b0d ho0
  refine wpAnyH_ready (rs := [8]) (by kernel_rfl) (by simp) ?_
  refine AllReadyH.cons rfl (fun K hK => ?_) AllReadyH.nil
  go_simp
  refine hK.out _ _ hHeld4 (fun hHeld5 => ?_)
  clear hK K
  refine wpAnyH_ready (rs := [9]) (by kernel_rfl) (by simp) ?_
  refine AllReadyH.cons rfl (fun K hK => ?_) AllReadyH.nil
  go_simp
  have n3 : w.heap.size ≠ w.heap.size + 1 := by omega
  refine hK.out _ _ (set_other (set_other (set_other (set_other (set_other (set_other hHeld4 n3) n3) n3) n3) n3) n3) (fun hHeld6 => ?_)
  clear hK K hHeld5
  refine wpAnyH_done (by kernel_rfl) ?_ _
  have hfin := blk_setj (blk_setj (blk_setj (blk_setj (blk_setj (blk_setj HR.out 0 (.int .i64 p1)) 1 (.int .u64 (c1 : Int))) 2 (.int .i64 c2)) 3 (.slice A us.length c)) 4 (.int .u64 (k1 : Int))) 5 (.int .i64 k2)
  have hown := own_set_any (own_set_any (own_set_any (own_set_any (own_set_any (own_set_any HW4.out hgB 0 (.int .i64 p1)) hgB 1 (.int .u64 (c1 : Int))) hgB 2 (.int .i64 c2)) hgB 3 (.slice A us.length c)) hgB 4 (.int .u64 (k1 : Int))) hgB 5 (.int .i64 k2)
  have hrd := ((((((HR4.out.set n2 0 (.int .i64 p1)).set n2 1 (.int .u64 (c1 : Int))).set n2 2 (.int .i64 c2)).set n2 3 (.slice A us.length c)).set n2 4 (.int .u64 (k1 : Int))).set n2 5 (.int .i64 k2))
  have hon := ((((((HO4.out.fresh (k := w.heap.size + 1) (by omega) 0 (.int .i64 p1)).fresh (k := w.heap.size + 1) (by omega) 1 (.int .u64 (c1 : Int))).fresh (k := w.heap.size + 1) (by omega) 2 (.int .i64 c2)).fresh (k := w.heap.size + 1) (by omega) 3 (.slice A us.length c)).fresh (k := w.heap.size + 1) (by omega) 4 (.int .u64 (k1 : Int))).fresh (k := w.heap.size + 1) (by omega) 5 (.int .i64 k2))
  generalize (((((w4.setCell ⟨w.heap.size + 1, 0, none⟩ (.int .i64 p1)).setCell ⟨w.heap.size + 1, 1, none⟩ (.int .u64 (c1 : Int))).setCell ⟨w.heap.size + 1, 2, none⟩ (.int .i64 c2)).setCell ⟨w.heap.size + 1, 3, none⟩ (.slice A us.length c)).setCell ⟨w.heap.size + 1, 4, none⟩ (.int .u64 (k1 : Int))).setCell ⟨w.heap.size + 1, 5, none⟩ (.int .i64 k2) = w5 at *
  have hfin2 : w5.heap[w.heap.size + 1]? = some (.cells #[.int .i64 p1, .int .u64 (c1 : Int), .int .i64 c2, .slice A us.length c, .int .u64 (k1 : Int), .int .i64 k2] 86 (0, 0)) := hfin
  have q0 : w5.cell? ⟨w.heap.size + 1, 0, none⟩ = some (.int .i64 p1) := cell_of_row _ _ 0 _ _ _ hfin2
  have q1 : w5.cell? ⟨w.heap.size + 1, 1, none⟩ = some (.int .u64 (c1 : Int)) := cell_of_row _ _ 1 _ _ _ hfin2
  have q2 : w5.cell? ⟨w.heap.size + 1, 2, none⟩ = some (.int .i64 c2) := cell_of_row _ _ 2 _ _ _ hfin2
  have q3 : w5.cell? ⟨w.heap.size + 1, 3, none⟩ = some (.slice A us.length c) := cell_of_row _ _ 3 _ _ _ hfin2
  have q4 : w5.cell? ⟨w.heap.size + 1, 4, none⟩ = some (.int .u64 (k1 : Int)) := cell_of_row _ _ 4 _ _ _ hfin2
  have q5 : w5.cell? ⟨w.heap.size + 1, 5, none⟩ = some (.int .i64 k2) := cell_of_row _ _ 5 _ _ _ hfin2
  go_wp2_with fail
  rw [HRES.out]
  refine bodyPost_ret (v := .agg #[.int .i64 p1, .int .u64 (c1 : Int), .int .i64 c2, .slice A us.length c, .int .u64 (k1 : Int), .int .i64 k2]) (by simp [results, Try.results90, go_sem, q0, q1, q2, q3, q4, q5]) rfl ⟨⟨A, c, rfl, own_low_any hown hsz2⟩, HFITS.out, hrd, hon⟩
end Go.Proofs.Ythkfgjdbgnbjkaa
