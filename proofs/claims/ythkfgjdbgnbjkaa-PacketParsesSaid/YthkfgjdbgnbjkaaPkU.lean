/- The walks of the reference's Vectors and Exchanges. -/
import Derived.Test.YthkfgjdbgnbjkaaPkH
import Derived.Lib.QuietBelow
namespace Go.Proofs.Ythkfgjdbgnbjkaa
open Go.RowKit Go.Sort
set_option linter.unusedSimpArgs false
set_option linter.unusedVariables false

theorem ext_getD {α : Type} (d : α) : ∀ (l m : List α), l.length = m.length → (∀ j, j < l.length → l.getD j d = m.getD j d) → l = m
  | [], [], _, _ => rfl
  | [], _ :: _, h, _ => by simp at h
  | _ :: _, [], h, _ => by simp at h
  | a :: l, b :: m, h, e => by
    have h0 := e 0 (by simp)
    have ih := ext_getD d l m (by simpa using h) (fun j hj => by simpa using e (j + 1) (by simpa using hj))
    simp only [List.getD_cons_zero] at h0
    rw [h0, ih]
theorem ret_dec {a b : Bool} (h : a = b) : Ending.returned (.bool a) = .returned (.bool b) := by rw [h]

set_option maxHeartbeats 1600000 in
set_option maxRecDepth 8000 in
theorem vecs_any (A B : Option Addr) (ca cb : Nat) (l m : List Nat) (w : World) (hA : PerU w A l) (hB : PerU w B m) (hl : l.length ≤ 35184372088832) :
    Calls Try.prog 74 #[.slice A l.length ca, .slice B m.length cb] w fun e w' => e = .returned (.bool (decide (l = m))) ∧ Below w.heap.size w w' := by
  by_cases hn : l.length = m.length
  · have HA := Lib.hid hA
    have HB := Lib.hid hB
    have HX := Lib.hid (ext_getD 0 l m hn)
    have HNE := Lib.hid (fun (j : Nat) (h : l.getD j 0 ≠ m.getD j 0) => show decide (l = m) = false by
      simp only [decide_eq_false_iff_not]
      rintro rfl
      exact h rfl)
    have HN := Lib.hid hn
    rw [← hn]
    clear hA hB hn
    generalize hln : l.length = n at *
    have HL := Lib.hid hln
    clear hln
    go_enter Try.func74, Try.ntmps74
    go_wp2_with fail
    go_loopw [5] (fun i wr => ∃ k : Nat, k ≤ n ∧ i = .int .i64 k ∧ Hid (∀ j, j < k → l.getD j 0 = m.getD j 0) ∧ Below w.heap.size w wr) (fun i _ => n - (intOf i).toNat)
    case atStart => exact ⟨0, by omega, rfl, fun j hj => absurd hj (by omega), Below.refl _ _⟩
    case round =>
      obtain ⟨k, hk, rfl, HE, hb⟩ := hrel
      by_cases hlt : k < n
      · obtain ⟨ad, rfl, hc⟩ := HA.out wr hb k (by rw [HL.out]; exact hlt)
        obtain ⟨bd, rfl, hd⟩ := HB.out wr hb k (by rw [← HN.out, ← HL.out] at *; omega)
        have HS := Lib.hid (fun (h : l.getD k 0 = m.getD k 0) (j : Nat) (hj : j < k + 1) => show l.getD j 0 = m.getD j 0 by
          by_cases hjk : j < k
          · exact HE.out j hjk
          · obtain rfl : j = k := by omega
            exact h)
        have HNK := Lib.hid (HNE.out k)
        clear HE
        generalize l.getD k 0 = x at *
        generalize m.getD k 0 = y at *
        go_wp2_with fail
        have g0 := fun d os => cell_regrown hc d os
        have g1 := fun d os => cell_regrown hd d os
        refine wp_region_quiet_below (by kernel_rfl) (by kernel_rfl) ?_
        repeat (quiet_step (fail))
        refine wpQuiet_nil ?_
        intro _ hw'
        obtain ⟨⟨dq, osq⟩, hw''⟩ := hw'
        subst hw''
        have hb2 := below_step hb (below_regrown wr dq osq)
        clear g0 g1 hc hd
        generalize grow (redrawn wr dq) osq = w2 at *
        by_cases hxy : x = y
        · have hne : ((x : Int) != (y : Int)) = false := by simp [hxy]
          go_wp2_with fail
          go_roundw
          case rel => exact ⟨k + 1, by omega, by go_num, HS.out hxy, hb2⟩
          case measure => simp [intOf]; omega
        · have hne : ((x : Int) != (y : Int)) = true := by simp; omega
          go_wp2_with fail
          go_ret
          exact ⟨ret_dec (HNK.out hxy).symm, hb2⟩
      · obtain rfl : k = n := by omega
        go_wp2_with fail
        go_ret
        exact ⟨ret_dec (by rw [HX.out HE.out]; simp), hb⟩
  · have hd : decide (l = m) = false := by
      simp only [decide_eq_false_iff_not]
      rintro rfl
      exact hn rfl
    have hz : ((l.length : Int) != (m.length : Int)) = true := by simp; omega
    have hz2 : decide ((l.length : Int) = (m.length : Int)) = false := by simp; omega
    rw [hd]
    go_enter Try.func74, Try.ntmps74
    go_wp2_with fail
    go_ret
    exact ⟨rfl, Below.refl _ _⟩
theorem vec_same (A B : Option Addr) (ca cb : Nat) (l : List Nat) (w : World) (hA : PerU w A l) (hB : PerU w B l) (hl : l.length ≤ 35184372088832) :
    Calls Try.prog 74 #[.slice A l.length ca, .slice B l.length cb] w fun e w' => e = .returned (.bool true) ∧ Below w.heap.size w w' := by
  refine (vecs_any A B ca cb l l w hA hB hl).mono ?_
  rintro e w' ⟨rfl, hb⟩
  exact ⟨by simp, hb⟩

set_option maxHeartbeats 1600000 in
set_option maxRecDepth 8000 in
theorem exs_same (A B : Option Addr) (ca cb : Nat) (l : List Ex) (w : World) (hA : PerX w A l) (hB : PerX w B l) (hl : l.length ≤ 1000000) (hc : ∀ x ∈ l, x.cnt.length ≤ 35184372088832) :
    Calls Try.prog 75 #[.slice A l.length ca, .slice B l.length cb] w fun e w' => e = .returned (.bool true) ∧ Below w.heap.size w w' := by
  have HA := Lib.hid hA
  have HB := Lib.hid hB
  have HC := Lib.hid hc
  clear hA hB hc
  generalize hln : l.length = n at *
  have HL := Lib.hid hln
  clear hln
  go_enter Try.func75, Try.ntmps75
  go_wp2_with fail
  go_loopw [5] (fun i wr => ∃ k : Nat, k ≤ n ∧ i = .int .i64 k ∧ Below w.heap.size w wr) (fun i _ => n - (intOf i).toNat)
  case atStart => exact ⟨0, by omega, rfl, Below.refl _ _⟩
  case round =>
    obtain ⟨k, hk, rfl, hb⟩ := hrel
    by_cases hlt : k < n
    · have hkl : k < l.length := by rw [HL.out]; exact hlt
      obtain ⟨ad, Ai, ci, rfl, hu, hc⟩ := HA.out k hkl
      obtain ⟨bd, Bi, di, rfl, hv, hd⟩ := HB.out k hkl
      obtain ⟨a0, a1, a2, a3, a4, a5⟩ := hc wr hb
      obtain ⟨b0, b1, b2, b3, b4, b5⟩ := hd wr hb
      have hmem : l.getD k .zero ∈ l := by
        simp only [List.getD, List.getElem?_eq_getElem hkl, Option.getD_some]
        exact List.getElem_mem _
      have HV := Lib.hid (fun d os => vec_same Ai Bi ci di (l.getD k .zero).cnt (grow (redrawn wr d) os) ((hu.on hb).on (below_regrown wr d os)) ((hv.on hb).on (below_regrown wr d os)) (HC.out _ hmem))
      clear hc hd hu hv hmem hkl
      generalize l.getD k .zero = x at *
      obtain ⟨xw, ⟨xe, xr⟩, xc, ⟨ks, kf⟩⟩ := x
      dsimp only at *
      go_wp2_with fail
      have g0 := fun d os => cell_regrown a0 d os
      have g1 := fun d os => cell_regrown a1 d os
      have g2 := fun d os => cell_regrown a2 d os
      have g3 := fun d os => cell_regrown a3 d os
      have g4 := fun d os => cell_regrown a4 d os
      have g5 := fun d os => cell_regrown a5 d os
      have h0 := fun d os => cell_regrown b0 d os
      have h1 := fun d os => cell_regrown b1 d os
      have h2 := fun d os => cell_regrown b2 d os
      have h3 := fun d os => cell_regrown b3 d os
      have h4 := fun d os => cell_regrown b4 d os
      have h5 := fun d os => cell_regrown b5 d os
      clear a0 a1 a2 a3 a4 a5 b0 b1 b2 b3 b4 b5
      refine wp_region_quiet_below (by kernel_rfl) (by kernel_rfl) ?_
      repeat (quiet_step (first | (go_at_call 74; exact Calls.regrown_of (HV.out _ _))))
      refine wpQuiet_nil ?_
      intro _ hw'
      obtain ⟨⟨dq, osq⟩, hw''⟩ := hw'
      subst hw''
      have hb2 := below_step hb (below_regrown wr dq osq)
      clear g0 g1 g2 g3 g4 g5 h0 h1 h2 h3 h4 h5 HV
      generalize grow (redrawn wr dq) osq = w2 at *
      go_wp2_with fail
      go_roundw
      case rel => exact ⟨k + 1, by omega, by go_num, hb2⟩
      case measure => simp [intOf]; omega
    · obtain rfl : k = n := by omega
      go_wp2_with fail
      go_ret
      exact ⟨rfl, hb⟩
end Go.Proofs.Ythkfgjdbgnbjkaa
