/- The walk of DiskPlays. -/
import Derived.Test.YthkfgjdbgnbjkaaDskJ
import Derived.Lib.QuietBelow
namespace Go.Proofs.Ythkfgjdbgnbjkaa
open Go.RowKit Go.Sort
set_option linter.unusedSimpArgs false
set_option linter.unusedVariables false

theorem DskAt.only {w w1 w' : World} {g m : Nat} {x y : ByteArray} (h : DskAt w m x y) (hb : Below w.heap.size w w1) (ho : Only g w1 w') (hne : g ≠ m) : DskAt w' m x y := by
  have h1 := h.kept hb
  have hl := World.block_lt_of_cell? w1 _ h1.1
  have e : w'.heap[m]? = w1.heap[m]? := ho.block m hl (by simpa using fun e => hne e.symm)
  exact ⟨(World.cell?_of_block (w := w1) e).trans h1.1, (World.cell?_of_block (w := w1) e).trans h1.2.1, (World.frozen?_of_block (w := w1) e).trans h1.2.2.1, (World.frozen?_of_block (w := w1) e).trans h1.2.2.2⟩

theorem DskAt.other {w : World} {g : Nat} {x y : ByteArray} (h : DskAt w g x y) (m j : Nat) (v : Value) (hne : g ≠ m) : DskAt (w.setCell ⟨m, j, none⟩ v) g x y :=
  ⟨(World.cell?_setCell_other w ⟨m, j, none⟩ ⟨g, 0, none⟩ _ (by simp [hne])).trans h.1, (World.cell?_setCell_other w ⟨m, j, none⟩ ⟨g, 1, none⟩ _ (by simp [hne])).trans h.2.1, by rw [World.frozen?_setCell]; exact h.2.2.1, by rw [World.frozen?_setCell]; exact h.2.2.2⟩
theorem slot0_b (g : Nat) (x y : ByteArray) (w : World) (h : DskAt w g x y) :
    Calls Try.prog 41 #[.pointer (some ⟨g, 0, none⟩), .int .i64 0] w fun e w' => e = .returned (.string x) ∧ Below w.heap.size w w' :=
  (slot0_any g x y w h).mono (by rintro e w' ⟨rfl, rfl⟩; exact ⟨rfl, Below.refl _ _⟩)
theorem slot1_b (g : Nat) (x y : ByteArray) (w : World) (h : DskAt w g x y) :
    Calls Try.prog 41 #[.pointer (some ⟨g, 0, none⟩), .int .i64 1] w fun e w' => e = .returned (.string y) ∧ Below w.heap.size w w' :=
  (slot1_any g x y w h).mono (by rintro e w' ⟨rfl, rfl⟩; exact ⟨rfl, Below.refl _ _⟩)
theorem slotN_b (g : Nat) (i : Int) (w : World) (h : i < 0 ∨ 2 ≤ i) :
    Calls Try.prog 41 #[.pointer (some ⟨g, 0, none⟩), .int .i64 i] w fun e w' => e = .returned (.string ⟨#[]⟩) ∧ Below w.heap.size w w' :=
  (slotN_any g i w h).mono (by rintro e w' ⟨rfl, rfl⟩; exact ⟨rfl, Below.refl _ _⟩)

set_option maxHeartbeats 3200000 in
set_option maxRecDepth 8000 in
theorem plays_walk (A : Option Addr) (n c : Nat) (f : Nat → A8) (w : World) (h : ActsAt w A n f) (hn : n ≤ maxLen) :
    Calls Try.prog 13 #[.slice A n c] w fun e w' => e = .returned (.bool true) ∧ Below w.heap.size w w' := by
  have HA := Lib.hid h
  have HF := Lib.hid (fun W (hW : ActsAt W A n f) => few_any A n c f W hW hn)
  unfold maxLen at hn
  clear h
  go_enter Try.func13, Try.ntmps13
  go_wp2_with fail
  refine (awake08 w).mono ?_
  rintro e w1 ⟨rfl, hb1⟩
  go_wp2_with fail
  refine (HF.out w1 (HA.out.kept hb1)).mono ?_
  rintro e w2 ⟨rfl | ⟨rfl, h200⟩, rfl⟩
  · go_wp2_with fail
    go_ret
    exact ⟨rfl, hb1⟩
  clear HF
  go_wp2_with fail
  refine (dnew_any w1).mono ?_
  rintro e w2 ⟨rfl, hd2, hb2⟩
  have hbl2 := below_step hb1 hb2
  have hgw := hb1.size
  have hgm : w1.heap.size < w2.heap.size := World.block_lt_of_cell? w2 ⟨w1.heap.size, 0, none⟩ hd2.1
  generalize w1.heap.size = g at *
  clear hb1 hb2 w1
  have HD := Lib.hid (hd2.kept (below_alloc (Below.refl _ _) (.cells #[.string ⟨#[]⟩, .string ⟨#[]⟩] 54)))
  have HM : Hid (DskAt (w2.alloc (.cells #[.string ⟨#[]⟩, .string ⟨#[]⟩] 54)) w2.heap.size ⟨#[]⟩ ⟨#[]⟩) := ⟨by simp, by simp, by simp, by simp⟩
  have hblm := below_alloc hbl2 (.cells #[.string ⟨#[]⟩, .string ⟨#[]⟩] 54)
  have hgw2 : w.heap.size ≤ w2.heap.size := hbl2.size
  clear hd2
  go_wp2_with fail
  generalize w2.heap.size = m at *
  generalize (w2.alloc (.cells #[.string ⟨#[]⟩, .string ⟨#[]⟩] 54)) = w3 at *
  clear hbl2 w2
  go_loopw [5] (fun i wr => ∃ (k : Nat) (X Y : ByteArray), k ≤ n ∧ i = .int .i64 k ∧ X.size ≤ 10000 ∧ Y.size ≤ 10000 ∧ Hid (DskAt wr g X Y) ∧ Hid (DskAt wr m X Y) ∧ Below w.heap.size w wr) (fun i _ => n - (intOf i).toNat)
  case atStart =>
    exact ⟨0, ⟨#[]⟩, ⟨#[]⟩, Nat.zero_le _, rfl, Nat.zero_le _, Nat.zero_le _, HD, HM, hblm⟩
  case round =>
    obtain ⟨k, X, Y, hk, rfl, hX, hY, hD, hM, hB⟩ := hrel
    by_cases hlt : k < n
    · obtain ⟨ad, rfl, h0, h1, h2⟩ := HA.out.at hB k hlt
      have HO := Lib.hid (fun W (hW : DskAt W g X Y) => do_any g X Y (f k) W hW (by omega) (by omega))
      generalize f k = a at *
      obtain ⟨s, t, kp⟩ := a
      have hgK : g < wr.heap.size := World.block_lt_of_cell? wr ⟨g, 0, none⟩ hD.out.1
      have hmK : m < wr.heap.size := World.block_lt_of_cell? wr ⟨m, 0, none⟩ hM.out.1
      obtain ⟨z1, z2⟩ := act_size X Y s t kp hX hY
      go_wp2_with fail
      refine (HO.out _ (hD.out.kept (below_alloc (Below.refl _ _) _))).mono ?_
      rintro e w4 ⟨rfl, hd4, ho4⟩
      have hB4 := ho4.below (below_alloc hB _) (below_alloc hB _).size hgw
      have c0 : w4.cell? ⟨wr.heap.size, 0, none⟩ = some (.string s) := ho4.cell (cell_top rfl rfl) (by simp; omega)
      have c1 : w4.cell? ⟨wr.heap.size, 1, none⟩ = some (.bool t) := ho4.cell (cell_top rfl rfl) (by simp; omega)
      have c2 : w4.cell? ⟨wr.heap.size, 2, none⟩ = some (.int .i64 kp) := ho4.cell (cell_top rfl rfl) (by simp; omega)
      have hM4 := hM.out.only (below_alloc (Below.refl _ _) _) ho4 (by omega)
      have HC1 := Lib.hid (fun W => rtear_any X Y s W (by omega) (by omega) kp)
      have HC2 := Lib.hid (fun W => rwrite_any X Y s W (by omega) (by omega) kp)
      have HD4 := Lib.hid hd4
      have HM4 := Lib.hid hM4
      obtain ⟨n0, n1, n2, n3⟩ := hM4
      clear hd4 ho4 HO h0 h1 h2 HA hD hM hB
      cases t with
      | true =>
        clear HC2
        have HC := HC1
        clear HC1
        generalize actX X Y s true kp = X' at *
        generalize actY X Y s true kp = Y' at *
        generalize actE s = ee at *
        have HS0 := Lib.hid (fun W (hW : DskAt W g X' Y') => slot0_b g X' Y' W hW)
        have HS1 := Lib.hid (fun W (hW : DskAt W g X' Y') => slot1_b g X' Y' W hW)
        have HSN := Lib.hid (fun W => slotN_b g (-1) W (.inl (by omega)))
        have HR := Lib.hid (fun W (hW : DskAt W g X' Y') => dread_any g X' Y' W hW (by omega) (by omega))
        have HRR := Lib.hid (fun W => rread_any X' Y' W (by omega) (by omega))
        go_wp2_with fail
        refine (HC.out _).mono ?_
        rintro e w5 ⟨rfl, hb5⟩
        have HD5 := Lib.hid (HD4.out.kept hb5)
        have hm5 := HM4.out.kept hb5
        have hB5 := below_step hB4 hb5
        clear hb5 c0 c1 c2 n0 n1 n2 n3 HM4 HD4 hB4
        have HD6 := Lib.hid ((HD5.out.other m 0 (.string X') (by omega)).other m 1 (.string Y') (by omega))
        have HM6 := Lib.hid ((hm5.set0 X').set1 Y')
        have hB6 := (hB5.setCell (p := ⟨m, 0, none⟩) hgw2 (.string X')).setCell (p := ⟨m, 1, none⟩) hgw2 (.string Y')
        obtain ⟨m0, m1, m2, m3⟩ := hm5
        go_wp2_with fail
        generalize (w5.setCell ⟨m, 0, none⟩ (.string X')).setCell ⟨m, 1, none⟩ (.string Y') = w6 at *
        clear m0 m1 m2 m3 hB5 HD5 w5
        refine (HR.out _ HD6.out).mono ?_
        rintro e w7 ⟨rfl, hb7⟩
        have HD7 := Lib.hid (HD6.out.kept hb7)
        have hm7 := HM6.out.kept hb7
        have HM7 := Lib.hid hm7
        have hB7 := below_step hB6 hb7
        clear hb7 hB6 HD6 HM6
        obtain ⟨m0, m1, m2, m3⟩ := hm7
        go_wp2_with fail
        refine (HRR.out _).mono ?_
        rintro e w8 ⟨rfl, hb8⟩
        have HD8 := Lib.hid (HD7.out.kept hb8)
        have HM8 := Lib.hid (HM7.out.kept hb8)
        have hB8 := below_step hB7 hb8
        clear hb8 hB7 HD7 HM7 m0 m1 m2 m3
        go_wp2_with fail
        have hG := Lib.hid (fun d os => HD8.out.kept (below_regrown w8 d os))
        have g0 := fun d os => cell_regrown HM8.out.1 d os
        have g1 := fun d os => cell_regrown HM8.out.2.1 d os
        refine wp_region_quiet_below (by kernel_rfl) (by kernel_rfl) ?_
        repeat (quiet_step (first | (go_at_call 41; with_reducible exact Calls.regrown_of (HS0.out _ (hG.out _ _))) | (go_at_call 41; with_reducible exact Calls.regrown_of (HS1.out _ (hG.out _ _))) | (go_at_call 41; with_reducible exact Calls.regrown_of (HSN.out _))))
        refine wpQuiet_nil ?_
        intro _ hw'
        obtain ⟨⟨dq, osq⟩, hw''⟩ := hw'
        subst hw''
        clear g0 g1 hG
        have hb9 := below_regrown w8 dq osq
        have HD9 := Lib.hid (HD8.out.kept hb9)
        have HM9 := Lib.hid (HM8.out.kept hb9)
        have hB9 := below_step hB8 hb9
        clear hb9 HD8 HM8 hB8
        generalize grow (redrawn w8 dq) osq = w9 at *
        clear w8
        go_wp2_with fail
        go_roundw
        case rel => exact ⟨k + 1, X', Y', by omega, by go_num, z1, z2, HD9, HM9, hB9⟩
        case measure => simp [intOf]; omega
      | false =>
        clear HC1
        have HC := HC2
        clear HC2
        generalize actX X Y s false kp = X' at *
        generalize actY X Y s false kp = Y' at *
        generalize actE s = ee at *
        have HS0 := Lib.hid (fun W (hW : DskAt W g X' Y') => slot0_b g X' Y' W hW)
        have HS1 := Lib.hid (fun W (hW : DskAt W g X' Y') => slot1_b g X' Y' W hW)
        have HSN := Lib.hid (fun W => slotN_b g (-1) W (.inl (by omega)))
        have HR := Lib.hid (fun W (hW : DskAt W g X' Y') => dread_any g X' Y' W hW (by omega) (by omega))
        have HRR := Lib.hid (fun W => rread_any X' Y' W (by omega) (by omega))
        go_wp2_with fail
        refine (HC.out _).mono ?_
        rintro e w5 ⟨rfl, hb5⟩
        have HD5 := Lib.hid (HD4.out.kept hb5)
        have hm5 := HM4.out.kept hb5
        have hB5 := below_step hB4 hb5
        clear hb5 c0 c1 c2 n0 n1 n2 n3 HM4 HD4 hB4
        have HD6 := Lib.hid ((HD5.out.other m 0 (.string X') (by omega)).other m 1 (.string Y') (by omega))
        have HM6 := Lib.hid ((hm5.set0 X').set1 Y')
        have hB6 := (hB5.setCell (p := ⟨m, 0, none⟩) hgw2 (.string X')).setCell (p := ⟨m, 1, none⟩) hgw2 (.string Y')
        obtain ⟨m0, m1, m2, m3⟩ := hm5
        go_wp2_with fail
        generalize (w5.setCell ⟨m, 0, none⟩ (.string X')).setCell ⟨m, 1, none⟩ (.string Y') = w6 at *
        clear m0 m1 m2 m3 hB5 HD5 w5
        refine (HR.out _ HD6.out).mono ?_
        rintro e w7 ⟨rfl, hb7⟩
        have HD7 := Lib.hid (HD6.out.kept hb7)
        have hm7 := HM6.out.kept hb7
        have HM7 := Lib.hid hm7
        have hB7 := below_step hB6 hb7
        clear hb7 hB6 HD6 HM6
        obtain ⟨m0, m1, m2, m3⟩ := hm7
        go_wp2_with fail
        refine (HRR.out _).mono ?_
        rintro e w8 ⟨rfl, hb8⟩
        have HD8 := Lib.hid (HD7.out.kept hb8)
        have HM8 := Lib.hid (HM7.out.kept hb8)
        have hB8 := below_step hB7 hb8
        clear hb8 hB7 HD7 HM7 m0 m1 m2 m3
        go_wp2_with fail
        have hG := Lib.hid (fun d os => HD8.out.kept (below_regrown w8 d os))
        have g0 := fun d os => cell_regrown HM8.out.1 d os
        have g1 := fun d os => cell_regrown HM8.out.2.1 d os
        refine wp_region_quiet_below (by kernel_rfl) (by kernel_rfl) ?_
        repeat (quiet_step (first | (go_at_call 41; with_reducible exact Calls.regrown_of (HS0.out _ (hG.out _ _))) | (go_at_call 41; with_reducible exact Calls.regrown_of (HS1.out _ (hG.out _ _))) | (go_at_call 41; with_reducible exact Calls.regrown_of (HSN.out _))))
        refine wpQuiet_nil ?_
        intro _ hw'
        obtain ⟨⟨dq, osq⟩, hw''⟩ := hw'
        subst hw''
        clear g0 g1 hG
        have hb9 := below_regrown w8 dq osq
        have HD9 := Lib.hid (HD8.out.kept hb9)
        have HM9 := Lib.hid (HM8.out.kept hb9)
        have hB9 := below_step hB8 hb9
        clear hb9 HD8 HM8 hB8
        generalize grow (redrawn w8 dq) osq = w9 at *
        clear w8
        go_wp2_with fail
        go_roundw
        case rel => exact ⟨k + 1, X', Y', by omega, by go_num, z1, z2, HD9, HM9, hB9⟩
        case measure => simp [intOf]; omega
    · obtain rfl : k = n := by omega
      go_wp2_with fail
      go_ret
      exact ⟨rfl, hB⟩
end Go.Proofs.Ythkfgjdbgnbjkaa
