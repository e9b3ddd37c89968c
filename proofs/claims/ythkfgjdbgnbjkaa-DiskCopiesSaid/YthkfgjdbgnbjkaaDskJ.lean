/- The walk of DiskLast. -/
import Derived.Test.YthkfgjdbgnbjkaaDskI
import Derived.Deep.Slices
namespace Go.Proofs.Ythkfgjdbgnbjkaa
open Go.RowKit
set_option linter.unusedSimpArgs false
set_option linter.unusedVariables false

theorem add_one (a : Addr) (i : Nat) : a.add (i + 1) = ⟨(a.add i).block, (a.add i).off + 1, none⟩ := by
  rw [← Go.Deep.add_add]; rfl
theorem add_two (a : Addr) (i : Nat) : a.add (i + 2) = ⟨(a.add i).block, (a.add i).off + 2, none⟩ := by
  rw [← Go.Deep.add_add]; rfl
theorem ActsAt.at {w w' : World} {A : Option Addr} {n : Nat} {f : Nat → A8} (h : ActsAt w A n f) (hb : Below w.heap.size w w') (i : Nat) (hi : i < n) :
    ∃ ad, A = some ad ∧ w'.cell? (ad.add (i * 3)) = some (.string (f i).s) ∧ w'.cell? ⟨(ad.add (i * 3)).block, (ad.add (i * 3)).off + 1, none⟩ = some (.bool (f i).t) ∧ w'.cell? ⟨(ad.add (i * 3)).block, (ad.add (i * 3)).off + 2, none⟩ = some (.int .i64 (f i).k) := by
  obtain ⟨ad, hA, h0, h1, h2⟩ := h.kept hb i hi
  rw [add_one] at h1
  rw [add_two] at h2
  exact ⟨ad, hA, h0, h1, h2⟩
theorem str_eq {a b : ByteArray} (h : a = b) : Value.string a = .string b := by rw [h]
theorem bool_eq {a b : Bool} (h : a = b) : Value.bool a = .bool b := by rw [h]

theorem step_cases (X Y s : ByteArray) (t : Bool) (kp : Int) (hN : nN X Y + 1 < 18446744073709551616) :
    (8192 < s.size ∧ actE s = 3 ∧ actX X Y s t kp = X ∧ actY X Y s t kp = Y) ∨
    (s.size ≤ 8192 ∧ actE s = 0 ∧ t = true ∧ nAt (actX X Y s t kp) (actY X Y s t kp) = nAt X Y ∧ nR (actX X Y s t kp) (actY X Y s t kp) = nR X Y ∧ nN (actX X Y s t kp) (actY X Y s t kp) = nN X Y) ∨
    (s.size ≤ 8192 ∧ actE s = 0 ∧ t = false ∧ decide (0 ≤ nAt (actX X Y s t kp) (actY X Y s t kp)) = true ∧ nR (actX X Y s t kp) (actY X Y s t kp) = s ∧ nN (actX X Y s t kp) (actY X Y s t kp) = nN X Y + 1) := by
  by_cases hs : 8192 < s.size
  · have he : actE s = 3 := by unfold actE; rw [if_pos hs]
    exact .inl ⟨hs, he, act_big X Y s t kp hs⟩
  · have he : actE s = 0 := by unfold actE; rw [if_neg hs]
    have hs' := Nat.le_of_not_lt hs
    cases t with
    | true => exact .inr (.inl ⟨hs', he, rfl, tear_newest X Y s hs' kp⟩)
    | false =>
      obtain ⟨h1, h2, h3⟩ := write_newest X Y s hs' hN kp
      refine .inr (.inr ⟨hs', he, rfl, ?_, h2, h3⟩)
      rcases nAt_range (actX X Y s false kp) (actY X Y s false kp) with h | h | h
      · exact absurd h h1
      · rw [h]; rfl
      · rw [h]; rfl

set_option maxHeartbeats 1600000 in
theorem last_walk (A : Option Addr) (n c : Nat) (f : Nat → A8) (w : World) (h : ActsAt w A n f) (hn : n ≤ maxLen) :
    Calls Try.prog 14 #[.slice A n c] w fun e w' => e = .returned (.bool true) ∧ Below w.heap.size w w' := by
  have HA := Lib.hid h
  have HF := Lib.hid (fun W (hW : ActsAt W A n f) => few_any A n c f W hW hn)
  unfold maxLen at hn
  clear h
  go_enter Try.func14, Try.ntmps14
  go_wp2_with fail
  refine (awake08 w).mono ?_
  rintro e w1 ⟨rfl, hb1⟩
  go_wp2_with fail
  refine (HF.out w1 (HA.out.kept hb1)).mono ?_
  rintro e w2 ⟨rfl | ⟨rfl, h200⟩, rfl⟩
  · go_wp2_with fail
    go_ret
    exact ⟨rfl, hb1⟩
  clear HF
  go_wp2_with fail
  refine (dnew_any w1).mono ?_
  rintro e w2 ⟨rfl, hd2, hb2⟩
  have hbl2 := below_step hb1 hb2
  have hgw := hb1.size
  generalize w1.heap.size = g at *
  clear hb1 hb2 w1
  have HD := Lib.hid hd2
  clear hd2
  go_wp2_with fail
  go_loopw [4, 5, 6] (fun l b i wr => ∃ (k : Nat) (X Y : ByteArray), k ≤ n ∧ i = .int .i64 k ∧ l = .string (nR X Y) ∧ b = .bool (decide (0 ≤ nAt X Y)) ∧ nN X Y ≤ k ∧ X.size ≤ 10000 ∧ Y.size ≤ 10000 ∧ Hid (DskAt wr g X Y) ∧ Below w.heap.size w wr) (fun _ _ i _ => n - (intOf i).toNat)
  case atStart =>
    obtain ⟨n1, n2, n3⟩ := nil_none
    exact ⟨0, ⟨#[]⟩, ⟨#[]⟩, Nat.zero_le _, rfl, str_eq n2.symm, bool_eq (by rw [n1]; rfl), by rw [n3]; omega, Nat.zero_le _, Nat.zero_le _, HD, hbl2⟩
  case round =>
    obtain ⟨k, X, Y, hk, rfl, rfl, rfl, hN, hX, hY, hD, hB⟩ := hrel
    by_cases hlt : k < n
    · obtain ⟨ad, rfl, h0, h1, h2⟩ := HA.out.at hB k hlt
      have HO := Lib.hid (fun W (hW : DskAt W g X Y) => do_any g X Y (f k) W hW (by omega) (by omega))
      generalize f k = a at *
      obtain ⟨s, t, kp⟩ := a
      have hgK : g < wr.heap.size := World.block_lt_of_cell? wr ⟨g, 0, none⟩ hD.out.1
      obtain ⟨z1, z2⟩ := act_size X Y s t kp hX hY
      have hst := step_cases X Y s t kp (by omega)
      go_wp2_with fail
      refine (HO.out _ (hD.out.kept (below_alloc (Below.refl _ _) _))).mono ?_
      rintro e w3 ⟨rfl, hd3, ho3⟩
      have hB3 := ho3.below (below_alloc hB _) (below_alloc hB _).size hgw
      have c0 : w3.cell? ⟨wr.heap.size, 0, none⟩ = some (.string s) := ho3.cell (cell_top rfl rfl) (by simp; omega)
      have c1 : w3.cell? ⟨wr.heap.size, 1, none⟩ = some (.bool t) := ho3.cell (cell_top rfl rfl) (by simp; omega)
      have c2 : w3.cell? ⟨wr.heap.size, 2, none⟩ = some (.int .i64 kp) := ho3.cell (cell_top rfl rfl) (by simp; omega)
      generalize actX X Y s t kp = X' at *
      generalize actY X Y s t kp = Y' at *
      have HR := Lib.hid (dread_any g X' Y' w3 hd3 (by omega) (by omega))
      have HD3 := Lib.hid hd3
      clear hd3 ho3 HO h0 h1 h2 HA hD
      rcases hst with ⟨h1, h2, rfl, rfl⟩ | ⟨h1, h2, rfl, h4, h5, h6⟩ | ⟨h1, h2, rfl, h4, h5, h6⟩
      · have hd : decide (8192 < (s.size : Int)) = true := by simp; omega
        rw [h2]
        go_wp2_with fail
        refine HR.out.mono ?_
        rintro e w4 ⟨rfl, hb4⟩
        have HD4 := Lib.hid (HD3.out.kept hb4)
        have hB4 := below_step hB3 hb4
        clear hb4
        go_wp2_with fail
        go_roundw
        case rel => exact ⟨k + 1, X', Y', by omega, by go_num, rfl, rfl, by omega, hX, hY, HD4, hB4⟩
        case measure => simp [intOf]; omega
      · have hd : decide (8192 < (s.size : Int)) = false := by simp; omega
        rw [h2]
        go_wp2_with fail
        refine HR.out.mono ?_
        rw [h4, h5]
        rintro e w4 ⟨rfl, hb4⟩
        have HD4 := Lib.hid (HD3.out.kept hb4)
        have hB4 := below_step hB3 hb4
        clear hb4
        go_wp2_with fail
        go_roundw
        case rel => exact ⟨k + 1, X', Y', by omega, by go_num, str_eq h5.symm, bool_eq (by rw [h4]), by omega, z1, z2, HD4, hB4⟩
        case measure => simp [intOf]; omega
      · have hd : decide (8192 < (s.size : Int)) = false := by simp; omega
        rw [h2]
        go_wp2_with fail
        refine HR.out.mono ?_
        rw [h4, h5]
        rintro e w4 ⟨rfl, hb4⟩
        have HD4 := Lib.hid (HD3.out.kept hb4)
        have hB4 := below_step hB3 hb4
        clear hb4
        go_wp2_with fail
        go_roundw
        case rel => exact ⟨k + 1, X', Y', by omega, by go_num, str_eq h5.symm, bool_eq (by rw [h4]), by omega, z1, z2, HD4, hB4⟩
        case measure => simp [intOf]; omega
    · obtain rfl : k = n := by omega
      go_wp2_with fail
      go_ret
      exact ⟨rfl, hB⟩
end Go.Proofs.Ythkfgjdbgnbjkaa
