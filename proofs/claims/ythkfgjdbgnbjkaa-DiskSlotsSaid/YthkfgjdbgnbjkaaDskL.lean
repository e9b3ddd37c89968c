/- The walk of DiskSlots. -/
import Derived.Test.YthkfgjdbgnbjkaaDskJ
namespace Go.Proofs.Ythkfgjdbgnbjkaa
open Go.RowKit
set_option linter.unusedSimpArgs false
set_option linter.unusedVariables false

/-- a step, as DiskSlots sees it. -/
theorem slot_step (X Y s : ByteArray) (t : Bool) (kp : Int) :
    (actE s = 3 ∧ actX X Y s t kp = X ∧ actY X Y s t kp = Y) ∨ (actE s = 0 ∧ (actX X Y s t kp = X ∨ actY X Y s t kp = Y) ∧ (t = true → nAt (actX X Y s t kp) (actY X Y s t kp) = nAt X Y ∧ nR (actX X Y s t kp) (actY X Y s t kp) = nR X Y)) := by
  by_cases hs : 8192 < s.size
  · have he : actE s = 3 := by unfold actE; rw [if_pos hs]
    exact .inl ⟨he, act_big X Y s t kp hs⟩
  · have he : actE s = 0 := by unfold actE; rw [if_neg hs]
    refine .inr ⟨he, one_slot X Y s t kp, ?_⟩
    rintro rfl
    obtain ⟨h1, h2, _⟩ := tear_newest X Y s (Nat.le_of_not_lt hs) kp
    exact ⟨h1, h2⟩

set_option maxHeartbeats 1600000 in
set_option maxRecDepth 8000 in
theorem slots_walk (A : Option Addr) (n c : Nat) (f : Nat → A8) (w : World) (h : ActsAt w A n f) (hn : n ≤ maxLen) :
    Calls Try.prog 15 #[.slice A n c] w fun e w' => e = .returned (.bool true) ∧ Below w.heap.size w w' := by
  have HA := Lib.hid h
  have HF := Lib.hid (fun W (hW : ActsAt W A n f) => few_any A n c f W hW hn)
  unfold maxLen at hn
  clear h
  go_enter Try.func15, Try.ntmps15
  go_wp2_with fail
  refine (awake08 w).mono ?_
  rintro e w1 ⟨rfl, hb1⟩
  go_wp2_with fail
  refine (HF.out w1 (HA.out.kept hb1)).mono ?_
  rintro e w2 ⟨rfl | ⟨rfl, h200⟩, rfl⟩
  · go_wp2_with fail
    go_ret
    exact ⟨rfl, hb1⟩
  clear HF
  go_wp2_with fail
  refine (dnew_any w1).mono ?_
  rintro e w2 ⟨rfl, hd2, hb2⟩
  have hbl2 := below_step hb1 hb2
  have hgw := hb1.size
  generalize w1.heap.size = g at *
  clear hb1 hb2 w1
  have HD := Lib.hid hd2
  clear hd2
  go_wp2_with fail
  go_loopw [4] (fun i wr => ∃ (k : Nat) (X Y : ByteArray), k ≤ n ∧ i = .int .i64 k ∧ X.size ≤ 10000 ∧ Y.size ≤ 10000 ∧ Hid (DskAt wr g X Y) ∧ Below w.heap.size w wr) (fun i _ => n - (intOf i).toNat)
  case atStart =>
    exact ⟨0, ⟨#[]⟩, ⟨#[]⟩, Nat.zero_le _, rfl, Nat.zero_le _, Nat.zero_le _, HD, hbl2⟩
  case round =>
    obtain ⟨k, X, Y, hk, rfl, hX, hY, hD, hB⟩ := hrel
    by_cases hlt : k < n
    · have HS0 := Lib.hid (fun W (hW : DskAt W g X Y) => slot0_any g X Y W hW)
      have HS1 := Lib.hid (fun W (hW : DskAt W g X Y) => slot1_any g X Y W hW)
      have HR0 := Lib.hid (fun W (hW : DskAt W g X Y) => dread_any g X Y W hW (by omega) (by omega))
      have HO := Lib.hid (fun W (hW : DskAt W g X Y) => do_any g X Y (f k) W hW (by omega) (by omega))
      go_wp2_with fail
      refine (HS0.out _ hD.out).mono ?_
      rintro e w2 ⟨rfl, rfl⟩
      go_wp2_with fail
      refine (HS1.out _ hD.out).mono ?_
      rintro e w2 ⟨rfl, rfl⟩
      go_wp2_with fail
      refine (HR0.out _ hD.out).mono ?_
      rintro e w3 ⟨rfl, hb3⟩
      have HD3 := Lib.hid (hD.out.kept hb3)
      have hB3 := below_step hB hb3
      clear hb3 hB hD HS0 HS1 HR0
      obtain ⟨ad, rfl, h0, h1, h2⟩ := HA.out.at hB3 k hlt
      generalize hfk : f k = a at *
      obtain ⟨s, t, kp⟩ := a
      obtain ⟨z1, z2⟩ := act_size X Y s t kp hX hY
      have hst := slot_step X Y s t kp
      go_wp2_with fail
      refine (HO.out _ HD3.out).mono ?_
      rintro e w4 ⟨rfl, hd4, ho4⟩
      have hB4 := ho4.below hB3 hB3.size hgw
      have h1 : w4.cell? ⟨(ad.add (k * 3)).block, (ad.add (k * 3)).off + 1, none⟩ = some (.bool t) := by
        obtain ⟨ad', hA', _, g1, _⟩ := HA.out.at hB4 k hlt
        cases hA'
        rw [hfk] at g1
        exact g1
      clear hfk
      generalize actX X Y s t kp = X' at *
      generalize actY X Y s t kp = Y' at *
      have HS0 := Lib.hid (fun W (hW : DskAt W g X' Y') => slot0_any g X' Y' W hW)
      have HS1 := Lib.hid (fun W (hW : DskAt W g X' Y') => slot1_any g X' Y' W hW)
      have HR := Lib.hid (fun W (hW : DskAt W g X' Y') => dread_any g X' Y' W hW (by omega) (by omega))
      have HD4 := Lib.hid hd4
      clear hd4 ho4 hB3 HD3 HO HA
      rcases hst with ⟨he, rfl, rfl⟩ | ⟨he, hxy, ht⟩
      · rw [he]
        cases t with
          | true =>
            go_wp2_with fail
            refine (HS0.out _ HD4.out).mono ?_
            rintro e w5 ⟨rfl, rfl⟩
            go_wp2_with fail
            refine (HS0.out _ HD4.out).mono ?_
            rintro e w5 ⟨rfl, rfl⟩
            go_wp2_with fail
            refine (HS1.out _ HD4.out).mono ?_
            rintro e w5 ⟨rfl, rfl⟩
            go_wp2_with fail
            refine (HR.out _ HD4.out).mono ?_
            rintro e w5 ⟨rfl, hb5⟩
            have HD5 := Lib.hid (HD4.out.kept hb5)
            have hB5 := below_step hB4 hb5
            have g1 : w5.cell? ⟨(ad.add (k * 3)).block, (ad.add (k * 3)).off + 1, none⟩ = some (.bool true) := cell_keep h1 hb5
            clear hb5 h1
            go_wp2_with fail
            go_roundw
            case rel => exact ⟨k + 1, _, _, by omega, by go_num, z1, z2, HD5, hB5⟩
            case measure => simp [intOf]; omega
          | false =>
            go_wp2_with fail
            refine (HS0.out _ HD4.out).mono ?_
            rintro e w5 ⟨rfl, rfl⟩
            go_wp2_with fail
            refine (HS0.out _ HD4.out).mono ?_
            rintro e w5 ⟨rfl, rfl⟩
            go_wp2_with fail
            refine (HS1.out _ HD4.out).mono ?_
            rintro e w5 ⟨rfl, rfl⟩
            go_wp2_with fail
            refine (HR.out _ HD4.out).mono ?_
            rintro e w5 ⟨rfl, hb5⟩
            have HD5 := Lib.hid (HD4.out.kept hb5)
            have hB5 := below_step hB4 hb5
            have g1 : w5.cell? ⟨(ad.add (k * 3)).block, (ad.add (k * 3)).off + 1, none⟩ = some (.bool false) := cell_keep h1 hb5
            clear hb5 h1
            go_wp2_with fail
            go_roundw
            case rel => exact ⟨k + 1, _, _, by omega, by go_num, z1, z2, HD5, hB5⟩
            case measure => simp [intOf]; omega
      · rw [he]
        by_cases hx : X' = X
        · subst hx
          clear hxy
          cases t with
          | true =>
            obtain ⟨t1, t2⟩ := ht rfl
            clear ht
            go_wp2_with fail
            refine (HS0.out _ HD4.out).mono ?_
            rintro e w5 ⟨rfl, rfl⟩
            go_wp2_with fail
            refine (HR.out _ HD4.out).mono ?_
            rw [t1, t2]
            rintro e w5 ⟨rfl, hb5⟩
            have HD5 := Lib.hid (HD4.out.kept hb5)
            have hB5 := below_step hB4 hb5
            have g1 : w5.cell? ⟨(ad.add (k * 3)).block, (ad.add (k * 3)).off + 1, none⟩ = some (.bool true) := cell_keep h1 hb5
            clear hb5 h1
            go_wp2_with fail
            go_roundw
            case rel => exact ⟨k + 1, _, _, by omega, by go_num, z1, z2, HD5, hB5⟩
            case measure => simp [intOf]; omega
          | false =>
            clear ht
            go_wp2_with fail
            refine (HS0.out _ HD4.out).mono ?_
            rintro e w5 ⟨rfl, rfl⟩
            go_wp2_with fail
            refine (HR.out _ HD4.out).mono ?_
            rintro e w5 ⟨rfl, hb5⟩
            have HD5 := Lib.hid (HD4.out.kept hb5)
            have hB5 := below_step hB4 hb5
            have g1 : w5.cell? ⟨(ad.add (k * 3)).block, (ad.add (k * 3)).off + 1, none⟩ = some (.bool false) := cell_keep h1 hb5
            clear hb5 h1
            go_wp2_with fail
            go_roundw
            case rel => exact ⟨k + 1, _, _, by omega, by go_num, z1, z2, HD5, hB5⟩
            case measure => simp [intOf]; omega
        · obtain rfl : Y' = Y := hxy.resolve_left hx
          have hne : ¬ X'.toList = X.toList := fun h => hx (WideShapes.bytes_inj (by rw [ByteArray.toList_eq, ByteArray.toList_eq] at h; exact h))
          clear hxy
          cases t with
          | true =>
            obtain ⟨t1, t2⟩ := ht rfl
            clear ht
            go_wp2_with fail
            refine (HS0.out _ HD4.out).mono ?_
            rintro e w5 ⟨rfl, rfl⟩
            go_wp2_with fail
            refine (HS1.out _ HD4.out).mono ?_
            rintro e w5 ⟨rfl, rfl⟩
            go_wp2_with fail
            refine (HR.out _ HD4.out).mono ?_
            rw [t1, t2]
            rintro e w5 ⟨rfl, hb5⟩
            have HD5 := Lib.hid (HD4.out.kept hb5)
            have hB5 := below_step hB4 hb5
            have g1 : w5.cell? ⟨(ad.add (k * 3)).block, (ad.add (k * 3)).off + 1, none⟩ = some (.bool true) := cell_keep h1 hb5
            clear hb5 h1
            go_wp2_with fail
            go_roundw
            case rel => exact ⟨k + 1, _, _, by omega, by go_num, z1, z2, HD5, hB5⟩
            case measure => simp [intOf]; omega
          | false =>
            clear ht
            go_wp2_with fail
            refine (HS0.out _ HD4.out).mono ?_
            rintro e w5 ⟨rfl, rfl⟩
            go_wp2_with fail
            refine (HS1.out _ HD4.out).mono ?_
            rintro e w5 ⟨rfl, rfl⟩
            go_wp2_with fail
            refine (HR.out _ HD4.out).mono ?_
            rintro e w5 ⟨rfl, hb5⟩
            have HD5 := Lib.hid (HD4.out.kept hb5)
            have hB5 := below_step hB4 hb5
            have g1 : w5.cell? ⟨(ad.add (k * 3)).block, (ad.add (k * 3)).off + 1, none⟩ = some (.bool false) := cell_keep h1 hb5
            clear hb5 h1
            go_wp2_with fail
            go_roundw
            case rel => exact ⟨k + 1, _, _, by omega, by go_num, z1, z2, HD5, hB5⟩
            case measure => simp [intOf]; omega
    · obtain rfl : k = n := by omega
      go_wp2_with fail
      go_ret
      exact ⟨rfl, hB⟩
end Go.Proofs.Ythkfgjdbgnbjkaa
