/- The walk of DiskCopies. -/
import Derived.Test.YthkfgjdbgnbjkaaDskM2
namespace Go.Proofs.Ythkfgjdbgnbjkaa
open Go.RowKit Go.Sort
set_option linter.unusedSimpArgs false
set_option linter.unusedVariables false

/-- the two slots behind acts a, .., a + j - 1. -/
def runXY (f : Nat → A8) (a : Nat) (X Y : ByteArray) : Nat → ByteArray × ByteArray
  | 0 => (X, Y)
  | j + 1 => (actX (runXY f a X Y j).1 (runXY f a X Y j).2 (f (a + j)).s (f (a + j)).t (f (a + j)).k, actY (runXY f a X Y j).1 (runXY f a X Y j).2 (f (a + j)).s (f (a + j)).t (f (a + j)).k)
theorem run_size (f : Nat → A8) (a : Nat) (X Y : ByteArray) (hX : X.size ≤ 10000) (hY : Y.size ≤ 10000) (j : Nat) : (runXY f a X Y j).1.size ≤ 10000 ∧ (runXY f a X Y j).2.size ≤ 10000 := by
  induction j with
  | zero => exact ⟨hX, hY⟩
  | succ j ih => exact act_size _ _ _ _ _ ih.1 ih.2
theorem run_succ (f : Nat → A8) (a : Nat) (X Y : ByteArray) (j : Nat) : runXY f a X Y (j + 1) = (actX (runXY f a X Y j).1 (runXY f a X Y j).2 (f (a + j)).s (f (a + j)).t (f (a + j)).k, actY (runXY f a X Y j).1 (runXY f a X Y j).2 (f (a + j)).s (f (a + j)).t (f (a + j)).k) := rfl

set_option maxHeartbeats 3200000 in
set_option maxRecDepth 8000 in
theorem copies_walk (A : Option Addr) (n c : Nat) (f : Nat → A8) (v : Int) (w : World) (h : ActsAt w A n f) (hn : n ≤ maxLen) :
    Calls Try.prog 16 #[.slice A n c, .int .i64 v] w fun e w' => e = .returned (.bool true) ∧ Below w.heap.size w w' := by
  have HA := Lib.hid h
  have HF := Lib.hid (fun W (hW : ActsAt W A n f) => few_any A n c f W hW hn)
  unfold maxLen at hn
  clear h
  go_enter Try.func16, Try.ntmps16
  go_wp2_with fail
  refine (awake08 w).mono ?_
  rintro e w1 ⟨rfl, hb1⟩
  go_wp2_with fail
  refine (HF.out w1 (HA.out.kept hb1)).mono ?_
  rintro e w2 ⟨rfl | ⟨rfl, h200⟩, rfl⟩
  · go_wp2_with fail
    go_ret
    exact ⟨rfl, hb1⟩
  clear HF
  by_cases hv0 : v < 0
  · have hd : decide (v < 0) = true := by simpa using hv0
    go_wp2_with fail
    go_ret
    exact ⟨rfl, hb1⟩
  have hd : decide (v < 0) = false := by simpa using hv0
  by_cases hv1 : (n : Int) < v
  · have hd1 : decide ((n : Int) < v) = true := by simpa using hv1
    go_wp2_with fail
    go_ret
    exact ⟨rfl, hb1⟩
  have hd1 : decide ((n : Int) < v) = false := by simpa using hv1
  obtain ⟨a, rfl⟩ : ∃ a : Nat, v = (a : Int) := ⟨v.toNat, by omega⟩
  have han : a ≤ n := by omega
  clear hv0 hv1
  go_wp2_with fail
  refine (dnew_any w1).mono ?_
  rintro e w2 ⟨rfl, hd2, hb2⟩
  have hbl2 := below_step hb1 hb2
  have hgw := hb1.size
  generalize w1.heap.size = g at *
  clear hb1 hb2 w1
  have HD := Lib.hid hd2
  clear hd2 hd hd1
  go_wp2_with fail
  go_loopw [6] (fun i wr => ∃ (k : Nat) (X Y : ByteArray), k ≤ a ∧ i = .int .i64 k ∧ X.size ≤ 10000 ∧ Y.size ≤ 10000 ∧ Hid (DskAt wr g X Y) ∧ Below w.heap.size w wr) (fun i _ => a - (intOf i).toNat)
  case atStart =>
    exact ⟨0, ⟨#[]⟩, ⟨#[]⟩, Nat.zero_le _, rfl, Nat.zero_le _, Nat.zero_le _, HD, hbl2⟩
  case round =>
    clear HD hbl2 w2
    obtain ⟨k, X, Y, hk, rfl, hX, hY, hD, hB⟩ := hrel
    by_cases hlt : k < a
    · obtain ⟨ad, rfl, h0, h1, h2⟩ := HA.out.at hB k (by omega)
      have HO := Lib.hid (fun W (hW : DskAt W g X Y) => do_any g X Y (f k) W hW (by omega) (by omega))
      generalize f k = b at *
      obtain ⟨s, t, kp⟩ := b
      obtain ⟨z1, z2⟩ := act_size X Y s t kp hX hY
      go_wp2_with fail
      refine (HO.out _ hD.out).mono ?_
      rintro e w4 ⟨rfl, hd4, ho4⟩
      have hB4 := ho4.below hB hB.size hgw
      have HD4 := Lib.hid hd4
      clear hd4 ho4 hB hD
      go_wp2_with fail
      go_roundw
      case rel => exact ⟨k + 1, _, _, by omega, by go_num, z1, z2, HD4, hB4⟩
      case measure => simp [intOf]; omega
    · obtain rfl : k = a := by omega
      have HC := Lib.hid (fun W (hW : DskAt W g X Y) => dcopy_any g X Y W hW)
      have HR := Lib.hid (fun W (hW : DskAt W g X Y) => dread_any g X Y W hW (by omega) (by omega))
      go_wp2_with fail
      refine (HC.out _ hD.out).mono ?_
      rintro e w3 ⟨rfl, hc3, hb3⟩
      have hgm : g < wr.heap.size := World.block_lt_of_cell? wr ⟨g, 0, none⟩ hD.out.1
      have hgmw : w.heap.size ≤ wr.heap.size := hB.size
      have hd3 := hD.out.kept hb3
      have hB3 := below_step hB hb3
      generalize wr.heap.size = m at *
      clear hb3 hB hD HC wr
      have HD3 := Lib.hid hd3
      have HM3 := Lib.hid hc3
      clear hd3 hc3
      go_wp2_with fail
      refine (HR.out _ HD3.out).mono ?_
      rintro e w4 ⟨rfl, hb4⟩
      have HD4 := Lib.hid (HD3.out.kept hb4)
      have HM4 := Lib.hid (HM3.out.kept hb4)
      have hB4 := below_step hB3 hb4
      clear hb4 hB3 HD3 HM3 HR w3
      go_wp2_with fail
      obtain ⟨G, hG⟩ : ∃ G, G = fun q => runXY f k X Y (q - k) := ⟨_, rfl⟩
      have HI := Lib.hid (show G k = (X, Y) by rw [hG]; show runXY f k X Y (k - k) = _; rw [Nat.sub_self]; rfl)
      have HS := Lib.hid (show ∀ q, k ≤ q → G (q + 1) = (actX (G q).1 (G q).2 (f q).s (f q).t (f q).k, actY (G q).1 (G q).2 (f q).s (f q).t (f q).k) by
        intro q hq
        obtain ⟨j, rfl⟩ : ∃ j, q = k + j := ⟨q - k, by omega⟩
        rw [hG]
        show runXY f k X Y (k + j + 1 - k) = (actX (runXY f k X Y (k + j - k)).1 (runXY f k X Y (k + j - k)).2 _ _ _, actY (runXY f k X Y (k + j - k)).1 (runXY f k X Y (k + j - k)).2 _ _ _)
        rw [show k + j + 1 - k = j + 1 by omega, show k + j - k = j by omega]
        rfl)
      have HZ := Lib.hid (show ∀ q, (G q).1.size ≤ 10000 ∧ (G q).2.size ≤ 10000 by
        intro q
        rw [hG]
        exact run_size f k X Y hX hY (q - k))
      clear hG
      go_loopw [10] (fun i wr => ∃ (q : Nat), k ≤ q ∧ q ≤ n ∧ i = .int .i64 (q : Int) ∧ Hid (DskAt wr g (G q).1 (G q).2) ∧ Hid (DskAt wr m X Y) ∧ Below w.heap.size w wr) (fun i _ => n - (intOf i).toNat)
      case atStart => exact ⟨k, Nat.le_refl _, han, rfl, by rw [HI.out]; exact HD4, HM4, hB4⟩
      case round =>
        clear HD4 HM4 hB4 w4
        obtain ⟨q, hkq, hqn, rfl, hD, hM, hB⟩ := hrel
        obtain ⟨z1, z2⟩ := HZ.out q
        by_cases hlt : q < n
        · obtain ⟨ad, rfl, h0, h1, h2⟩ := HA.out.at hB q hlt
          have hs := HS.out q hkq
          have HO := Lib.hid (fun W (hW : DskAt W g (G q).1 (G q).2) => do_any g (G q).1 (G q).2 (f q) W hW (by omega) (by omega))
          generalize f q = b at *
          obtain ⟨s, t, kp⟩ := b
          have HSS := Lib.hid hs
          clear hs
          go_wp2_with fail
          refine (HO.out _ hD.out).mono ?_
          rintro e w4 ⟨rfl, hd4, ho4⟩
          have hB4 := ho4.below hB hB.size hgw
          have HM4 := Lib.hid (hM.out.only (Below.refl _ _) ho4 (by omega))
          have HD4 := Lib.hid hd4
          clear hd4 ho4 hB hD hM
          go_wp2_with fail
          go_roundw
          case rel => exact ⟨q + 1, by omega, by omega, by go_num, by rw [HSS.out]; exact HD4, HM4, hB4⟩
          case measure => simp [intOf]; omega
        · obtain rfl : q = n := by omega
          have HR := Lib.hid (fun W (hW : DskAt W m X Y) => dread_any m X Y W hW (by omega) (by omega))
          go_wp2_with fail
          refine (HR.out _ hM.out).mono ?_
          rintro e w5 ⟨rfl, hb5⟩
          have HD5 := Lib.hid (hD.out.kept hb5)
          have HM5 := Lib.hid (hM.out.kept hb5)
          have hB5 := below_step hB hb5
          clear hb5 hB hD hM HR wr
          go_wp2_with fail
          go_loopw [13] (fun i wr => ∃ (r : Nat), k ≤ r ∧ r ≤ q ∧ i = .int .i64 (r : Int) ∧ Hid (DskAt wr m (G r).1 (G r).2) ∧ Hid (DskAt wr g (G q).1 (G q).2) ∧ Below w.heap.size w wr) (fun i _ => q - (intOf i).toNat)
          case atStart => exact ⟨k, Nat.le_refl _, hkq, rfl, by rw [HI.out]; exact HM5, HD5, hB5⟩
          case round =>
            clear HM5 HD5 hB5 w5
            obtain ⟨r, hkr, hrq, rfl, hD, hM, hB⟩ := hrel
            obtain ⟨z1, z2⟩ := HZ.out r
            by_cases hlt : r < q
            · obtain ⟨ad, rfl, h0, h1, h2⟩ := HA.out.at hB r hlt
              have hs := HS.out r hkr
              have HO := Lib.hid (fun W (hW : DskAt W m (G r).1 (G r).2) => do_any m (G r).1 (G r).2 (f r) W hW (by omega) (by omega))
              generalize f r = b at *
              obtain ⟨s, t, kp⟩ := b
              have HSS := Lib.hid hs
              clear hs
              go_wp2_with fail
              refine (HO.out _ hD.out).mono ?_
              rintro e w4 ⟨rfl, hd4, ho4⟩
              have hB4 := ho4.below hB hB.size hgmw
              have HM4 := Lib.hid (hM.out.only (Below.refl _ _) ho4 (by omega))
              have HD4 := Lib.hid hd4
              clear hd4 ho4 hB hD hM
              go_wp2_with fail
              go_roundw
              case rel => exact ⟨r + 1, by omega, by omega, by go_num, by rw [HSS.out]; exact HD4, HM4, hB4⟩
              case measure => simp [intOf]; omega
            · obtain rfl : r = q := by omega
              have HS0 := Lib.hid (fun d W (hW : DskAt W d (G r).1 (G r).2) => slot0_any d _ _ W hW)
              have HS1 := Lib.hid (fun d W (hW : DskAt W d (G r).1 (G r).2) => slot1_any d _ _ W hW)
              generalize (G r).1 = P1 at *
              generalize (G r).2 = P2 at *
              go_wp2_with fail
              refine (HS0.out _ _ hD.out).mono ?_
              rintro e w6 ⟨rfl, rfl⟩
              go_wp2_with fail
              refine (HS0.out _ _ hM.out).mono ?_
              rintro e w6 ⟨rfl, rfl⟩
              go_wp2_with fail
              refine (HS1.out _ _ hD.out).mono ?_
              rintro e w6 ⟨rfl, rfl⟩
              go_wp2_with fail
              refine (HS1.out _ _ hM.out).mono ?_
              rintro e w6 ⟨rfl, rfl⟩
              go_wp2_with fail
              go_ret
              exact ⟨rfl, hB⟩
end Go.Proofs.Ythkfgjdbgnbjkaa
