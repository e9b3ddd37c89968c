/- The walks of package disk: Write, Tear. -/
import Derived.Test.YthkfgjdbgnbjkaaDskB
import Derived.BigRegion
namespace Go.Proofs.Ythkfgjdbgnbjkaa
open Go.RowKit
set_option linter.unusedSimpArgs false
set_option linter.unusedVariables false

theorem slot_cases (x y : ByteArray) : ∃ a b : Int, ((a = -1 ∧ b = 0) ∨ (a = 0 ∧ b = 1) ∨ (a = 1 ∧ b = 0)) ∧ nAt x y = a ∧ ((b = 0 ∧ first x y = true) ∨ (b = 1 ∧ first x y = false)) := by
  unfold first
  rcases nAt_range x y with h | h | h
  · exact ⟨-1, 0, .inl ⟨rfl, rfl⟩, h, by rw [h]; simp⟩
  · exact ⟨0, 1, .inr (.inl ⟨rfl, rfl⟩), h, by rw [h]; simp⟩
  · exact ⟨1, 0, .inr (.inr ⟨rfl, rfl⟩), h, by rw [h]; simp⟩

theorem act_first {x y s : ByteArray} {tear : Bool} {keep : Int} (hs : s.size ≤ 8192) (hf : first x y = true) : actX x y s tear keep = outB x y s tear keep ∧ actY x y s tear keep = y := by
  obtain ⟨a1, a2⟩ := act_small x y s tear keep hs
  rw [a1, a2, hf]
  exact ⟨rfl, rfl⟩
theorem act_second {x y s : ByteArray} {tear : Bool} {keep : Int} (hs : s.size ≤ 8192) (hf : first x y = false) : actX x y s tear keep = x ∧ actY x y s tear keep = outB x y s tear keep := by
  obtain ⟨a1, a2⟩ := act_small x y s tear keep hs
  rw [a1, a2, hf]
  exact ⟨rfl, rfl⟩

theorem DskAt.drew {w : World} {g : Nat} {x y : ByteArray} (h : DskAt w g x y) : DskAt w.drew g x y := h
theorem cut_eq {R : ByteArray} {a b : Nat} (h : a = b) : R.extract 0 a = R.extract 0 b := by rw [h]
theorem cut_nil {R : ByteArray} {a : Nat} (h : a = 0) : ByteArray.empty = R.extract 0 a := by rw [h]; simp
theorem DskAt.set0' {w : World} {g : Nat} {x y : ByteArray} (h : DskAt w g x y) {s s' : ByteArray} (e : s = s') : DskAt (w.setCell ⟨g, 0, none⟩ (.string s)) g s' y := by
  subst e
  exact h.set0 s
theorem DskAt.set1' {w : World} {g : Nat} {x y : ByteArray} (h : DskAt w g x y) {s s' : ByteArray} (e : s = s') : DskAt (w.setCell ⟨g, 1, none⟩ (.string s)) g x s' := by
  subst e
  exact h.set1 s

set_option maxHeartbeats 800000 in
theorem dwrite_any (g : Nat) (x y s : ByteArray) (w : World) (h : DskAt w g x y) (hx : x.size ≤ 1000004) (hy : y.size ≤ 1000004) (keep : Int) :
    Calls Try.prog 63 #[.pointer (some ⟨g, 0, none⟩), .string s] w fun e w' => e = .returned (.int .i64 (actE s)) ∧ DskAt w' g (actX x y s false keep) (actY x y s false keep) ∧ Only g w w' := by
  by_cases hs : 8192 < s.size
  · obtain ⟨a1, a2⟩ := act_big x y s false keep hs
    have he : actE s = 3 := by unfold actE; rw [if_pos hs]
    rw [a1, a2, he]
    have hd : decide (8192 < (s.size : Int)) = true := by simp; omega
    go_enter Try.func63, Try.ntmps63
    go_wp2
    go_ret
    exact ⟨rfl, h, Only.refl _ _⟩
  · have he : actE s = 0 := by unfold actE; rw [if_neg hs]
    have hd : decide (8192 < (s.size : Int)) = false := by simp; omega
    obtain ⟨a, b, hab, ha, hf⟩ := slot_cases x y
    have HB := Lib.hid (bytes_case a b hab g x y s w h hx hy (by omega) ha)
    have ho : outB x y s false keep = recB (nextN x y) s := rfl
    have HH := Lib.hid h
    clear hab ha h
    rcases hf with ⟨rfl, hf⟩ | ⟨rfl, hf⟩
    · obtain ⟨a1, a2⟩ := act_first (tear := false) (keep := keep) (Nat.le_of_not_lt hs) hf
      rw [a1, a2, he, ho]
      clear a1 a2 he ho hf hs
      generalize recB (nextN x y) s = R at *
      go_enter Try.func63, Try.ntmps63
      go_wp2_with fail
      refine HB.out.mono ?_
      rintro e w1 ⟨rfl, hb1⟩
      have hd1 := HH.out.kept hb1
      have hD := Lib.hid hd1
      obtain ⟨h0, h1, h2, h3⟩ := hd1
      go_wp2_with fail
      go_ret
      exact ⟨rfl, hD.out.set0 R, (Only.of_below hb1).set 0 _⟩
    · obtain ⟨a1, a2⟩ := act_second (tear := false) (keep := keep) (Nat.le_of_not_lt hs) hf
      rw [a1, a2, he, ho]
      clear a1 a2 he ho hf hs
      generalize recB (nextN x y) s = R at *
      go_enter Try.func63, Try.ntmps63
      go_wp2_with fail
      refine HB.out.mono ?_
      rintro e w1 ⟨rfl, hb1⟩
      have hd1 := HH.out.kept hb1
      have hD := Lib.hid hd1
      obtain ⟨h0, h1, h2, h3⟩ := hd1
      go_wp2_with fail
      go_ret
      exact ⟨rfl, hD.out.set1 R, (Only.of_below hb1).set 1 _⟩

set_option maxHeartbeats 800000 in
theorem dtear_any (g : Nat) (x y s : ByteArray) (w : World) (h : DskAt w g x y) (hx : x.size ≤ 1000004) (hy : y.size ≤ 1000004) (keep : Int) :
    Calls Try.prog 64 #[.pointer (some ⟨g, 0, none⟩), .string s, .int .i64 keep] w fun e w' => e = .returned (.int .i64 (actE s)) ∧ DskAt w' g (actX x y s true keep) (actY x y s true keep) ∧ Only g w w' := by
  by_cases hs : 8192 < s.size
  · obtain ⟨a1, a2⟩ := act_big x y s true keep hs
    have he : actE s = 3 := by unfold actE; rw [if_pos hs]
    rw [a1, a2, he]
    have hd : decide (8192 < (s.size : Int)) = true := by simp; omega
    go_enter Try.func64, Try.ntmps64
    go_wp2
    go_ret
    exact ⟨rfl, h, Only.refl _ _⟩
  · have he : actE s = 0 := by unfold actE; rw [if_neg hs]
    have hd : decide (8192 < (s.size : Int)) = false := by simp; omega
    obtain ⟨a, b, hab, ha, hf⟩ := slot_cases x y
    have HB := Lib.hid (bytes_case a b hab g x y s w h hx hy (by omega) ha)
    have hrs := recB_size (nextN x y) s
    have ho : outB x y s true keep = (recB (nextN x y) s).extract 0 (max 0 (min keep (((recB (nextN x y) s).size : Int) - 1))).toNat := rfl
    have HH := Lib.hid h
    clear hab ha h
    rcases hf with ⟨rfl, hf⟩ | ⟨rfl, hf⟩
    · obtain ⟨a1, a2⟩ := act_first (tear := true) (keep := keep) (Nat.le_of_not_lt hs) hf
      rw [a1, a2, he, ho]
      clear a1 a2 he ho hf
      generalize recB (nextN x y) s = R at *
      go_enter Try.func64, Try.ntmps64
      go_wp2_with fail
      refine HB.out.mono ?_
      rintro e w1 ⟨rfl, hb1⟩
      have hd1 := HH.out.kept hb1
      have hD := Lib.hid hd1
      obtain ⟨h0, h1, h2, h3⟩ := hd1
      go_wp2_with fail
      have ew : IntKind.i64.wrap ((R.size : Int) - 1) = (R.size : Int) - 1 := IntWalk.i64_in _ (by omega)
      go_region
      all_goals go_wp2_with fail
      all_goals go_ret
      all_goals refine ⟨rfl, DskAt.drew (DskAt.set0' hD.out ?_), ((Only.of_below hb1).set 0 _).drew⟩
      all_goals first | refine cut_eq ?_ | refine cut_nil ?_
      all_goals omega
    · obtain ⟨a1, a2⟩ := act_second (tear := true) (keep := keep) (Nat.le_of_not_lt hs) hf
      rw [a1, a2, he, ho]
      clear a1 a2 he ho hf
      generalize recB (nextN x y) s = R at *
      go_enter Try.func64, Try.ntmps64
      go_wp2_with fail
      refine HB.out.mono ?_
      rintro e w1 ⟨rfl, hb1⟩
      have hd1 := HH.out.kept hb1
      have hD := Lib.hid hd1
      obtain ⟨h0, h1, h2, h3⟩ := hd1
      go_wp2_with fail
      have ew : IntKind.i64.wrap ((R.size : Int) - 1) = (R.size : Int) - 1 := IntWalk.i64_in _ (by omega)
      go_region
      all_goals go_wp2_with fail
      all_goals go_ret
      all_goals refine ⟨rfl, DskAt.drew (DskAt.set1' hD.out ?_), ((Only.of_below hb1).set 1 _).drew⟩
      all_goals first | refine cut_eq ?_ | refine cut_nil ?_
      all_goals omega
end Go.Proofs.Ythkfgjdbgnbjkaa
