/- The walks of consortref08: Write, Tear. -/
import Derived.Test.YthkfgjdbgnbjkaaDskF
namespace Go.Proofs.Ythkfgjdbgnbjkaa
open Go.RowKit
set_option linter.unusedSimpArgs false
set_option linter.unusedVariables false
set_option maxHeartbeats 800000

theorem rput8_any (x y s : ByteArray) (keep : Int) (w : World) (hx : x.size ≤ 1000004) (hy : y.size ≤ 1000004) (hs : s.size ≤ 8192) :
    Calls Try.prog 65 #[.agg #[.string x, .string y], .string s, .int .i64 keep] w fun e w' => e = .returned (.agg #[.string (if first x y then putB x y s keep else x), .string (if first x y then y else putB x y s keep)]) ∧ Below w.heap.size w w' := by
  by_cases hk : keep < 0
  · have hp : putB x y s keep = recB (nextN x y) s := by unfold putB; rw [if_pos hk]
    rw [hp]
    rcases slot_cases1 x y with ⟨h1, h2⟩ | ⟨h1, h2⟩
    · rw [h2]; exact rput8_all false x y s keep w hx hy hs hk h1
    · rw [h2]; exact rput8_all true x y s keep w hx hy hs hk h1
  · rcases slot_cases1 x y with ⟨h1, h2⟩ | ⟨h1, h2⟩
    · rw [h2]; exact rput8_part false x y s keep w hx hy hs (by omega) h1
    · rw [h2]; exact rput8_part true x y s keep w hx hy hs (by omega) h1

theorem rwrite_any (x y s : ByteArray) (w : World) (hx : x.size ≤ 1000004) (hy : y.size ≤ 1000004) (keep : Int) :
    Calls Try.prog 38 #[.agg #[.string x, .string y], .string s] w fun e w' => e = .returned (.tuple #[.agg #[.string (actX x y s false keep), .string (actY x y s false keep)], .int .i64 (actE s)]) ∧ Below w.heap.size w w' := by
  have hb0 : Below w.heap.size w ((w.alloc (.cells #[.string x, .string y] 54)).alloc (.cells #[.string ⟨#[]⟩, .string ⟨#[]⟩] 54)) := below_alloc (below_alloc (Below.refl _ _) _) _
  have hA0 : DskAt ((w.alloc (.cells #[.string x, .string y] 54)).alloc (.cells #[.string ⟨#[]⟩, .string ⟨#[]⟩] 54)) w.heap.size x y := ⟨by simp, by simp, by simp, by simp⟩
  have hB0 : DskAt ((w.alloc (.cells #[.string x, .string y] 54)).alloc (.cells #[.string ⟨#[]⟩, .string ⟨#[]⟩] 54)) (w.heap.size + 1) ⟨#[]⟩ ⟨#[]⟩ := ⟨by simp, by simp, by simp, by simp⟩
  by_cases hs : 8192 < s.size
  · obtain ⟨a1, a2⟩ := act_big x y s false keep hs
    have he : actE s = 3 := by unfold actE; rw [if_pos hs]
    rw [a1, a2, he]
    have hd : decide (8192 < (s.size : Int)) = true := by simp; omega
    clear a1 a2
    go_enter Try.func38, Try.ntmps38
    go_wp2
    refine bodyPost_ret (v := .tuple #[.agg #[.string x, .string y], .int .i64 3]) (by simp [results, Try.results38, go_sem]) rfl ⟨rfl, ?_⟩
    exact below_alloc (below_alloc (Below.refl _ _) _) _
  · have he : actE s = 0 := by unfold actE; rw [if_neg hs]
    have hd : decide (8192 < (s.size : Int)) = false := by simp; omega
    obtain ⟨a1, a2⟩ := act_small x y s false keep (Nat.le_of_not_lt hs)
    have ho : outB x y s false keep = putB x y s (-1) := by
      unfold outB putB
      rw [if_neg (by decide), if_pos (by decide)]
    have hput := fun W => rput8_any x y s (-1) W hx hy (Nat.le_of_not_lt hs)
    rw [← ho, ← a1, ← a2] at hput
    have HP := Lib.hid hput
    rw [he]
    clear a1 a2 he ho hput
    generalize actX x y s false keep = X at *
    generalize actY x y s false keep = Y at *
    go_enter Try.func38, Try.ntmps38
    go_wp2_with fail
    refine (HP.out _).mono ?_
    rintro e w1 ⟨rfl, hb1⟩
    have hA1 := hA0.kept hb1
    have hB1 := hB0.kept hb1
    have hbl1 := below_step hb0 hb1
    clear hA0 hB0 hb0 hb1 HP
    obtain ⟨b0, b1, b2, b3⟩ := hB1
    go_wp2_with fail
    refine bodyPost_ret (v := .tuple #[.agg #[.string X, .string Y], .int .i64 0]) (by simp [results, Try.results38, go_sem, b0, b1]) rfl ⟨rfl, ?_⟩
    exact (hbl1.setCell (Nat.le_succ _) _).setCell (Nat.le_succ _) _

theorem rtear_any (x y s : ByteArray) (w : World) (hx : x.size ≤ 1000004) (hy : y.size ≤ 1000004) (keep : Int) :
    Calls Try.prog 37 #[.agg #[.string x, .string y], .string s, .int .i64 keep] w fun e w' => e = .returned (.tuple #[.agg #[.string (actX x y s true keep), .string (actY x y s true keep)], .int .i64 (actE s)]) ∧ Below w.heap.size w w' := by
  have hb0 : Below w.heap.size w ((w.alloc (.cells #[.string x, .string y] 54)).alloc (.cells #[.string ⟨#[]⟩, .string ⟨#[]⟩] 54)) := below_alloc (below_alloc (Below.refl _ _) _) _
  have hA0 : DskAt ((w.alloc (.cells #[.string x, .string y] 54)).alloc (.cells #[.string ⟨#[]⟩, .string ⟨#[]⟩] 54)) w.heap.size x y := ⟨by simp, by simp, by simp, by simp⟩
  have hB0 : DskAt ((w.alloc (.cells #[.string x, .string y] 54)).alloc (.cells #[.string ⟨#[]⟩, .string ⟨#[]⟩] 54)) (w.heap.size + 1) ⟨#[]⟩ ⟨#[]⟩ := ⟨by simp, by simp, by simp, by simp⟩
  by_cases hs : 8192 < s.size
  · obtain ⟨a1, a2⟩ := act_big x y s true keep hs
    have he : actE s = 3 := by unfold actE; rw [if_pos hs]
    rw [a1, a2, he]
    have hd : decide (8192 < (s.size : Int)) = true := by simp; omega
    clear a1 a2
    go_enter Try.func37, Try.ntmps37
    go_wp2
    refine bodyPost_ret (v := .tuple #[.agg #[.string x, .string y], .int .i64 3]) (by simp [results, Try.results37, go_sem]) rfl ⟨rfl, ?_⟩
    exact below_alloc (below_alloc (Below.refl _ _) _) _
  · have he : actE s = 0 := by unfold actE; rw [if_neg hs]
    have hd : decide (8192 < (s.size : Int)) = false := by simp; omega
    obtain ⟨a1, a2⟩ := act_small x y s true keep (Nat.le_of_not_lt hs)
    have ho : outB x y s true keep = putB x y s (max 0 keep) := by
      unfold outB putB
      rw [if_pos rfl, if_neg (by omega)]
      exact cut_eq (by have := recB_size (nextN x y) s; omega)
    have hput := fun W => rput8_any x y s (max 0 keep) W hx hy (Nat.le_of_not_lt hs)
    rw [← ho, ← a1, ← a2] at hput
    have HP := Lib.hid hput
    rw [he]
    clear a1 a2 he ho hput
    generalize actX x y s true keep = X at *
    generalize actY x y s true keep = Y at *
    by_cases hk : keep < 0
    · have hd2 : decide (keep < 0) = true := by simpa using hk
      have hk0 : max 0 keep = 0 := by omega
      rw [hk0] at HP
      go_enter Try.func37, Try.ntmps37
      go_wp2_with fail
      refine (HP.out _).mono ?_
      rintro e w1 ⟨rfl, hb1⟩
      have hA1 := hA0.kept hb1
      have hB1 := hB0.kept hb1
      have hbl1 := below_step hb0 hb1
      clear hA0 hB0 hb0 hb1 HP
      obtain ⟨b0, b1, b2, b3⟩ := hB1
      go_wp2_with fail
      refine bodyPost_ret (v := .tuple #[.agg #[.string X, .string Y], .int .i64 0]) (by simp [results, Try.results37, go_sem, b0, b1]) rfl ⟨rfl, ?_⟩
      exact (hbl1.setCell (Nat.le_succ _) _).setCell (Nat.le_succ _) _

    · have hd2 : decide (keep < 0) = false := by simpa using hk
      have hk0 : max 0 keep = keep := by omega
      rw [hk0] at HP
      go_enter Try.func37, Try.ntmps37
      go_wp2_with fail
      refine (HP.out _).mono ?_
      rintro e w1 ⟨rfl, hb1⟩
      have hA1 := hA0.kept hb1
      have hB1 := hB0.kept hb1
      have hbl1 := below_step hb0 hb1
      clear hA0 hB0 hb0 hb1 HP
      obtain ⟨b0, b1, b2, b3⟩ := hB1
      go_wp2_with fail
      refine bodyPost_ret (v := .tuple #[.agg #[.string X, .string Y], .int .i64 0]) (by simp [results, Try.results37, go_sem, b0, b1]) rfl ⟨rfl, ?_⟩
      exact (hbl1.setCell (Nat.le_succ _) _).setCell (Nat.le_succ _) _
end Go.Proofs.Ythkfgjdbgnbjkaa
