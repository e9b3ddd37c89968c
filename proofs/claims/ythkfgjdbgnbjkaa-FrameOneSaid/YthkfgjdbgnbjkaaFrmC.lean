/- The walk of the law FrameOne. -/
import Derived.Test.YthkfgjdbgnbjkaaFrmA
import Derived.Handy
namespace Go.Proofs.Ythkfgjdbgnbjkaa
open Go.RowKit
set_option linter.unusedSimpArgs false
set_option linter.unusedVariables false

set_option maxHeartbeats 1600000 in
theorem one_walk (s : ByteArray) (ws : s.size ≤ maxLen) (w : World) :
    Calls Try.prog 11 #[.string s] w fun e w' => e = .returned (.bool true) ∧ Below w.heap.size w w' := by
  by_cases h : 40000 < s.size
  · have hd : decide (40000 < (s.size : Int)) = true := by simp; omega
    go_enter Try.func11, Try.ntmps11
    go_wp2_with fail
    refine (awake05 _).mono ?_
    rintro e w1 ⟨rfl, hb1⟩
    go_wp2_with fail
    go_ret
    exact ⟨rfl, hb1⟩
  · have hd : decide (40000 < (s.size : Int)) = false := by simp; omega
    have hus := sealB_size s
    generalize hu : sealB s = u at *
    have HU := Lib.hid hu
    clear hu
    go_enter Try.func11, Try.ntmps11
    go_wp2_with fail
    refine (awake05 _).mono ?_
    rintro e w1 ⟨rfl, hb1⟩
    go_wp2_with fail
    refine (rseal_any _ _ (by omega)).mono ?_
    rw [HU.out]
    rintro e w2 ⟨rfl, hb2⟩
    go_wp2_with fail
    have hbl := below_alloc (below_step hb1 hb2) (.cells #[.string s, .string u] 34)
    have c0 : (w2.alloc (.cells #[.string s, .string u] 34)).cell? ⟨w2.heap.size, 0, none⟩ = some (.string s) := by simp
    have c1 : (w2.alloc (.cells #[.string s, .string u] 34)).cell? ⟨w2.heap.size, 1, none⟩ = some (.string u) := by simp
    generalize w2.alloc (.cells #[.string s, .string u] 34) = W at *
    generalize w2.heap.size = K at *
    clear hb1 hb2 hd
    clear w2 w1
    go_loopw [4] (fun i wr => ∃ k : Nat, k ≤ 2 ∧ i = .int .i64 k ∧ Hid (wr.cell? ⟨K, 0, none⟩ = some (.string s) ∧ wr.cell? ⟨K, 1, none⟩ = some (.string u)) ∧ Below w.heap.size w wr) (fun i _ => 2 - (intOf i).toNat)
    case atStart => exact ⟨0, by omega, rfl, ⟨c0, c1⟩, hbl⟩
    case round =>
      obtain ⟨k, hk, rfl, HC, hb⟩ := hrel
      clear c0 c1 hbl
      by_cases hlt : k < 2
      · obtain ⟨x, hx, hxs⟩ : ∃ x, wr.cell? ⟨K, k, none⟩ = some (.string x) ∧ x.size ≤ 50000 := by
          match k, hlt with
          | 0, _ => exact ⟨s, HC.out.1, by omega⟩
          | 1, _ => exact ⟨u, HC.out.2, by omega⟩
        have hp := fun W => parse_any x W (by omega)
        have hsz := parseF_size x
        have hcs := parseF_cases x
        have hpr := fun W => print_any (parseF x).k (parseF x).f (parseF x).t (parseF x).b W (by omega)
        generalize parseF x = r at *
        obtain ⟨rk, rf, rt, rb, re⟩ := r
        unfold FR.vals at hp
        have HP := Lib.hid hp
        have HPR := Lib.hid hpr
        have HCS := Lib.hid hcs
        clear hp hpr hcs
        have hlt2 : (k : Int) < 2 := by omega
        go_wp2_with fail
        refine (HP.out _).mono ?_
        rintro e w3 ⟨rfl, hb3⟩
        have d0 := cell_keep HC.out.1 hb3
        have d1 := cell_keep HC.out.2 hb3
        have dx := cell_keep hx hb3
        have hbl3 := below_step hb hb3
        have k0 := World.block_lt_of_cell? w3 _ d0
        clear hx hb hb3 HC
        rcases HCS.out with ⟨e, he, hne⟩ | ⟨h1, h2, h3, h4⟩
        · injection he with h1 h2 h3 h4 h5
          subst h1 h2 h3 h4 h5
          have hne' : (re != 0) = true := by simpa using hne
          clear hne HCS HP HPR
          go_wp2_with fail
          go_roundw
          case rel => exact ⟨k + 1, by omega, by go_num, ⟨by rw [World.cell?_alloc_past _ _ _ k0]; exact d0, by rw [World.cell?_alloc_past _ _ _ k0]; exact d1⟩, below_alloc hbl3 _⟩
          case measure => simp [intOf]; omega
        · subst h1
          have hs0 : printS rk rf rt rb = x := by rw [printS_yes h2]; exact h3
          have hpr : ∀ W, Calls Try.prog 29 #[.agg #[.int .i64 rk, .int .i64 rf, .int .i64 rt, .string rb]] W fun e w' => e = .returned (.tuple #[.string x, .int .i64 0]) ∧ Below W.heap.size W w' := fun W => by
            have h := HPR.out W
            simp only [h2, hs0] at h
            exact h
          have HPQ := Lib.hid hpr
          clear h2 h3 h4 HCS HP HPR hs0 hpr
          go_wp2_with fail
          refine (HPQ.out _).mono ?_
          rintro e w4 ⟨rfl, hb4⟩
          have e0 : w4.cell? ⟨K, 0, none⟩ = some (.string s) := cell_keep (by rw [World.cell?_alloc_past _ _ _ k0]; exact d0) hb4
          have e1 : w4.cell? ⟨K, 1, none⟩ = some (.string u) := cell_keep (by rw [World.cell?_alloc_past _ _ _ k0]; exact d1) hb4
          have ex : w4.cell? ⟨K, k, none⟩ = some (.string x) := cell_keep (by rw [World.cell?_alloc_past _ _ _ k0]; exact dx) hb4
          have hbl4 := below_step (below_alloc hbl3 _) hb4
          clear hb4 hbl3 d0 d1 dx k0
          go_wp2_with fail
          go_roundw
          case rel => exact ⟨k + 1, by omega, by go_num, ⟨e0, e1⟩, hbl4⟩
          case measure => simp [intOf]; omega
      · obtain rfl : k = 2 := by omega
        go_wp2_with fail
        go_ret
        exact ⟨rfl, hb⟩
end Go.Proofs.Ythkfgjdbgnbjkaa
