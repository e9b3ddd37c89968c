/- The walk of Few. (Printed by pkfew.py.) -/
import Derived.Test.YthkfgjdbgnbjkaaPkH
namespace Go.Proofs.Ythkfgjdbgnbjkaa
open Go.RowKit
set_option linter.unusedSimpArgs false
set_option linter.unusedVariables false

set_option maxHeartbeats 3200000 in
set_option maxRecDepth 8000 in
theorem few_pk (p : Pk) (Am : Option Addr) (cm : Nat) (Ag : Option Addr) (cg : Nat) (Ax : Option Addr) (cx : Nat) (w : World) (hx : PerX w Ax p.x)
    (h1 : p.m.deps.length ≤ maxLen) (h2 : p.got.length ≤ maxLen) (h3 : p.x.length ≤ maxLen) (h4 : ∀ e ∈ p.x, e.cnt.length ≤ maxLen) (h5 : p.m.pay.size ≤ maxLen) :
    Calls Try.prog 47 #[pkV p Am cm Ag cg Ax cx] w fun e w' => (∃ b, e = .returned (.bool b) ∧ (b = true → p.x.length ≤ 50000 ∧ ∀ e ∈ p.x, e.cnt.length ≤ 50000)) ∧ Below w.heap.size w w' := by
  obtain ⟨kind, src, dst, ⟨ce, cr⟩, ⟨mf, ms, mt, mv, md, my⟩, stamp, sent, got, horizon, whom, seq, members, ⟨pe, pr⟩, epoch, x⟩ := p
  unfold pkV
  dsimp only at *
  obtain ⟨c, hc⟩ : ∃ c : Array Value, c = #[.int .i64 kind, .int .i64 src, .int .i64 dst, .int .u64 (ce : Int), .int .i64 cr, .int .i64 mf, .int .u32 (ms : Int), .int .u64 (mt : Int), .int .i64 mv, .slice Am md.length cm, .string my, .int .u64 (stamp : Int), .int .u32 (sent : Int), .slice Ag got.length cg, .int .u64 (horizon : Int), .int .i64 whom, .int .u32 (seq : Int), .int .u64 (members : Int), .int .u64 (pe : Int), .int .i64 pr, .int .u64 (epoch : Int), .slice Ax x.length cx] := ⟨_, rfl⟩
  rw [← hc]
  have hb0 : Below w.heap.size w (w.alloc (.cells c 73)) := below_alloc (Below.refl _ _) _
  have k9 : (w.alloc (.cells c 73)).cell? ⟨w.heap.size, 9, none⟩ = some (.slice Am md.length cm) := (cell_of_row _ _ 9 _ _ _ (heap_alloc_new w _)).trans (by rw [hc]; rfl)
  have k10 : (w.alloc (.cells c 73)).cell? ⟨w.heap.size, 10, none⟩ = some (.string my) := (cell_of_row _ _ 10 _ _ _ (heap_alloc_new w _)).trans (by rw [hc]; rfl)
  have k13 : (w.alloc (.cells c 73)).cell? ⟨w.heap.size, 13, none⟩ = some (.slice Ag got.length cg) := (cell_of_row _ _ 13 _ _ _ (heap_alloc_new w _)).trans (by rw [hc]; rfl)
  have k21 : (w.alloc (.cells c 73)).cell? ⟨w.heap.size, 21, none⟩ = some (.slice Ax x.length cx) := (cell_of_row _ _ 21 _ _ _ (heap_alloc_new w _)).trans (by rw [hc]; rfl)
  have HX := Lib.hid (hx.on hb0)
  have H4 := Lib.hid h4
  clear hx h4 hc
  go_enter Try.func47, Try.ntmps47
  generalize hnn : x.length = n at *
  have HN := Lib.hid hnn
  clear hnn
  unfold maxLen at h1 h2 h3 h5
  go_wp2_with fail
  all_goals
    go_loopw [3, 4] (fun s i wr => ∃ (S : Int) (k : Nat), s = .int .i64 S ∧ 0 ≤ S ∧ S ≤ 150000 ∧ (k = 0 ∨ S ≤ 50000) ∧ (k : Int) ≤ S ∧ k ≤ n ∧ i = .int .i64 k ∧ Hid (∀ j, j < k → (x.getD j .zero).cnt.length ≤ 50000) ∧ wr = w.alloc (.cells c 73)) (fun _ i _ => n - (intOf i).toNat)
    case atStart => exact ⟨_, 0, rfl, by omega, by omega, .inl rfl, by omega, by omega, rfl, fun j hj => absurd hj (by omega), rfl⟩
    case round =>
      obtain ⟨S, k, rfl, hS0, hS1, hS2, hkS, hk, rfl, HC, rfl⟩ := hrel
      by_cases hlt : k < n
      · have hkx : k < x.length := by rw [HN.out]; exact hlt
        obtain ⟨ad, Ai, ci, rfl, hu, hcell⟩ := HX.out k hkx
        obtain ⟨-, -, -, q3, -, -⟩ := hcell _ (Below.refl _ _)
        have hmem : x.getD k .zero ∈ x := by
          simp only [List.getD, List.getElem?_eq_getElem hkx, Option.getD_some]
          exact List.getElem_mem _
        have hcl := H4.out _ hmem
        have HS : Hid ((x.getD k .zero).cnt.length ≤ 50000 → ∀ j, j < k + 1 → (x.getD j .zero).cnt.length ≤ 50000) := fun h j hj => by
          by_cases hjk : j < k
          · exact HC.out j hjk
          · obtain rfl : j = k := by omega
            exact h
        clear hu hcell hmem hkx HC
        generalize x.getD k .zero = y at *
        obtain ⟨xw, ⟨xe, xr⟩, xc, ⟨ks, kf⟩⟩ := y
        dsimp only at *
        unfold maxLen at hcl
        generalize xc.length = q at *
        have e1 : IntKind.i64.wrap (S + 1) = S + 1 := IntWalk.i64_in _ (by omega)
        by_cases hq : q ≤ 50000
        · have e2 : IntKind.i64.wrap (S + 1 + (q : Int)) = S + 1 + (q : Int) := IntWalk.i64_in _ (by omega)
          have hqi : (q : Int) ≤ 50000 := by omega
          by_cases hb : 50000 < S + 1 + (q : Int)
          · have hd : decide (50000 < S + 1 + (q : Int)) = true := by simpa using hb
            go_wp2_with fail
            all_goals first | (exfalso; omega) | skip
            all_goals go_ret
            all_goals exact ⟨⟨false, rfl, fun h => by cases h⟩, hb0⟩
          · have hd : decide (50000 < S + 1 + (q : Int)) = false := by simpa using hb
            go_wp2_with fail
            all_goals first | (exfalso; omega) | skip
            all_goals go_roundw
            case rel => exact ⟨_, k + 1, rfl, by omega, by omega, .inr (by omega), by omega, by omega, by go_num, HS.out hq, trivial⟩
            case measure => simp [intOf]; omega
        · have e2 : IntKind.i64.wrap (S + 1 + 50000) = S + 1 + 50000 := IntWalk.i64_in _ (by omega)
          have hqi : 50000 < (q : Int) := by omega
          have hd : decide (50000 < S + 1 + 50000) = true := by simp; omega
          go_wp2_with fail
          all_goals first | (exfalso; omega) | skip
          all_goals go_ret
          all_goals exact ⟨⟨false, rfl, fun h => by cases h⟩, hb0⟩
      · obtain rfl : k = n := by omega
        go_wp2_with fail
        go_ret
        refine ⟨⟨_, rfl, fun h => ?_⟩, hb0⟩
        have hS : S ≤ 50000 := by simpa using h
        refine ⟨by omega, fun e he => ?_⟩
        obtain ⟨j, hj, rfl⟩ := List.getElem_of_mem he
        have := HC.out j (by rw [← HN.out]; exact hj)
        simpa [List.getD, List.getElem?_eq_getElem hj] using this
end Go.Proofs.Ythkfgjdbgnbjkaa
