/- The walks of package frame: kind, process, Print. -/
import Derived.Test.YthkfgjdbgnbjkaaFrmM
namespace Go.Proofs.Ythkfgjdbgnbjkaa
open Go.RowKit
set_option linter.unusedSimpArgs false
set_option linter.unusedVariables false

theorem cell_keep {w w1 : World} {a : Addr} {v : Value} (hc : w.cell? a = some v) (hb : Below w.heap.size w w1) : w1.cell? a = some v :=
  (hb.cell (World.block_lt_of_cell? w a hc)).trans hc
theorem ret_bool {a b : Bool} (h : a = b) : Ending.returned (.bool a) = .returned (.bool b) := by rw [h]
set_option maxHeartbeats 400000 in
theorem kind_any (n : Int) (w : World) : Calls Try.prog 54 #[.int .i64 n] w fun e w' => e = .returned (.bool (kindOk n)) ∧ w = w' := by
  by_cases h : 1 ≤ n
  · have hd : decide (1 ≤ n) = true := by simpa using h
    go_enter Try.func54, Try.ntmps54
    go_wp2
    go_ret
    exact ⟨ret_bool (by unfold kindOk; rw [hd]; rfl), rfl⟩
  · have hd : decide (1 ≤ n) = false := by simpa using h
    go_enter Try.func54, Try.ntmps54
    go_wp2
    go_ret
    exact ⟨ret_bool (by unfold kindOk; rw [hd]; rfl), rfl⟩
set_option maxHeartbeats 400000 in
theorem proc_any (n : Int) (w : World) : Calls Try.prog 55 #[.int .i64 n] w fun e w' => e = .returned (.bool (procOk n)) ∧ w = w' := by
  by_cases h : 0 ≤ n
  · have hd : decide (0 ≤ n) = true := by simpa using h
    go_enter Try.func55, Try.ntmps55
    go_wp2
    go_ret
    exact ⟨ret_bool (by unfold procOk; rw [hd]; rfl), rfl⟩
  · have hd : decide (0 ≤ n) = false := by simpa using h
    go_enter Try.func55, Try.ntmps55
    go_wp2
    go_ret
    exact ⟨ret_bool (by unfold procOk; rw [hd]; rfl), rfl⟩

theorem five_rd (w : World) (g : Nat) (x0 x1 x2 x3 x4 : UInt8) (h0 : w.cell? ⟨g, 0, none⟩ = some (.int .u8 (x0.toNat : Int))) (h1 : w.cell? ⟨g, 1, none⟩ = some (.int .u8 (x1.toNat : Int))) (h2 : w.cell? ⟨g, 2, none⟩ = some (.int .u8 (x2.toNat : Int)))
    (h3 : w.cell? ⟨g, 3, none⟩ = some (.int .u8 (x3.toNat : Int))) (h4 : w.cell? ⟨g, 4, none⟩ = some (.int .u8 (x4.toNat : Int))) :
    RdB w (some ⟨g, 0, none⟩) 5 [x0, x1, x2, x3, x4] := by
  refine ⟨(fun e => by cases e), fun ad ha j u hu => ?_⟩
  cases ha
  have hl := (List.getElem?_eq_some_iff.1 hu).1
  rw [bvals_length] at hl
  simp only [Addr.add_lit, Nat.zero_add]
  match j, hl with
  | 0, _ => rw [h0]; exact hu
  | 1, _ => rw [h1]; exact hu
  | 2, _ => rw [h2]; exact hu
  | 3, _ => rw [h3]; exact hu
  | 4, _ => rw [h4]; exact hu

theorem OwnB.convert' {w : World} {base g cap : Nat} {l : List UInt8} (h : OwnB w base g cap l) (n : Nat) (hn : l.length = n) :
    (Go.convert 30 9 (.slice (some ⟨g, 0, none⟩) n cap)).run Try.prog w = .ok (.string ⟨l.toArray⟩) w := by
  rw [← hn]; exact h.convert

theorem put_head (g : Nat) (x0 x1 x2 x3 x4 : UInt8) (v : Nat) (w : World) (hR : RdB w (some ⟨g, 0, none⟩) 5 [x0, x1, x2, x3, x4]) (hv : v < 18446744073709551616) :
    Calls Try.prog 56 #[.slice (some ⟨g, 0, none⟩) 5 5, .int .u64 (v : Int), .int .i64 2] w fun e w' =>
      ∃ k, e = .returned (.slice (some ⟨k, 0, none⟩) 7 7) ∧ OwnB w' w.heap.size k 7 ([x0, x1, x2, x3, x4] ++ NumM.be 2 v) ∧ Below w.heap.size w w' :=
  (put_any (some ⟨g, 0, none⟩) 5 [x0, x1, x2, x3, x4] v 2 w hR (by simp) hv (by omega)).mono fun _ _ h => ⟨_, h⟩

theorem byteOf_int (n : Int) : n % 256 = ((byteOf n).toNat : Int) := by
  unfold byteOf
  rw [UInt8.toNat_ofNat']
  omega

set_option maxHeartbeats 800000 in
theorem print_any (k f t : Int) (b : ByteArray) (w : World) (hb : b.size ≤ 900000) :
    Calls Try.prog 29 #[.agg #[.int .i64 k, .int .i64 f, .int .i64 t, .string b]] w fun e w' => e = .returned (.tuple #[.string (printS k f t b), .int .i64 (printE k f t b)]) ∧ Below w.heap.size w w' := by
  cases hk : kindOk k with
  | false =>
    have he : printE k f t b = 10 := by unfold printE; rw [if_pos hk]
    have hs : printS k f t b = ⟨#[]⟩ := by unfold printS; rw [he]; rfl
    rw [he, hs]
    clear he hs
    go_enter Try.func29, Try.ntmps29
    go_wp2_with (go_at_call 54; refine (kind_any _ _).mono ?_; rintro e w' ⟨rfl, rfl⟩)
    go_ret2
    exact ⟨rfl, below_alloc (Below.refl _ _) _⟩
  | true =>
    cases hf : procOk f with
    | false =>
      have he : printE k f t b = 1 := by unfold printE; rw [hk, hf]; rfl
      have hs : printS k f t b = ⟨#[]⟩ := by unfold printS; rw [he]; rfl
      rw [he, hs]
      clear he hs
      go_enter Try.func29, Try.ntmps29
      go_wp2_with (first | (go_at_call 54; refine (kind_any _ _).mono ?_; rintro e w' ⟨rfl, rfl⟩) | (go_at_call 55; refine (proc_any _ _).mono ?_; rintro e w' ⟨rfl, rfl⟩))
      go_ret2
      exact ⟨rfl, below_alloc (Below.refl _ _) _⟩
    | true =>
      cases ht : procOk t with
      | false =>
        have he : printE k f t b = 1 := by unfold printE; rw [hk, hf, ht]; rfl
        have hs : printS k f t b = ⟨#[]⟩ := by unfold printS; rw [he]; rfl
        rw [he, hs]
        clear he hs
        go_enter Try.func29, Try.ntmps29
        go_wp2_with (first | (go_at_call 54; refine (kind_any _ _).mono ?_; rintro e w' ⟨rfl, rfl⟩) | (go_at_call 55; refine (proc_any _ _).mono ?_; rintro e w' ⟨rfl, rfl⟩))
        go_ret2
        exact ⟨rfl, below_alloc (Below.refl _ _) _⟩
      | true =>
        by_cases hl : 32768 < b.size
        · have he : printE k f t b = 3 := by unfold printE; rw [hk, hf, ht]; simp [hl]
          have hs : printS k f t b = ⟨#[]⟩ := by unfold printS; rw [he]; rfl
          rw [he, hs]
          have hd : decide (32768 < (b.size : Int)) = true := by simp; omega
          clear he hs
          go_enter Try.func29, Try.ntmps29
          go_wp2_with (first | (go_at_call 54; refine (kind_any _ _).mono ?_; rintro e w' ⟨rfl, rfl⟩) | (go_at_call 55; refine (proc_any _ _).mono ?_; rintro e w' ⟨rfl, rfl⟩))
          go_ret2
          exact ⟨rfl, below_alloc (Below.refl _ _) _⟩
        · have he : printE k f t b = 0 := by unfold printE; rw [hk, hf, ht]; simp [hl]
          have hs : printS k f t b = frameB k f t b := by unfold printS; rw [if_pos he]
          rw [he, hs]
          have hd : decide (32768 < (b.size : Int)) = false := by simp; omega
          have b1 := byteOf_int k
          have b2 := byteOf_int f
          have b3 := byteOf_int t
          have H : ∀ l : List UInt8, l = headL k f t b.size → sealB (⟨l.toArray⟩ ++ b) = frameB k f t b := fun l h => by rw [h]; rfl
          have HH := Lib.hid H
          have hz : (headL k f t b.size).length = 7 := by unfold headL; simp [NumM.be_length]
          clear he hs H
          go_enter Try.func29, Try.ntmps29
          go_wp2_with (first | (go_at_call 54; refine (kind_any _ _).mono ?_; rintro e w' ⟨rfl, rfl⟩) | (go_at_call 55; refine (proc_any _ _).mono ?_; rintro e w' ⟨rfl, rfl⟩))
          refine (put_head _ 197 1 (byteOf k) (byteOf f) (byteOf t) b.size _ (five_rd _ _ _ _ _ _ _ (cell_top (by simp) rfl) (cell_top (by simp) rfl) (cell_top (by simp) rfl) (cell_top (by simp) rfl) (cell_top (by simp) rfl)) (by omega)).mono ?_
          rintro e w1 ⟨K, rfl, hown, hb1⟩
          have hcv := hown.convert' 7 (by simp [NumM.be_length])
          have hc3 : w1.cell? ⟨w.heap.size, 3, none⟩ = some (.string b) := cell_keep (by simp) hb1
          have hbl := below_step (below_alloc (below_alloc (Below.refl _ _) _) _) hb1
          have hsz : (⟨([197, 1, byteOf k, byteOf f, byteOf t] ++ NumM.be 2 b.size).toArray⟩ : ByteArray).size = 7 := by rw [← size_data]; simp [NumM.be_length]
          have HF := Lib.hid (HH.out ([197, 1, byteOf k, byteOf f, byteOf t] ++ NumM.be 2 b.size) rfl)
          generalize (⟨([197, 1, byteOf k, byteOf f, byteOf t] ++ NumM.be 2 b.size).toArray⟩ : ByteArray) = h7 at *
          clear hown hb1 b1 b2 b3 hk hf ht hz
          have hl7 : ¬ 9223372036854775807 < 7 + b.size := by omega
          go_wp2_with fail
          refine (seal_any _ _ (by rw [ByteArray.size_append]; omega)).mono ?_
          rintro e w2 ⟨rfl, hb2⟩
          go_wp2_with fail
          go_ret2
          exact ⟨by rw [← HF.out]; rfl, below_step hbl hb2⟩
end Go.Proofs.Ythkfgjdbgnbjkaa
