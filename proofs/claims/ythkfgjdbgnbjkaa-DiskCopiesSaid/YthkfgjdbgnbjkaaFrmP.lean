/- The walk of frame.Parse. -/
import Derived.Test.YthkfgjdbgnbjkaaFrmW
namespace Go.Proofs.Ythkfgjdbgnbjkaa
open Go.RowKit
set_option linter.unusedSimpArgs false
set_option linter.unusedVariables false

/-- a frame in a block of the call's own. -/
structure Frm (w : World) (g : Nat) (a b c : Int) (s : ByteArray) : Prop where
  c0 : w.cell? ⟨g, 0, none⟩ = some (.int .i64 a)
  c1 : w.cell? ⟨g, 1, none⟩ = some (.int .i64 b)
  c2 : w.cell? ⟨g, 2, none⟩ = some (.int .i64 c)
  c3 : w.cell? ⟨g, 3, none⟩ = some (.string s)
  z0 : w.frozen? ⟨g, 0, none⟩ = false
  z1 : w.frozen? ⟨g, 1, none⟩ = false
  z2 : w.frozen? ⟨g, 2, none⟩ = false
  z3 : w.frozen? ⟨g, 3, none⟩ = false
theorem Frm.lt {w : World} {g : Nat} {a b c : Int} {s : ByteArray} (h : Frm w g a b c s) : g < w.heap.size := World.block_lt_of_cell? w _ h.c0
theorem Frm.of_block {w w' : World} {g : Nat} {a b c : Int} {s : ByteArray} (h : Frm w g a b c s) (e : w'.heap[g]? = w.heap[g]?) : Frm w' g a b c s := by
  have hc : ∀ j, w'.cell? ⟨g, j, none⟩ = w.cell? ⟨g, j, none⟩ := fun j => World.cell?_of_block e
  have hz : ∀ j, w'.frozen? ⟨g, j, none⟩ = w.frozen? ⟨g, j, none⟩ := fun j => World.frozen?_of_block e
  exact ⟨by rw [hc]; exact h.c0, by rw [hc]; exact h.c1, by rw [hc]; exact h.c2, by rw [hc]; exact h.c3, by rw [hz]; exact h.z0, by rw [hz]; exact h.z1, by rw [hz]; exact h.z2, by rw [hz]; exact h.z3⟩
theorem Frm.kept {w w' : World} {g : Nat} {a b c : Int} {s : ByteArray} (h : Frm w g a b c s) (hb : Below w.heap.size w w') : Frm w' g a b c s := h.of_block (hb.block g h.lt)
theorem Frm.only {w w' : World} {g k : Nat} {a b c : Int} {s : ByteArray} (h : Frm w g a b c s) (ho : Only k w w') (hk : g ≠ k) : Frm w' g a b c s :=
  h.of_block (ho.block g h.lt (fun e => hk (Option.some.inj e)))

theorem byAt_lt (t : ByteArray) (i : Nat) : byAt t i < 256 := UInt8.toNat_lt _
theorem one_at (t : ByteArray) (p : Nat) (h : p < t.size) : NumM.val ((t.data.toList.drop p).take 1) = byAt t p := by
  rw [val_one _ _ (by rw [size_data]; exact h)]; rfl

def FR.vals (r : FR) : Value := .tuple #[.agg #[.int .i64 r.k, .int .i64 r.f, .int .i64 r.t, .string r.b], .int .i64 r.e]

set_option maxHeartbeats 400000 in
theorem parse_short (s : ByteArray) (w : World) (h : s.size < 11) :
    Calls Try.prog 31 #[.string s] w fun e w' => e = .returned (parseF s).vals ∧ Below w.heap.size w w' := by
  have hr : parseF s = .bad 2 := by unfold parseF; rw [if_pos h]
  rw [hr]
  have hd : decide ((s.size : Int) < 11) = true := by simp; omega
  clear hr
  go_enter Try.func31, Try.ntmps31
  go_wp2
  exact bodyPost_ret (v := (FR.bad 2).vals) (by simp [FR.bad, FR.vals, results, Try.results31, go_sem]) rfl ⟨rfl, below_alloc (Below.refl _ _) _⟩

set_option maxHeartbeats 400000 in
theorem parse_sum (s : ByteArray) (w : World) (h : 11 ≤ s.size) (hm : s.size ≤ 1000004) (ho : openOk s = false) :
    Calls Try.prog 31 #[.string s] w fun e w' => e = .returned (parseF s).vals ∧ Below w.heap.size w w' := by
  have hr : parseF s = .bad 8 := by unfold parseF; rw [if_neg (by omega), if_pos ho]
  rw [hr]
  have hd : decide ((s.size : Int) < 11) = false := by simp; omega
  clear hr
  go_enter Try.func31, Try.ntmps31
  go_wp2_with fail
  refine (open_any _ _ hm).mono ?_
  rw [ho]
  rintro e w1 ⟨rfl, hb1⟩
  have hf : Frm w1 w.heap.size 0 0 0 ⟨#[]⟩ := Frm.kept ⟨by simp, by simp, by simp, by simp, by simp, by simp, by simp, by simp⟩ hb1
  obtain ⟨c0, c1, c2, c3, z0, z1, z2, z3⟩ := hf
  go_wp2_with fail
  refine bodyPost_ret (v := (FR.bad 8).vals) (by simp [FR.bad, FR.vals, results, Try.results31, go_sem, c0, c1, c2, c3]) rfl ⟨rfl, ?_⟩
  exact ((((below_step (below_alloc (Below.refl _ _) _) hb1).setCell (Nat.le_refl _) _).setCell (Nat.le_refl _) _).setCell (Nat.le_refl _) _).setCell (Nat.le_refl _) _

set_option maxHeartbeats 4000000 in
theorem parse_open (s : ByteArray) (w : World) (h : 11 ≤ s.size) (hm : s.size ≤ 1000004) (ho : openOk s = true) :
    Calls Try.prog 31 #[.string s] w fun e w' => e = .returned (parseF s).vals ∧ Below w.heap.size w w' := by
  have hr : parseF s = parseT (openB s) := by unfold parseF; rw [if_neg (by omega), ho, if_neg (by simp)]
  have hts := openB_size s ho
  rw [hr]
  clear hr
  have hd : decide ((s.size : Int) < 11) = false := by simp; omega
  generalize hT : openB s = t at *
  have HT := Lib.hid hT
  clear hT
  have ht7 : 7 ≤ t.size := by omega
  have htm : t.size ≤ maxLen := by unfold maxLen; omega
  go_enter Try.func31, Try.ntmps31
  go_wp2_with fail
  refine (open_any _ _ hm).mono ?_
  rw [ho, HT.out]
  rintro e w1 ⟨rfl, hb1⟩
  have hf1 : Frm w1 w.heap.size 0 0 0 ⟨#[]⟩ := Frm.kept ⟨by simp, by simp, by simp, by simp, by simp, by simp, by simp, by simp⟩ hb1
  have hbl1 := below_step (below_alloc (Below.refl w.heap.size w) _) hb1
  go_wp2_with fail
  refine (new_any t w1).mono ?_
  rintro e w2 ⟨rfl, hr2, hb2⟩
  have hf2 := hf1.kept hb2
  have hbl2 := below_step hbl1 hb2
  have hne : w.heap.size ≠ w1.heap.size := by have := hf1.lt; omega
  have hle := hbl1.size
  generalize w1.heap.size = g at *
  generalize hK0 : w.heap.size = K0 at *
  have HK0 := Lib.hid hK0
  clear hK0 hf1 hbl1 hb1 hb2 w1
  go_wp2_with fail
  refine (num_ok g t 0 1 _ hr2 htm (by omega) (by omega)).mono ?_
  rw [one_at t 0 (by omega)]
  have q0 : byAt t 0 < 256 := byAt_lt t 0
  generalize hB0 : byAt t 0 = b0 at *
  have HB0 := Lib.hid hB0
  clear hB0
  rintro e w3 ⟨rfl, hr3, ho3⟩
  have hf3 := hf2.only ho3 hne
  have hbl3 := ho3.below hbl2 (Nat.le_of_lt hf2.lt) hle
  clear hr2 ho3 hf2 hbl2
  go_wp2_with fail
  refine (num_ok g t 1 1 _ hr3 htm (by omega) (by omega)).mono ?_
  rw [one_at t 1 (by omega)]
  have q1 : byAt t 1 < 256 := byAt_lt t 1
  generalize hB1 : byAt t 1 = b1 at *
  have HB1 := Lib.hid hB1
  clear hB1
  rintro e w4 ⟨rfl, hr4, ho4⟩
  have hf4 := hf3.only ho4 hne
  have hbl4 := ho4.below hbl3 (Nat.le_of_lt hf3.lt) hle
  clear hr3 ho4 hf3 hbl3
  go_wp2_with fail
  refine (num_ok g t 2 1 _ hr4 htm (by omega) (by omega)).mono ?_
  rw [one_at t 2 (by omega)]
  have q2 : byAt t 2 < 256 := byAt_lt t 2
  generalize hB2 : byAt t 2 = b2 at *
  have HB2 := Lib.hid hB2
  clear hB2
  rintro e w5 ⟨rfl, hr5, ho5⟩
  have hf5 := hf4.only ho5 hne
  have hbl5 := ho5.below hbl4 (Nat.le_of_lt hf4.lt) hle
  clear hr4 ho5 hf4 hbl4
  go_wp2_with fail
  refine (num_ok g t 3 1 _ hr5 htm (by omega) (by omega)).mono ?_
  rw [one_at t 3 (by omega)]
  have q3 : byAt t 3 < 256 := byAt_lt t 3
  generalize hB3 : byAt t 3 = b3 at *
  have HB3 := Lib.hid hB3
  clear hB3
  rintro e w6 ⟨rfl, hr6, ho6⟩
  have hf6 := hf5.only ho6 hne
  have hbl6 := ho6.below hbl5 (Nat.le_of_lt hf5.lt) hle
  clear hr5 ho6 hf5 hbl5
  go_wp2_with fail
  refine (num_ok g t 4 1 _ hr6 htm (by omega) (by omega)).mono ?_
  rw [one_at t 4 (by omega)]
  have q4 : byAt t 4 < 256 := byAt_lt t 4
  generalize hB4 : byAt t 4 = b4 at *
  have HB4 := Lib.hid hB4
  clear hB4
  rintro e w7 ⟨rfl, hr7, ho7⟩
  have hf7 := hf6.only ho7 hne
  have hbl7 := ho7.below hbl6 (Nat.le_of_lt hf6.lt) hle
  clear hr6 ho7 hf6 hbl6
  go_wp2_with fail
  have hr8 := hr7.kept (below_alloc (Below.refl w7.heap.size w7) (.cells #[.int .i64 (b2 : Int), .int .i64 (b3 : Int), .int .i64 (b4 : Int), .string ⟨#[]⟩] 37))
  have hf8 := hf7.kept (below_alloc (Below.refl w7.heap.size w7) (.cells #[.int .i64 (b2 : Int), .int .i64 (b3 : Int), .int .i64 (b4 : Int), .string ⟨#[]⟩] 37))
  have hk8 : Frm (w7.alloc (.cells #[.int .i64 (b2 : Int), .int .i64 (b3 : Int), .int .i64 (b4 : Int), .string ⟨#[]⟩] 37)) w7.heap.size b2 b3 b4 ⟨#[]⟩ := ⟨by simp, by simp, by simp, by simp, by simp, by simp, by simp, by simp⟩
  have hbl8 := hbl7.alloc (Nat.le_of_lt hf7.lt) (.cells #[.int .i64 (b2 : Int), .int .i64 (b3 : Int), .int .i64 (b4 : Int), .string ⟨#[]⟩] 37)
  have hgK : w7.heap.size ≠ g := by have := World.block_lt_of_cell? w7 _ hr7.1; simp at this; omega
  have hKK : w7.heap.size ≠ K0 := by have := hf7.lt; omega
  have hKle : K0 ≤ w7.heap.size := Nat.le_of_lt hf7.lt
  generalize w7.alloc (.cells #[.int .i64 (b2 : Int), .int .i64 (b3 : Int), .int .i64 (b4 : Int), .string ⟨#[]⟩] 37) = w8 at *
  generalize w7.heap.size = K1 at *
  clear hr7 hf7 hbl7 w7
  refine (num_ok g t 5 2 _ hr8 htm (by omega) (by omega)).mono ?_
  have hn : NumM.val ((t.data.toList.drop 5).take 2) < 65536 := NumM.val_take_lt _ 2 (by rw [List.length_take]; omega)
  generalize hN : NumM.val ((t.data.toList.drop 5).take 2) = n at *
  have HN := Lib.hid hN
  clear hN
  rintro e w9 ⟨rfl, hr9, ho9⟩
  have hf9 := hf8.only ho9 hne
  have hk9 := hk8.only ho9 hgK
  have hbl9 := ho9.below hbl8 (Nat.le_of_lt hf8.lt) hle
  clear hr8 ho9 hf8 hbl8 hk8 w8
  go_wp2_with fail
  refine (left_any g t 7 _ hr9 htm ht7).mono ?_
  rintro e w10 ⟨rfl, nd, rfl⟩
  go_wp2_with fail
  refine (text_ok g t 7 (t.size - 7) _ (hr9.drewN nd) htm (by omega)).mono ?_
  rw [show 7 + (t.size - 7) = t.size from by omega]
  rintro e w11 ⟨rfl, hr11, ho11⟩
  have hf11 := (hf9.kept (below_drewN (Below.refl _ _) nd)).only ho11 hne
  have hk11 := (hk9.kept (below_drewN (Below.refl _ _) nd)).only ho11 hgK
  have hbl11 := ho11.below (below_drewN hbl9 nd) (Nat.le_of_lt hf9.lt) hle
  clear hr9 ho11 hf9 hbl9 hk9 hr11 w9
  have hts2 : (t.extract 7 t.size).size = t.size - 7 := by rw [ByteArray.size_extract]; omega
  generalize hBD : t.extract 7 t.size = body at *
  have HBD := Lib.hid hBD
  clear hBD
  obtain ⟨f0, f1, f2, f3, y0, y1, y2, y3⟩ := hf11
  obtain ⟨k0, k1, k2, k3, x0, x1, x2, x3⟩ := hk11
  have hKK' : K0 ≠ K1 := Ne.symm hKK
  have hPT : parseT t = parseC b0 b1 b2 b3 b4 n (t.size - 7) body := by
    unfold parseT
    rw [HB0.out, HB1.out, HB2.out, HB3.out, HB4.out, HN.out, HBD.out]
  have HPT := Lib.hid hPT
  clear hPT
  by_cases e0 : b0 = 197
  · by_cases e1 : b1 = 1
    · cases e2 : kindOk (b2 : Int) with
      | false =>
        have hP : parseC b0 b1 b2 b3 b4 n (t.size - 7) body = .bad 10 := by unfold parseC; rw [if_neg (by omega), if_neg (by omega), if_pos e2]
        have d0 : ((b0 : Int) != 197) = false := by simp; omega
        have d1 : ((b1 : Int) != 1) = false := by simp; omega
        clear e0 e1
        have HP := Lib.hid hP
        clear hP
        go_wp2_with (first | (go_at_call 54; refine (kind_any _ _).mono ?_; rintro e w' ⟨rfl, rfl⟩) | (go_at_call 55; refine (proc_any _ _).mono ?_; rintro e w' ⟨rfl, rfl⟩))
        rw [HPT.out, HP.out, HK0.out]
        refine bodyPost_ret (v := (FR.bad 10).vals) (by simp [FR.bad, FR.vals, results, Try.results31, go_sem, f0, f1, f2, f3, k0, k1, k2, k3, hKK, hKK']) rfl ⟨rfl, ?_⟩
        exact (((((hbl11.setCell hKle _).setCell (Nat.le_refl _) _).setCell (Nat.le_refl _) _).setCell (Nat.le_refl _) _).setCell (Nat.le_refl _) _)
      | true =>
        cases e3 : procOk (b3 : Int) with
        | false =>
          have hP : parseC b0 b1 b2 b3 b4 n (t.size - 7) body = .bad 1 := by unfold parseC; rw [if_neg (by omega), if_neg (by omega), e2, e3]; rfl
          have d0 : ((b0 : Int) != 197) = false := by simp; omega
          have d1 : ((b1 : Int) != 1) = false := by simp; omega
          clear e0 e1
          have HP := Lib.hid hP
          clear hP
          go_wp2_with (first | (go_at_call 54; refine (kind_any _ _).mono ?_; rintro e w' ⟨rfl, rfl⟩) | (go_at_call 55; refine (proc_any _ _).mono ?_; rintro e w' ⟨rfl, rfl⟩))
          rw [HPT.out, HP.out, HK0.out]
          refine bodyPost_ret (v := (FR.bad 1).vals) (by simp [FR.bad, FR.vals, results, Try.results31, go_sem, f0, f1, f2, f3, k0, k1, k2, k3, hKK, hKK']) rfl ⟨rfl, ?_⟩
          exact (((((hbl11.setCell hKle _).setCell (Nat.le_refl _) _).setCell (Nat.le_refl _) _).setCell (Nat.le_refl _) _).setCell (Nat.le_refl _) _)
        | true =>
          cases e4 : procOk (b4 : Int) with
          | false =>
            have hP : parseC b0 b1 b2 b3 b4 n (t.size - 7) body = .bad 1 := by unfold parseC; rw [if_neg (by omega), if_neg (by omega), e2, e3, e4]; rfl
            have d0 : ((b0 : Int) != 197) = false := by simp; omega
            have d1 : ((b1 : Int) != 1) = false := by simp; omega
            clear e0 e1
            have HP := Lib.hid hP
            clear hP
            go_wp2_with (first | (go_at_call 54; refine (kind_any _ _).mono ?_; rintro e w' ⟨rfl, rfl⟩) | (go_at_call 55; refine (proc_any _ _).mono ?_; rintro e w' ⟨rfl, rfl⟩))
            rw [HPT.out, HP.out, HK0.out]
            refine bodyPost_ret (v := (FR.bad 1).vals) (by simp [FR.bad, FR.vals, results, Try.results31, go_sem, f0, f1, f2, f3, k0, k1, k2, k3, hKK, hKK']) rfl ⟨rfl, ?_⟩
            exact (((((hbl11.setCell hKle _).setCell (Nat.le_refl _) _).setCell (Nat.le_refl _) _).setCell (Nat.le_refl _) _).setCell (Nat.le_refl _) _)
          | true =>
            by_cases e5 : 32768 < t.size - 7
            ·
              have hP : parseC b0 b1 b2 b3 b4 n (t.size - 7) body = .bad 3 := by unfold parseC; rw [if_neg (by omega), if_neg (by omega), e2, e3, e4]; simp [e5]
              have d0 : ((b0 : Int) != 197) = false := by simp; omega
              have d1 : ((b1 : Int) != 1) = false := by simp; omega
              have d5 : decide (32768 < (((t.size - 7 : Nat)) : Int)) = true := by simp; omega
              clear e0 e1 e5
              have HP := Lib.hid hP
              clear hP
              go_wp2_with (first | (go_at_call 54; refine (kind_any _ _).mono ?_; rintro e w' ⟨rfl, rfl⟩) | (go_at_call 55; refine (proc_any _ _).mono ?_; rintro e w' ⟨rfl, rfl⟩))
              rw [HPT.out, HP.out, HK0.out]
              refine bodyPost_ret (v := (FR.bad 3).vals) (by simp [FR.bad, FR.vals, results, Try.results31, go_sem, f0, f1, f2, f3, k0, k1, k2, k3, hKK, hKK']) rfl ⟨rfl, ?_⟩
              exact (((((hbl11.setCell hKle _).setCell (Nat.le_refl _) _).setCell (Nat.le_refl _) _).setCell (Nat.le_refl _) _).setCell (Nat.le_refl _) _)
            · by_cases e6 : t.size - 7 = n
              ·
                have hP : parseC b0 b1 b2 b3 b4 n (t.size - 7) body = ⟨b2, b3, b4, body, 0⟩ := by unfold parseC; rw [if_neg (by omega), if_neg (by omega), e2, e3, e4]; simp [e6]; omega
                have d0 : ((b0 : Int) != 197) = false := by simp; omega
                have d1 : ((b1 : Int) != 1) = false := by simp; omega
                have d5 : decide (32768 < (((t.size - 7 : Nat)) : Int)) = false := by simp; omega
                have d6 : ((((t.size - 7 : Nat)) : Int) != (n : Int)) = false := by simp; omega
                clear e0 e1 e5 e6
                have HP := Lib.hid hP
                clear hP
                go_wp2_with (first | (go_at_call 54; refine (kind_any _ _).mono ?_; rintro e w' ⟨rfl, rfl⟩) | (go_at_call 55; refine (proc_any _ _).mono ?_; rintro e w' ⟨rfl, rfl⟩))
                rw [HPT.out, HP.out, HK0.out]
                refine bodyPost_ret (v := (⟨b2, b3, b4, body, 0⟩ : FR).vals) (by simp [FR.bad, FR.vals, results, Try.results31, go_sem, f0, f1, f2, f3, k0, k1, k2, k3, hKK, hKK']) rfl ⟨rfl, ?_⟩
                exact (((((hbl11.setCell hKle _).setCell (Nat.le_refl _) _).setCell (Nat.le_refl _) _).setCell (Nat.le_refl _) _).setCell (Nat.le_refl _) _)
              ·
                have hP : parseC b0 b1 b2 b3 b4 n (t.size - 7) body = .bad 3 := by unfold parseC; rw [if_neg (by omega), if_neg (by omega), e2, e3, e4]; simp [e6]
                have d0 : ((b0 : Int) != 197) = false := by simp; omega
                have d1 : ((b1 : Int) != 1) = false := by simp; omega
                have d5 : decide (32768 < (((t.size - 7 : Nat)) : Int)) = false := by simp; omega
                have d6 : ((((t.size - 7 : Nat)) : Int) != (n : Int)) = true := by simp; omega
                clear e0 e1 e5 e6
                have HP := Lib.hid hP
                clear hP
                go_wp2_with (first | (go_at_call 54; refine (kind_any _ _).mono ?_; rintro e w' ⟨rfl, rfl⟩) | (go_at_call 55; refine (proc_any _ _).mono ?_; rintro e w' ⟨rfl, rfl⟩))
                rw [HPT.out, HP.out, HK0.out]
                refine bodyPost_ret (v := (FR.bad 3).vals) (by simp [FR.bad, FR.vals, results, Try.results31, go_sem, f0, f1, f2, f3, k0, k1, k2, k3, hKK, hKK']) rfl ⟨rfl, ?_⟩
                exact (((((hbl11.setCell hKle _).setCell (Nat.le_refl _) _).setCell (Nat.le_refl _) _).setCell (Nat.le_refl _) _).setCell (Nat.le_refl _) _)
    ·
      have hP : parseC b0 b1 b2 b3 b4 n (t.size - 7) body = .bad 9 := by unfold parseC; rw [if_neg (by omega), if_pos e1]
      have d0 : ((b0 : Int) != 197) = false := by simp; omega
      have d1 : ((b1 : Int) != 1) = true := by simp; omega
      clear e0 e1
      have HP := Lib.hid hP
      clear hP
      go_wp2_with (first | (go_at_call 54; refine (kind_any _ _).mono ?_; rintro e w' ⟨rfl, rfl⟩) | (go_at_call 55; refine (proc_any _ _).mono ?_; rintro e w' ⟨rfl, rfl⟩))
      rw [HPT.out, HP.out, HK0.out]
      refine bodyPost_ret (v := (FR.bad 9).vals) (by simp [FR.bad, FR.vals, results, Try.results31, go_sem, f0, f1, f2, f3, k0, k1, k2, k3, hKK, hKK']) rfl ⟨rfl, ?_⟩
      exact (((((hbl11.setCell hKle _).setCell (Nat.le_refl _) _).setCell (Nat.le_refl _) _).setCell (Nat.le_refl _) _).setCell (Nat.le_refl _) _)
  ·
    have hP : parseC b0 b1 b2 b3 b4 n (t.size - 7) body = .bad 4 := by unfold parseC; rw [if_pos e0]
    have d0 : ((b0 : Int) != 197) = true := by simp; omega
    clear e0
    have HP := Lib.hid hP
    clear hP
    go_wp2_with (first | (go_at_call 54; refine (kind_any _ _).mono ?_; rintro e w' ⟨rfl, rfl⟩) | (go_at_call 55; refine (proc_any _ _).mono ?_; rintro e w' ⟨rfl, rfl⟩))
    rw [HPT.out, HP.out, HK0.out]
    refine bodyPost_ret (v := (FR.bad 4).vals) (by simp [FR.bad, FR.vals, results, Try.results31, go_sem, f0, f1, f2, f3, k0, k1, k2, k3, hKK, hKK']) rfl ⟨rfl, ?_⟩
    exact (((((hbl11.setCell hKle _).setCell (Nat.le_refl _) _).setCell (Nat.le_refl _) _).setCell (Nat.le_refl _) _).setCell (Nat.le_refl _) _)

end Go.Proofs.Ythkfgjdbgnbjkaa
