/- The walks of the reference's Print and Parse of frames. -/
import Derived.Test.YthkfgjdbgnbjkaaFrmP
namespace Go.Proofs.Ythkfgjdbgnbjkaa
open Go.RowKit
set_option linter.unusedSimpArgs false
set_option linter.unusedVariables false

theorem RdB.convert {w : World} {g c : Nat} {l : List UInt8} (h : RdB w (some ⟨g, 0, none⟩) c l) (n : Nat) (hn : l.length = n) :
    (Go.convert 30 9 (.slice (some ⟨g, 0, none⟩) n c)).run Try.prog w = .ok (.string ⟨l.toArray⟩) w := by
  subst hn
  have := run_convert_bytes_arg (P := Try.prog) w 30 5 Try.underlying30 Try.underlying5 g 0 l.length c (l.map fun b => (b.toNat : Int)) (by simp) (fun i hi => by
    have h1 := h.2 _ rfl i (.int .u8 ((l.getD i 0).toNat : Int)) (by simp [bvals, List.getD, List.getElem?_eq_getElem hi])
    rw [Addr.add_lit] at h1
    rw [h1]
    simp [List.getD, List.getElem?_eq_getElem hi]) 9 Try.underlying9
  rw [strOf_bytes] at this
  exact this

theorem printE_kind {k f t : Int} {b : ByteArray} (h : k < 1 ∨ 11 < k) : printE k f t b = 10 := by
  have hk : kindOk k = false := by unfold kindOk; rcases h with h | h <;> simp <;> omega
  unfold printE; rw [if_pos hk]
theorem printE_range {k f t : Int} {b : ByteArray} (h1 : 1 ≤ k) (h2 : k ≤ 11) (h : f < 0 ∨ 63 < f ∨ t < 0 ∨ 63 < t) : printE k f t b = 1 := by
  have hk : kindOk k = true := by unfold kindOk; simp; omega
  have hp : (procOk f && procOk t) = false := by
    unfold procOk
    rcases h with h | h | h | h <;> simp <;> omega
  unfold printE; rw [hk, if_neg (by simp), if_pos hp]
theorem printE_rest {k f t : Int} {b : ByteArray} (h1 : 1 ≤ k) (h2 : k ≤ 11) (h3 : 0 ≤ f) (h4 : f ≤ 63) (h5 : 0 ≤ t) (h6 : t ≤ 63) : printE k f t b = if 32768 < b.size then 3 else 0 := by
  have hk : kindOk k = true := by unfold kindOk; simp; omega
  have hp : (procOk f && procOk t) = true := by unfold procOk; simp; omega
  unfold printE; rw [hk, if_neg (by simp), hp, if_neg (by simp)]
theorem printS_no {k f t : Int} {b : ByteArray} {n : Int} (h : printE k f t b = n) (hn : n ≠ 0) : printS k f t b = ⟨#[]⟩ := by unfold printS; rw [if_neg (by omega)]
theorem printS_yes {k f t : Int} {b : ByteArray} (h : printE k f t b = 0) : printS k f t b = frameB k f t b := by unfold printS; rw [if_pos h]

theorem ret_pr {s s' : ByteArray} {n n' : Int} (h : s = s') (h' : n = n') : Ending.returned (.tuple #[.string s, .int .i64 n]) = .returned (.tuple #[.string s', .int .i64 n']) := by rw [h, h']

set_option maxHeartbeats 800000 in
theorem rprint_bad (k f t : Int) (b : ByteArray) (w : World) (h : (k < 1 ∨ 11 < k) ∨ (1 ≤ k ∧ k ≤ 11 ∧ (f < 0 ∨ 63 < f ∨ t < 0 ∨ 63 < t)) ∨ (1 ≤ k ∧ k ≤ 11 ∧ 0 ≤ f ∧ f ≤ 63 ∧ 0 ≤ t ∧ t ≤ 63 ∧ 32768 < b.size)) :
    Calls Try.prog 30 #[.int .i64 k, .int .i64 f, .int .i64 t, .string b] w fun e w' => e = .returned (.tuple #[.string (printS k f t b), .int .i64 (printE k f t b)]) ∧ Below w.heap.size w w' := by
  rcases h with h | ⟨h1, h2, h⟩ | ⟨h1, h2, h3, h4, h5, h6, h⟩
  · rw [printS_no (printE_kind h) (by decide), printE_kind h]
    rcases h with h | h
    · have hd : decide (k < 1) = true := by simpa using h
      go_enter Try.func30, Try.ntmps30
      go_wp2
      go_ret2
      exact ⟨rfl, Below.refl _ _⟩
    · have hd : decide (k < 1) = false := by simp; omega
      have hd2 : decide (11 < k) = true := by simpa using h
      go_enter Try.func30, Try.ntmps30
      go_wp2
      go_ret2
      exact ⟨rfl, Below.refl _ _⟩
  · rw [printS_no (printE_range h1 h2 h) (by decide), printE_range h1 h2 h]
    have hd : decide (k < 1) = false := by simp; omega
    have hd2 : decide (11 < k) = false := by simp; omega
    by_cases a1 : f < 0
    · have hd3 : decide (f < 0) = true := by simpa using a1
      clear h
      go_enter Try.func30, Try.ntmps30
      go_wp2
      go_ret2
      exact ⟨rfl, Below.refl _ _⟩
    · have hd3 : decide (f < 0) = false := by simpa using a1
      by_cases a2 : 63 < f
      · have hd4 : decide (63 < f) = true := by simpa using a2
        clear h
        go_enter Try.func30, Try.ntmps30
        go_wp2
        go_ret2
        exact ⟨rfl, Below.refl _ _⟩
      · have hd4 : decide (63 < f) = false := by simpa using a2
        by_cases a3 : t < 0
        · have hd5 : decide (t < 0) = true := by simpa using a3
          clear h
          go_enter Try.func30, Try.ntmps30
          go_wp2
          go_ret2
          exact ⟨rfl, Below.refl _ _⟩
        · have hd5 : decide (t < 0) = false := by simpa using a3
          have hd6 : decide (63 < t) = true := by simp; omega
          clear h
          go_enter Try.func30, Try.ntmps30
          go_wp2
          go_ret2
          exact ⟨rfl, Below.refl _ _⟩
  · have he : printE k f t b = 3 := by rw [printE_rest h1 h2 h3 h4 h5 h6, if_pos h]
    rw [printS_no he (by decide), he]
    have hd : decide (k < 1) = false := by simp; omega
    have hd2 : decide (11 < k) = false := by simp; omega
    have hd3 : decide (f < 0) = false := by simp; omega
    have hd4 : decide (63 < f) = false := by simp; omega
    have hd5 : decide (t < 0) = false := by simp; omega
    have hd6 : decide (63 < t) = false := by simp; omega
    have hd7 : decide (32768 < (b.size : Int)) = true := by simp; omega
    clear he
    go_enter Try.func30, Try.ntmps30
    go_wp2
    go_ret2
    exact ⟨rfl, Below.refl _ _⟩

set_option maxHeartbeats 800000 in
theorem rprint_good (k f t : Int) (b : ByteArray) (w : World) (h1 : 1 ≤ k) (h2 : k ≤ 11) (h3 : 0 ≤ f) (h4 : f ≤ 63) (h5 : 0 ≤ t) (h6 : t ≤ 63) (h7 : ¬ 32768 < b.size) :
    Calls Try.prog 30 #[.int .i64 k, .int .i64 f, .int .i64 t, .string b] w fun e w' => e = .returned (.tuple #[.string (printS k f t b), .int .i64 (printE k f t b)]) ∧ Below w.heap.size w w' := by
  have he : printE k f t b = 0 := by rw [printE_rest h1 h2 h3 h4 h5 h6, if_neg h7]
  rw [printS_yes he, he]
  have hd : decide (k < 1) = false := by simp; omega
  have hd2 : decide (11 < k) = false := by simp; omega
  have hd3 : decide (f < 0) = false := by simp; omega
  have hd4 : decide (63 < f) = false := by simp; omega
  have hd5 : decide (t < 0) = false := by simp; omega
  have hd6 : decide (63 < t) = false := by simp; omega
  have hd7 : decide (32768 < (b.size : Int)) = false := by simp; omega
  have b1 := byteOf_int k
  have b2 := byteOf_int f
  have b3 := byteOf_int t
  have hcv := (five_rd (w.alloc (.cells #[.int .u8 ((197 : UInt8).toNat : Int), .int .u8 ((1 : UInt8).toNat : Int), .int .u8 ((byteOf k).toNat : Int), .int .u8 ((byteOf f).toNat : Int), .int .u8 ((byteOf t).toNat : Int)] 5)) w.heap.size 197 1 (byteOf k) (byteOf f) (byteOf t)
    (cell_top rfl rfl) (cell_top rfl rfl) (cell_top rfl rfl) (cell_top rfl rfl) (cell_top rfl rfl)).convert 5 rfl
  have hcv' : (Go.convert 30 9 (.slice (some ⟨w.heap.size, 0, none⟩) 5 5)).run Try.prog (w.alloc (.cells #[.int .u8 197, .int .u8 1, .int .u8 ((byteOf k).toNat : Int), .int .u8 ((byteOf f).toNat : Int), .int .u8 ((byteOf t).toNat : Int)] 5)) = .ok (.string ⟨[197, 1, byteOf k, byteOf f, byteOf t].toArray⟩) (w.alloc (.cells #[.int .u8 197, .int .u8 1, .int .u8 ((byteOf k).toNat : Int), .int .u8 ((byteOf f).toNat : Int), .int .u8 ((byteOf t).toNat : Int)] 5)) := hcv
  have hF : ∀ x : ByteArray, x = ⟨[197, 1, byteOf k, byteOf f, byteOf t].toArray⟩ → sealB (x ++ ⟨(NumM.be 2 b.size).toArray⟩ ++ b) = frameB k f t b := fun x h => by
    rw [h]
    unfold frameB
    congr 2
  have hs5 : (⟨[197, 1, byteOf k, byteOf f, byteOf t].toArray⟩ : ByteArray).size = 5 := rfl
  generalize (⟨[197, 1, byteOf k, byteOf f, byteOf t].toArray⟩ : ByteArray) = x5 at hcv' hF hs5
  have HF := Lib.hid (hF x5 rfl)
  clear hcv he hF h1 h2 h3 h4 h5 h6
  have hbe : (NumM.be 2 b.size).length = 2 := NumM.be_length 2 _
  have hl7 : ¬ 9223372036854775807 < 5 + 2 + b.size := by omega
  have hl7' : ¬ 9223372036854775807 < 7 + b.size := by omega
  go_enter Try.func30, Try.ntmps30
  go_wp2_with fail
  refine (rput_any x5 b.size 2 _ (by unfold U64; omega) (by omega) (by omega)).mono ?_
  rintro e w1 ⟨rfl, hb1⟩
  have hxs : (x5 ++ ⟨(NumM.be 2 b.size).toArray⟩ : ByteArray).size = 7 := by rw [ByteArray.size_append, hs5, ← size_data (⟨(NumM.be 2 b.size).toArray⟩ : ByteArray)]; simp [hbe]
  generalize (x5 ++ ⟨(NumM.be 2 b.size).toArray⟩ : ByteArray) = x7 at *
  go_wp2_with fail
  refine (rseal_any _ _ (by rw [ByteArray.size_append]; omega)).mono ?_
  rintro e w2 ⟨rfl, hb2⟩
  go_wp2_with fail
  go_ret2
  exact ⟨by rw [← HF.out]; rfl, below_step (below_step (below_alloc (Below.refl _ _) _) hb1) hb2⟩

theorem rprint_any (k f t : Int) (b : ByteArray) (w : World) (hb : b.size ≤ 900000) :
    Calls Try.prog 30 #[.int .i64 k, .int .i64 f, .int .i64 t, .string b] w fun e w' => e = .returned (.tuple #[.string (printS k f t b), .int .i64 (printE k f t b)]) ∧ Below w.heap.size w w' := by
  by_cases h : (k < 1 ∨ 11 < k) ∨ (1 ≤ k ∧ k ≤ 11 ∧ (f < 0 ∨ 63 < f ∨ t < 0 ∨ 63 < t)) ∨ (1 ≤ k ∧ k ≤ 11 ∧ 0 ≤ f ∧ f ≤ 63 ∧ 0 ≤ t ∧ t ≤ 63 ∧ 32768 < b.size)
  · exact rprint_bad k f t b w h
  · exact rprint_good k f t b w (by omega) (by omega) (by omega) (by omega) (by omega) (by omega) (by omega)

theorem results_tmp5 {fn : Func} {t u v x y : Tmp} (h : fn.results = #[.tmp t, .tmp u, .tmp v, .tmp x, .tmp y]) (tmps : Array Value) (P : Program) (w : World) :
    (results fn tmps).run P w = .ok (.tuple #[tmps.getD t undef, tmps.getD u undef, tmps.getD v undef, tmps.getD x undef, tmps.getD y undef]) w := by simp [results, h]

/-- the reference's answer: five values. -/
def FR.five (r : FR) : Value := .tuple #[.int .i64 r.k, .int .i64 r.f, .int .i64 r.t, .string r.b, .int .i64 r.e]

set_option maxHeartbeats 400000 in
theorem rparse_short (s : ByteArray) (w : World) (h : s.size < 11) :
    Calls Try.prog 32 #[.string s] w fun e w' => e = .returned (parseF s).five ∧ Below w.heap.size w w' := by
  have hr : parseF s = .bad 2 := by unfold parseF; rw [if_pos h]
  rw [hr]
  have hd : decide ((s.size : Int) < 11) = true := by simp; omega
  clear hr
  go_enter Try.func32, Try.ntmps32
  go_wp2
  refine bodyPost_ret (results_tmp5 rfl _ _ _) rfl ?_
  exact ⟨rfl, Below.refl _ _⟩

set_option maxHeartbeats 400000 in
theorem rparse_sum (s : ByteArray) (w : World) (h : 11 ≤ s.size) (hm : s.size ≤ 1000004) (ho : openOk s = false) :
    Calls Try.prog 32 #[.string s] w fun e w' => e = .returned (parseF s).five ∧ Below w.heap.size w w' := by
  have hr : parseF s = .bad 8 := by unfold parseF; rw [if_neg (by omega), if_pos ho]
  rw [hr]
  have hd : decide ((s.size : Int) < 11) = false := by simp; omega
  clear hr
  go_enter Try.func32, Try.ntmps32
  go_wp2_with fail
  refine (ropen_any _ _ hm).mono ?_
  rw [ho]
  rintro e w1 ⟨rfl, hb1⟩
  go_wp2_with fail
  refine bodyPost_ret (results_tmp5 rfl _ _ _) rfl ?_
  exact ⟨rfl, hb1⟩

theorem get_five (t : ByteArray) (w : World) (ht : 7 ≤ t.size) (hm : t.size ≤ 1000000) :
    Calls Try.prog 62 #[.string t, .int .i64 5, .int .i64 2] w fun e w' => e = .returned (.tuple #[.int .u64 (NumM.val ((t.data.toList.drop 5).take 2) : Int), .bool true]) ∧ w = w' :=
  get_ok t 5 2 w hm (by omega) (by omega) (by omega)
theorem byAt_get (t : ByteArray) (i : Nat) (h : i < t.size) : (t[i]'h).toNat = byAt t i := by
  unfold byAt
  have hn : i < t.data.toList.length := by rw [size_data]; exact h
  simp only [List.getD, List.getElem?_eq_getElem hn, Option.getD_some]
  rfl

section
variable {b0 b1 b2 b3 b4 n m : Nat} {body : ByteArray}
theorem pc4 (a0 : b0 ≠ 197) : parseC b0 b1 b2 b3 b4 n m body = .bad 4 := by unfold parseC; rw [if_pos a0]
theorem pc9 (a0 : b0 = 197) (a1 : b1 ≠ 1) : parseC b0 b1 b2 b3 b4 n m body = .bad 9 := by unfold parseC; rw [if_neg (by omega), if_pos a1]
theorem pc10 (a0 : b0 = 197) (a1 : b1 = 1) (a2 : b2 < 1 ∨ 11 < b2) : parseC b0 b1 b2 b3 b4 n m body = .bad 10 := by
  have hk : kindOk (b2 : Int) = false := by unfold kindOk; simp; omega
  unfold parseC; rw [if_neg (by omega), if_neg (by omega), if_pos hk]
theorem kind_yes (a2 : 1 ≤ b2 ∧ b2 ≤ 11) : kindOk (b2 : Int) = true := by unfold kindOk; simp; omega
theorem pc1 (a0 : b0 = 197) (a1 : b1 = 1) (a2 : 1 ≤ b2 ∧ b2 ≤ 11) (a3 : 63 < b3 ∨ 63 < b4) : parseC b0 b1 b2 b3 b4 n m body = .bad 1 := by
  have hp : (procOk (b3 : Int) && procOk (b4 : Int)) = false := by unfold procOk; rcases a3 with h | h <;> simp <;> omega
  unfold parseC; rw [if_neg (by omega), if_neg (by omega), kind_yes a2, if_neg (by simp), if_pos hp]
theorem proc_yes (a3 : b3 ≤ 63 ∧ b4 ≤ 63) : (procOk (b3 : Int) && procOk (b4 : Int)) = true := by unfold procOk; simp; omega
theorem pc3 (a0 : b0 = 197) (a1 : b1 = 1) (a2 : 1 ≤ b2 ∧ b2 ≤ 11) (a3 : b3 ≤ 63 ∧ b4 ≤ 63) (a5 : 32768 < m ∨ m ≠ n) : parseC b0 b1 b2 b3 b4 n m body = .bad 3 := by
  unfold parseC; rw [if_neg (by omega), if_neg (by omega), kind_yes a2, if_neg (by simp), proc_yes a3, if_neg (by simp), if_pos a5]
theorem pc0 (a0 : b0 = 197) (a1 : b1 = 1) (a2 : 1 ≤ b2 ∧ b2 ≤ 11) (a3 : b3 ≤ 63 ∧ b4 ≤ 63) (a5 : m ≤ 32768 ∧ m = n) : parseC b0 b1 b2 b3 b4 n m body = ⟨b2, b3, b4, body, 0⟩ := by
  unfold parseC; rw [if_neg (by omega), if_neg (by omega), kind_yes a2, if_neg (by simp), proc_yes a3, if_neg (by simp), if_neg (by omega)]
end

set_option maxHeartbeats 4000000 in
theorem rparse_open (s : ByteArray) (w : World) (h : 11 ≤ s.size) (hm : s.size ≤ 1000004) (ho : openOk s = true) :
    Calls Try.prog 32 #[.string s] w fun e w' => e = .returned (parseF s).five ∧ Below w.heap.size w w' := by
  have hr : parseF s = parseT (openB s) := by unfold parseF; rw [if_neg (by omega), ho, if_neg (by simp)]
  have hts := openB_size s ho
  rw [hr]
  clear hr
  have hd : decide ((s.size : Int) < 11) = false := by simp; omega
  generalize hT : openB s = t at *
  have HT := Lib.hid hT
  clear hT
  have ht7 : 7 ≤ t.size := by omega
  have htm : t.size ≤ 1000000 := by omega
  have g0 := byAt_get t 0 (by omega)
  have g1 := byAt_get t 1 (by omega)
  have g2 := byAt_get t 2 (by omega)
  have g3 := byAt_get t 3 (by omega)
  have g4 := byAt_get t 4 (by omega)
  have q0 : byAt t 0 < 256 := byAt_lt t 0
  have q1 : byAt t 1 < 256 := byAt_lt t 1
  have q2 : byAt t 2 < 256 := byAt_lt t 2
  have q3 : byAt t 3 < 256 := byAt_lt t 3
  have q4 : byAt t 4 < 256 := byAt_lt t 4
  have hPT : parseT t = parseC (byAt t 0) (byAt t 1) (byAt t 2) (byAt t 3) (byAt t 4) (NumM.val ((t.data.toList.drop 5).take 2)) (t.size - 7) (t.extract 7 t.size) := rfl
  rw [hPT]
  clear hPT
  generalize byAt t 0 = b0 at *
  generalize byAt t 1 = b1 at *
  generalize byAt t 2 = b2 at *
  generalize byAt t 3 = b3 at *
  generalize byAt t 4 = b4 at *
  have hn : NumM.val ((t.data.toList.drop 5).take 2) < 65536 := NumM.val_take_lt _ 2 (by rw [List.length_take]; omega)
  have hget := fun W => get_five t W ht7 htm
  generalize NumM.val ((t.data.toList.drop 5).take 2) = n at *
  have HG := Lib.hid hget
  have hts2 : (t.extract 7 t.size).size = t.size - 7 := by rw [ByteArray.size_extract]; omega
  have hbody : t.extract 7 t.size = t.extract 7 t.size := rfl
  generalize hBD : t.extract 7 t.size = body at *
  clear hget hbody
  go_enter Try.func32, Try.ntmps32
  go_wp2_with fail
  refine (ropen_any _ _ hm).mono ?_
  rw [ho, HT.out]
  rintro e w1 ⟨rfl, hb1⟩
  go_wp2_with fail
  refine (HG.out _).mono ?_
  rintro e w2 ⟨rfl, rfl⟩
  go_wp2_with fail
  · have a0 : b0 ≠ 197 := by
      have h : (((b0 : Nat) : Int) != 197) = true := by assumption
      simp at h; omega
    rw [pc4 a0]
    refine bodyPost_ret (results_tmp5 rfl _ _ _) rfl ?_
    exact ⟨rfl, hb1⟩
  · have a0 : b0 = 197 := by
      have h : (((b0 : Nat) : Int) != 197) = false := by assumption
      simp at h; omega
    have a1 : b1 ≠ 1 := by
      have h : (((b1 : Nat) : Int) != 1) = true := by assumption
      simp at h; omega
    rw [pc9 a0 a1]
    refine bodyPost_ret (results_tmp5 rfl _ _ _) rfl ?_
    exact ⟨rfl, hb1⟩
  · have a0 : b0 = 197 := by
      have h : (((b0 : Nat) : Int) != 197) = false := by assumption
      simp at h; omega
    have a1 : b1 = 1 := by
      have h : (((b1 : Nat) : Int) != 1) = false := by assumption
      simp at h; omega
    have a2 : b2 < 1 ∨ 11 < b2 := by
      have h : ((b2 : Nat) : Int) < 1 ∨ 11 < ((b2 : Nat) : Int) := by assumption
      omega
    rw [pc10 a0 a1 a2]
    refine bodyPost_ret (results_tmp5 rfl _ _ _) rfl ?_
    exact ⟨rfl, hb1⟩
  · have a0 : b0 = 197 := by
      have h : (((b0 : Nat) : Int) != 197) = false := by assumption
      simp at h; omega
    have a1 : b1 = 1 := by
      have h : (((b1 : Nat) : Int) != 1) = false := by assumption
      simp at h; omega
    have a2 : 1 ≤ b2 ∧ b2 ≤ 11 := by
      have h : 1 ≤ ((b2 : Nat) : Int) ∧ ((b2 : Nat) : Int) ≤ 11 := by assumption
      omega
    have a3 : 63 < b3 ∨ 63 < b4 := by
      have h : 63 < ((b3 : Nat) : Int) ∨ 63 < ((b4 : Nat) : Int) := by assumption
      omega
    rw [pc1 a0 a1 a2 a3]
    refine bodyPost_ret (results_tmp5 rfl _ _ _) rfl ?_
    exact ⟨rfl, hb1⟩
  · have a0 : b0 = 197 := by
      have h : (((b0 : Nat) : Int) != 197) = false := by assumption
      simp at h; omega
    have a1 : b1 = 1 := by
      have h : (((b1 : Nat) : Int) != 1) = false := by assumption
      simp at h; omega
    have a2 : 1 ≤ b2 ∧ b2 ≤ 11 := by
      have h : 1 ≤ ((b2 : Nat) : Int) ∧ ((b2 : Nat) : Int) ≤ 11 := by assumption
      omega
    have a3 : b3 ≤ 63 ∧ b4 ≤ 63 := by
      have h : ((b3 : Nat) : Int) ≤ 63 ∧ ((b4 : Nat) : Int) ≤ 63 := by assumption
      omega
    have a5 : 32768 < t.size - 7 ∨ t.size - 7 ≠ n := by
      have h : 32768 < ((t.size - 7 : Nat) : Int) ∨ (((t.size - 7 : Nat) : Int) != (n : Int)) = true := by assumption
      simp at h; omega
    rw [pc3 a0 a1 a2 a3 a5]
    refine bodyPost_ret (results_tmp5 rfl _ _ _) rfl ?_
    exact ⟨rfl, hb1⟩
  · have a0 : b0 = 197 := by
      have h : (((b0 : Nat) : Int) != 197) = false := by assumption
      simp at h; omega
    have a1 : b1 = 1 := by
      have h : (((b1 : Nat) : Int) != 1) = false := by assumption
      simp at h; omega
    have a2 : 1 ≤ b2 ∧ b2 ≤ 11 := by
      have h : 1 ≤ ((b2 : Nat) : Int) ∧ ((b2 : Nat) : Int) ≤ 11 := by assumption
      omega
    have a3 : b3 ≤ 63 ∧ b4 ≤ 63 := by
      have h : ((b3 : Nat) : Int) ≤ 63 ∧ ((b4 : Nat) : Int) ≤ 63 := by assumption
      omega
    have a5 : t.size - 7 ≤ 32768 ∧ t.size - 7 = n := by
      have h : ((t.size - 7 : Nat) : Int) ≤ 32768 ∧ (((t.size - 7 : Nat) : Int) != (n : Int)) = false := by assumption
      simp at h; omega
    go_quiet (fail)
    go_wp2
    rw [pc0 a0 a1 a2 a3 a5]
    refine bodyPost_ret (results_tmp5 rfl _ _ _) rfl ?_
    exact ⟨rfl, below_drewN hb1 _⟩
  · have a0 : b0 = 197 := by
      have h : (((b0 : Nat) : Int) != 197) = false := by assumption
      simp at h; omega
    have a1 : b1 = 1 := by
      have h : (((b1 : Nat) : Int) != 1) = false := by assumption
      simp at h; omega
    have a2 : 1 ≤ b2 ∧ b2 ≤ 11 := by
      have h : 1 ≤ ((b2 : Nat) : Int) ∧ ((b2 : Nat) : Int) ≤ 11 := by assumption
      omega
    have a3 : b3 ≤ 63 ∧ b4 ≤ 63 := by
      have h : ((b3 : Nat) : Int) ≤ 63 ∧ ((b4 : Nat) : Int) ≤ 63 := by assumption
      omega
    have a5 : 32768 < t.size - 7 ∨ t.size - 7 ≠ n := by
      have h : 32768 < ((t.size - 7 : Nat) : Int) := by assumption
      omega
    rw [pc3 a0 a1 a2 a3 a5]
    refine bodyPost_ret (results_tmp5 rfl _ _ _) rfl ?_
    exact ⟨rfl, hb1⟩
  · have a0 : b0 = 197 := by
      have h : (((b0 : Nat) : Int) != 197) = false := by assumption
      simp at h; omega
    have a1 : b1 = 1 := by
      have h : (((b1 : Nat) : Int) != 1) = false := by assumption
      simp at h; omega
    have a2 : 1 ≤ b2 ∧ b2 ≤ 11 := by
      have h : 1 ≤ ((b2 : Nat) : Int) ∧ ((b2 : Nat) : Int) ≤ 11 := by assumption
      omega
    have a3 : 63 < b3 ∨ 63 < b4 := by
      have h : 63 < ((b3 : Nat) : Int) := by assumption
      omega
    rw [pc1 a0 a1 a2 a3]
    refine bodyPost_ret (results_tmp5 rfl _ _ _) rfl ?_
    exact ⟨rfl, hb1⟩
  · have a0 : b0 = 197 := by
      have h : (((b0 : Nat) : Int) != 197) = false := by assumption
      simp at h; omega
    have a1 : b1 = 1 := by
      have h : (((b1 : Nat) : Int) != 1) = false := by assumption
      simp at h; omega
    have a2 : b2 < 1 ∨ 11 < b2 := by
      have h : ((b2 : Nat) : Int) < 1 := by assumption
      omega
    rw [pc10 a0 a1 a2]
    refine bodyPost_ret (results_tmp5 rfl _ _ _) rfl ?_
    exact ⟨rfl, hb1⟩

theorem rparse_any (s : ByteArray) (w : World) (hm : s.size ≤ 1000004) :
    Calls Try.prog 32 #[.string s] w fun e w' => e = .returned (parseF s).five ∧ Below w.heap.size w w' := by
  by_cases h : s.size < 11
  · exact rparse_short s w h
  · cases ho : openOk s with
    | false => exact rparse_sum s w (by omega) hm ho
    | true => exact rparse_open s w (by omega) hm ho
theorem parse_any (s : ByteArray) (w : World) (hm : s.size ≤ 1000004) :
    Calls Try.prog 31 #[.string s] w fun e w' => e = .returned (parseF s).vals ∧ Below w.heap.size w w' := by
  by_cases h : s.size < 11
  · exact parse_short s w h
  · cases ho : openOk s with
    | false => exact parse_sum s w (by omega) hm ho
    | true => exact parse_open s w (by omega) hm ho
end Go.Proofs.Ythkfgjdbgnbjkaa
