/- The walks of consortref08: put. -/
import Derived.Test.YthkfgjdbgnbjkaaDskE
import Derived.Test.YthkfgjdbgnbjkaaDskC
namespace Go.Proofs.Ythkfgjdbgnbjkaa
open Go.RowKit
set_option linter.unusedSimpArgs false
set_option linter.unusedVariables false

/-- what the reference's put writes: all where keep is below 0. -/
def putB (x y s : ByteArray) (keep : Int) : ByteArray := if keep < 0 then recB (nextN x y) s else (recB (nextN x y) s).extract 0 (min keep (((recB (nextN x y) s).size : Int) - 1)).toNat
theorem slot_cases1 (x y : ByteArray) : ((nAt x y + 1 == 1) = false ∧ first x y = true) ∨ ((nAt x y + 1 == 1) = true ∧ first x y = false) := by
  unfold first
  rcases nAt_range x y with h | h | h
  · rw [h]; exact .inl ⟨rfl, rfl⟩
  · rw [h]; exact .inr ⟨rfl, rfl⟩
  · rw [h]; exact .inl ⟨rfl, rfl⟩

theorem bytes_nil_append (s : ByteArray) : (⟨#[]⟩ : ByteArray) ++ s = s := by
  apply WideShapes.bytes_inj
  simp
theorem bytes_append_lit (a b : List UInt8) : (⟨a.toArray⟩ : ByteArray) ++ ⟨b.toArray⟩ = ⟨(a ++ b).toArray⟩ := by
  apply WideShapes.bytes_inj
  simp

set_option maxHeartbeats 800000 in
theorem rput8_all (b : Bool) (x y s : ByteArray) (keep : Int) (w : World) (hx : x.size ≤ 1000004) (hy : y.size ≤ 1000004) (hs : s.size ≤ 8192) (hk : keep < 0) (hb : (nAt x y + 1 == 1) = b) :
    Calls Try.prog 65 #[.agg #[.string x, .string y], .string s, .int .i64 keep] w fun e w' => e = .returned (if b then .agg #[.string x, .string (recB (nextN x y) s)] else .agg #[.string (recB (nextN x y) s), .string y]) ∧ Below w.heap.size w w' := by
  have hnew := fun W => rnewest_any x y W hx hy
  have HN := Lib.hid hnew
  have hwr : IntKind.u64.wrap ((nN x y : Int) + 1) = ((nextN x y : Nat) : Int) := by
    rw [IntKind.wrap_u64]; unfold nextN; omega
  have hnx : U64 (nextN x y) := Nat.mod_lt _ (by omega)
  have hu2 : U64 s.size := by unfold U64; omega
  have hrec : recB (nextN x y) s = sealB (⟨(NumM.be 8 (nextN x y) ++ NumM.be 2 s.size).toArray⟩ ++ s) := rfl
  have HR := Lib.hid hrec
  clear hnew hrec
  generalize nextN x y = m at *
  generalize nN x y = n at *
  have HW := Lib.hid hwr
  generalize recB m s = R at *
  clear hwr
  have hd : decide (0 ≤ keep) = false := by simp; omega
  have hd2 : decide (keep ≥ 0) = false := hd
  have hb0 : Below w.heap.size w ((w.alloc (.cells #[.string x, .string y] 54)).alloc (.cells #[.string ⟨#[]⟩, .string ⟨#[]⟩] 54)) := below_alloc (below_alloc (Below.refl _ _) _) _
  have hA0 : DskAt ((w.alloc (.cells #[.string x, .string y] 54)).alloc (.cells #[.string ⟨#[]⟩, .string ⟨#[]⟩] 54)) w.heap.size x y := ⟨by simp, by simp, by simp, by simp⟩
  have hB0 : DskAt ((w.alloc (.cells #[.string x, .string y] 54)).alloc (.cells #[.string ⟨#[]⟩, .string ⟨#[]⟩] 54)) (w.heap.size + 1) ⟨#[]⟩ ⟨#[]⟩ := ⟨by simp, by simp, by simp, by simp⟩
  cases b
  all_goals
    go_enter Try.func65, Try.ntmps65
    go_wp2_with fail
    refine (HN.out _).mono ?_
    rintro e w1 ⟨rfl, hb1⟩
    have hA1 := hA0.kept hb1
    have hB1 := hB0.kept hb1
    have hbl1 := below_step hb0 hb1
    clear hA0 hB0 hb0 hb1 HN
    go_wp2_with fail
    first | rw [HW.out] | skip
    refine (rput_any _ m 8 _ hnx (Nat.zero_le _) (by omega)).mono ?_
    rintro e w2 ⟨rfl, hb2⟩
    have hA2 := hA1.kept hb2
    have hB2 := hB1.kept hb2
    have hbl2 := below_step hbl1 hb2
    clear hA1 hB1 hbl1 hb2 HW
    go_wp2_with fail
    rw [show (⟨#[]⟩ : ByteArray) ++ ⟨(NumM.be 8 m).toArray⟩ = ⟨(NumM.be 8 m).toArray⟩ from bytes_nil_append _]
    refine (rput_any _ s.size 2 _ hu2 (by rw [← size_data]; simp [NumM.be_length]) (by omega)).mono ?_
    rw [bytes_append_lit]
    rintro e w3 ⟨rfl, hb3⟩
    have hA3 := hA2.kept hb3
    have hB3 := hB2.kept hb3
    have hbl3 := below_step hbl2 hb3
    clear hA2 hB2 hbl2 hb3
    have hsz : (⟨(NumM.be 8 m ++ NumM.be 2 s.size).toArray⟩ : ByteArray).size = 10 := by rw [← size_data]; simp [NumM.be_length]
    generalize (⟨(NumM.be 8 m ++ NumM.be 2 s.size).toArray⟩ : ByteArray) = hh at *
    have hln : ¬ 9223372036854775807 < 10 + s.size := by omega
    go_wp2_with fail
    refine (rseal_any _ _ (by rw [ByteArray.size_append]; omega)).mono ?_
    rw [← HR.out]
    rintro e w4 ⟨rfl, hb4⟩
    have hA4 := hA3.kept hb4
    have hB4 := hB3.kept hb4
    have hbl4 := below_step hbl3 hb4
    clear hA3 hB3 hbl3 hb4
    obtain ⟨a0, a1, a2, a3⟩ := hA4
    obtain ⟨b0, b1, b2, b3⟩ := hB4
    go_wp2_with fail
    first
      | refine bodyPost_ret (v := .agg #[.string R, .string y]) (by simp [results, Try.results65, go_sem, a0, a1, b0, b1]) rfl ⟨rfl, ?_⟩
      | refine bodyPost_ret (v := .agg #[.string x, .string R]) (by simp [results, Try.results65, go_sem, a0, a1, b0, b1]) rfl ⟨rfl, ?_⟩
    exact ((hbl4.setCell (Nat.le_refl _) _).setCell (Nat.le_succ _) _).setCell (Nat.le_succ _) _
theorem agg0 {a b y : ByteArray} (h : a = b) : Ending.returned (.agg #[.string a, .string y]) = .returned (.agg #[.string b, .string y]) := by rw [h]
theorem agg1 {a b y : ByteArray} (h : a = b) : Ending.returned (.agg #[.string y, .string a]) = .returned (.agg #[.string y, .string b]) := by rw [h]
set_option maxHeartbeats 1600000 in
theorem rput8_part (b : Bool) (x y s : ByteArray) (keep : Int) (w : World) (hx : x.size ≤ 1000004) (hy : y.size ≤ 1000004) (hs : s.size ≤ 8192) (hk : 0 ≤ keep) (hb : (nAt x y + 1 == 1) = b) :
    Calls Try.prog 65 #[.agg #[.string x, .string y], .string s, .int .i64 keep] w fun e w' => e = .returned (if b then .agg #[.string x, .string (putB x y s keep)] else .agg #[.string (putB x y s keep), .string y]) ∧ Below w.heap.size w w' := by
  have hnew := fun W => rnewest_any x y W hx hy
  have HN := Lib.hid hnew
  have hwr : IntKind.u64.wrap ((nN x y : Int) + 1) = ((nextN x y : Nat) : Int) := by
    rw [IntKind.wrap_u64]; unfold nextN; omega
  have hnx : U64 (nextN x y) := Nat.mod_lt _ (by omega)
  have hu2 : U64 s.size := by unfold U64; omega
  have hrec : recB (nextN x y) s = sealB (⟨(NumM.be 8 (nextN x y) ++ NumM.be 2 s.size).toArray⟩ ++ s) := rfl
  have HR := Lib.hid hrec
  have hsR := recB_size (nextN x y) s
  have hput : putB x y s keep = (recB (nextN x y) s).extract 0 (min keep (((recB (nextN x y) s).size : Int) - 1)).toNat := by unfold putB; rw [if_neg (by omega)]
  rw [hput]
  clear hnew hrec hput
  generalize nextN x y = m at *
  generalize nN x y = n at *
  have HW := Lib.hid hwr
  generalize recB m s = R at *
  clear hwr
  have hd : decide (0 ≤ keep) = true := by simp; omega
  have ew : IntKind.i64.wrap ((R.size : Int) - 1) = (R.size : Int) - 1 := IntWalk.i64_in _ (by omega)
  have hz1 : 0 ≤ R.size := by omega
  have hb0 : Below w.heap.size w ((w.alloc (.cells #[.string x, .string y] 54)).alloc (.cells #[.string ⟨#[]⟩, .string ⟨#[]⟩] 54)) := below_alloc (below_alloc (Below.refl _ _) _) _
  have hA0 : DskAt ((w.alloc (.cells #[.string x, .string y] 54)).alloc (.cells #[.string ⟨#[]⟩, .string ⟨#[]⟩] 54)) w.heap.size x y := ⟨by simp, by simp, by simp, by simp⟩
  have hB0 : DskAt ((w.alloc (.cells #[.string x, .string y] 54)).alloc (.cells #[.string ⟨#[]⟩, .string ⟨#[]⟩] 54)) (w.heap.size + 1) ⟨#[]⟩ ⟨#[]⟩ := ⟨by simp, by simp, by simp, by simp⟩
  cases b
  all_goals
    go_enter Try.func65, Try.ntmps65
    go_wp2_with fail
    refine (HN.out _).mono ?_
    rintro e w1 ⟨rfl, hb1⟩
    have hA1 := hA0.kept hb1
    have hB1 := hB0.kept hb1
    have hbl1 := below_step hb0 hb1
    clear hA0 hB0 hb0 hb1 HN
    go_wp2_with fail
    first | rw [HW.out] | skip
    refine (rput_any _ m 8 _ hnx (Nat.zero_le _) (by omega)).mono ?_
    rintro e w2 ⟨rfl, hb2⟩
    have hA2 := hA1.kept hb2
    have hB2 := hB1.kept hb2
    have hbl2 := below_step hbl1 hb2
    clear hA1 hB1 hbl1 hb2 HW
    go_wp2_with fail
    rw [show (⟨#[]⟩ : ByteArray) ++ ⟨(NumM.be 8 m).toArray⟩ = ⟨(NumM.be 8 m).toArray⟩ from bytes_nil_append _]
    refine (rput_any _ s.size 2 _ hu2 (by rw [← size_data]; simp [NumM.be_length]) (by omega)).mono ?_
    rw [bytes_append_lit]
    rintro e w3 ⟨rfl, hb3⟩
    have hA3 := hA2.kept hb3
    have hB3 := hB2.kept hb3
    have hbl3 := below_step hbl2 hb3
    clear hA2 hB2 hbl2 hb3
    have hsz : (⟨(NumM.be 8 m ++ NumM.be 2 s.size).toArray⟩ : ByteArray).size = 10 := by rw [← size_data]; simp [NumM.be_length]
    generalize (⟨(NumM.be 8 m ++ NumM.be 2 s.size).toArray⟩ : ByteArray) = hh at *
    have hln : ¬ 9223372036854775807 < 10 + s.size := by omega
    go_wp2_with fail
    refine (rseal_any _ _ (by rw [ByteArray.size_append]; omega)).mono ?_
    rw [← HR.out]
    rintro e w4 ⟨rfl, hb4⟩
    have hA4 := hA3.kept hb4
    have hB4 := hB3.kept hb4
    have hbl4 := below_step hbl3 hb4
    clear hA3 hB3 hbl3 hb4
    obtain ⟨a0, a1, a2, a3⟩ := hA4
    obtain ⟨b0, b1, b2, b3⟩ := hB4
    go_wp2_with fail
    · first
        | refine bodyPost_ret (v := .agg #[.string (R.extract 0 (13 + s.size)), .string y]) (by simp [results, Try.results65, go_sem, a0, a1, b0, b1]) rfl ⟨agg0 (cut_eq ?_), ?_⟩
        | refine bodyPost_ret (v := .agg #[.string x, .string (R.extract 0 (13 + s.size))]) (by simp [results, Try.results65, go_sem, a0, a1, b0, b1]) rfl ⟨agg1 (cut_eq ?_), ?_⟩
      · omega
      · exact ((hbl4.setCell (Nat.le_refl _) _).setCell (Nat.le_succ _) _).setCell (Nat.le_succ _) _
    · first
        | refine bodyPost_ret (v := .agg #[.string (R.extract 0 (keep.toNat)), .string y]) (by simp [results, Try.results65, go_sem, a0, a1, b0, b1]) rfl ⟨agg0 (cut_eq ?_), ?_⟩
        | refine bodyPost_ret (v := .agg #[.string x, .string (R.extract 0 (keep.toNat))]) (by simp [results, Try.results65, go_sem, a0, a1, b0, b1]) rfl ⟨agg1 (cut_eq ?_), ?_⟩
      · omega
      · exact ((hbl4.setCell (Nat.le_refl _) _).setCell (Nat.le_succ _) _).setCell (Nat.le_succ _) _
end Go.Proofs.Ythkfgjdbgnbjkaa
