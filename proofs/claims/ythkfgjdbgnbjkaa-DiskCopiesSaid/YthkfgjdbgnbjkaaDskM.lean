/- Disks in plain Lean: what a slot holds, which one is newest, what a write and a torn write leave. -/
import Derived.Test.YthkfgjdbgnbjkaaFrmL
namespace Go.Proofs.Ythkfgjdbgnbjkaa
open Go.RowKit
set_option linter.unusedSimpArgs false
set_option linter.unusedVariables false

/-- are a slot's bytes opened, and long enough? -/
def wOpen (s : ByteArray) : Bool := openOk s && decide (10 ≤ (openB s).size)
def wLen (s : ByteArray) : Nat := NumM.val (((openB s).data.toList.drop 8).take 2)
def wN (s : ByteArray) : Nat := if wOpen s then NumM.val (((openB s).data.toList.drop 0).take 8) else 0
def wR (s : ByteArray) : ByteArray := if wOpen s then (openB s).extract 10 (openB s).size else ⟨#[]⟩
def wOk (s : ByteArray) : Bool := wOpen s && decide ((openB s).size = 10 + wLen s)

/-- the newest slot of two: -1: none. -/
def nAt (x y : ByteArray) : Int := if wOk y && (!wOk x || decide (wN x < wN y)) then 1 else if wOk x then 0 else -1
def nN (x y : ByteArray) : Nat := if nAt x y = 1 then wN y else if nAt x y = 0 then wN x else 0
def nR (x y : ByteArray) : ByteArray := if nAt x y = 1 then wR y else if nAt x y = 0 then wR x else ⟨#[]⟩
/-- a record's bytes. -/
def recB (n : Nat) (s : ByteArray) : ByteArray := sealB (⟨(NumM.be 8 n ++ NumM.be 2 s.size).toArray⟩ ++ s)
def nextN (x y : ByteArray) : Nat := (nN x y + 1) % 18446744073709551616
/-- the slot that is written: the first one? -/
def first (x y : ByteArray) : Bool := decide (nAt x y ≠ 0)
/-- what is written, whole or torn. -/
def outB (x y s : ByteArray) (tear : Bool) (keep : Int) : ByteArray :=
  if tear then (recB (nextN x y) s).extract 0 (max 0 (min keep (((recB (nextN x y) s).size : Int) - 1))).toNat else recB (nextN x y) s

theorem recB_inner_size (n : Nat) (s : ByteArray) : ((⟨(NumM.be 8 n ++ NumM.be 2 s.size).toArray⟩ : ByteArray) ++ s).size = 10 + s.size := by
  rw [ByteArray.size_append, ← size_data (⟨(NumM.be 8 n ++ NumM.be 2 s.size).toArray⟩ : ByteArray)]
  simp [NumM.be_length]
theorem recB_size (n : Nat) (s : ByteArray) : (recB n s).size = 14 + s.size := by unfold recB; rw [sealB_size, recB_inner_size]; omega
theorem recB_data (n : Nat) (s : ByteArray) : ((⟨(NumM.be 8 n ++ NumM.be 2 s.size).toArray⟩ : ByteArray) ++ s).data.toList = NumM.be 8 n ++ (NumM.be 2 s.size ++ s.data.toList) := by simp
theorem rec_open (n : Nat) (s : ByteArray) : openOk (recB n s) = true := openOk_sealB _
theorem rec_openB (n : Nat) (s : ByteArray) : openB (recB n s) = (⟨(NumM.be 8 n ++ NumM.be 2 s.size).toArray⟩ : ByteArray) ++ s := openB_sealB _
theorem rec_wOpen (n : Nat) (s : ByteArray) : wOpen (recB n s) = true := by
  unfold wOpen
  rw [rec_open, rec_openB, recB_inner_size]
  simp
theorem rec_wLen (n : Nat) (s : ByteArray) (hs : s.size ≤ 8192) : wLen (recB n s) = s.size := by
  unfold wLen
  rw [rec_openB, recB_data, List.drop_left' (NumM.be_length 8 n), List.take_left' (NumM.be_length 2 _), NumM.val_be]
  omega
theorem rec_wOk (n : Nat) (s : ByteArray) (hs : s.size ≤ 8192) : wOk (recB n s) = true := by
  unfold wOk
  rw [rec_wOpen, rec_wLen n s hs, rec_openB, recB_inner_size]
  simp
theorem rec_wN (n : Nat) (s : ByteArray) (hn : n < 18446744073709551616) : wN (recB n s) = n := by
  unfold wN
  rw [rec_wOpen, if_pos rfl, rec_openB, recB_data, List.drop_zero, List.take_left' (NumM.be_length 8 n), NumM.val_be]
  exact Nat.mod_eq_of_lt hn
theorem rec_wR (n : Nat) (s : ByteArray) : wR (recB n s) = s := by
  unfold wR
  rw [rec_wOpen, if_pos rfl, rec_openB, recB_inner_size]
  apply WideShapes.bytes_inj
  have h := Lib.extract_to_end ((⟨(NumM.be 8 n ++ NumM.be 2 s.size).toArray⟩ : ByteArray) ++ s) 10
  rw [recB_inner_size] at h
  rw [h, recB_data, ← List.append_assoc, List.drop_left' (by rw [List.length_append, NumM.be_length, NumM.be_length])]

/-- a torn record is not whole. -/
theorem torn (n : Nat) (s : ByteArray) (hs : s.size ≤ 8192) (k : Nat) (hk : k < 14 + s.size) : wOk ((recB n s).extract 0 k) = false := by
  rw [Bool.eq_false_iff]
  intro h
  unfold wOk at h
  rw [Bool.and_eq_true, decide_eq_true_iff] at h
  obtain ⟨h1, h2⟩ := h
  have h1' := h1
  unfold wOpen at h1
  rw [Bool.and_eq_true, decide_eq_true_iff] at h1
  obtain ⟨ho, h10⟩ := h1
  have hsz : ((recB n s).extract 0 k).size = k := by rw [ByteArray.size_extract, recB_size]; omega
  have hts := openB_size _ ho
  rw [hsz] at hts
  have e : openB ((recB n s).extract 0 k) = ((recB n s).extract 0 k).extract 0 (k - 4) := by
    unfold openB; rw [if_pos ho, hsz]
  have hd : (openB ((recB n s).extract 0 k)).data.toList = (NumM.be 8 n ++ (NumM.be 2 s.size ++ s.data.toList)).take (k - 4) := by
    rw [e, Lib.extract_data, Lib.extract_data]
    simp only [List.drop_zero, Nat.sub_zero]
    rw [List.take_take, Nat.min_eq_left (by omega)]
    unfold recB
    rw [sealB_data, recB_data, List.take_append_of_le_length (by
      simp only [List.length_append, NumM.be_length, size_data]; omega)]
  have hl : wLen ((recB n s).extract 0 k) = s.size := by
    unfold wLen
    rw [hd, List.drop_take, List.drop_left' (NumM.be_length 8 n), List.take_take, Nat.min_eq_left (by omega), List.take_left' (NumM.be_length 2 _), NumM.val_be]
    omega
  omega

theorem nAt_cases (x y : ByteArray) : (nAt x y = -1 ∧ wOk x = false ∧ wOk y = false) ∨ (nAt x y = 0 ∧ wOk x = true ∧ (wOk y = true → wN y ≤ wN x)) ∨ (nAt x y = 1 ∧ wOk y = true ∧ (wOk x = true → wN x < wN y)) := by
  unfold nAt
  cases hx : wOk x <;> cases hy : wOk y <;> simp
  by_cases h : wN x < wN y
  · simp [h]
  · simp [h]; omega
theorem nAt_range (x y : ByteArray) : nAt x y = -1 ∨ nAt x y = 0 ∨ nAt x y = 1 := by
  rcases nAt_cases x y with h | h | h
  · exact .inl h.1
  · exact .inr (.inl h.1)
  · exact .inr (.inr h.1)

/-- an act on two slots. -/
def actX (x y s : ByteArray) (tear : Bool) (keep : Int) : ByteArray := if 8192 < s.size then x else if first x y then outB x y s tear keep else x
def actY (x y s : ByteArray) (tear : Bool) (keep : Int) : ByteArray := if 8192 < s.size then y else if first x y then y else outB x y s tear keep
def actE (s : ByteArray) : Int := if 8192 < s.size then 3 else 0

theorem outB_size (x y s : ByteArray) (tear : Bool) (keep : Int) : (outB x y s tear keep).size ≤ 14 + s.size := by
  unfold outB
  split
  · rw [ByteArray.size_extract, recB_size]; omega
  · rw [recB_size]; omega
theorem act_size (x y s : ByteArray) (tear : Bool) (keep : Int) (hx : x.size ≤ 10000) (hy : y.size ≤ 10000) : (actX x y s tear keep).size ≤ 10000 ∧ (actY x y s tear keep).size ≤ 10000 := by
  have := outB_size x y s tear keep
  unfold actX actY
  by_cases h : 8192 < s.size
  · rw [if_pos h, if_pos h]; exact ⟨hx, hy⟩
  · rw [if_neg h, if_neg h]
    cases first x y <;> simp <;> omega
theorem pick1 {x y : ByteArray} (hy : wOk y = true) (hx : wOk x = true → wN x < wN y) : nAt x y = 1 ∧ nR x y = wR y ∧ nN x y = wN y := by
  have h : nAt x y = 1 := by
    unfold nAt
    rw [hy]
    cases h : wOk x with
    | false => rfl
    | true => simp [hx h]
  refine ⟨h, ?_, ?_⟩
  · unfold nR; rw [h, if_pos rfl]
  · unfold nN; rw [h, if_pos rfl]
theorem pick0 {x y : ByteArray} (hx : wOk x = true) (hy : wOk y = true → wN y ≤ wN x) : nAt x y = 0 ∧ nR x y = wR x ∧ nN x y = wN x := by
  have h : nAt x y = 0 := by
    unfold nAt
    rw [hx]
    cases h : wOk y with
    | false => rfl
    | true => have := hy h; simp; omega
  refine ⟨h, ?_, ?_⟩
  · unfold nR; rw [h, if_neg (by decide), if_pos rfl]
  · unfold nN; rw [h, if_neg (by decide), if_pos rfl]
theorem pickN {x y : ByteArray} (hx : wOk x = false) (hy : wOk y = false) : nAt x y = -1 ∧ nR x y = ⟨#[]⟩ ∧ nN x y = 0 := by
  have h : nAt x y = -1 := by unfold nAt; rw [hx, hy]; rfl
  refine ⟨h, ?_, ?_⟩
  · unfold nR; rw [h, if_neg (by decide), if_neg (by decide)]
  · unfold nN; rw [h, if_neg (by decide), if_neg (by decide)]
theorem act_small (x y s : ByteArray) (tear : Bool) (keep : Int) (hs : s.size ≤ 8192) :
    actX x y s tear keep = (if first x y then outB x y s tear keep else x) ∧ actY x y s tear keep = (if first x y then y else outB x y s tear keep) := by
  have h8 : ¬ 8192 < s.size := by omega
  exact ⟨by unfold actX; rw [if_neg h8], by unfold actY; rw [if_neg h8]⟩
theorem act_big (x y s : ByteArray) (tear : Bool) (keep : Int) (hs : 8192 < s.size) : actX x y s tear keep = x ∧ actY x y s tear keep = y :=
  ⟨by unfold actX; rw [if_pos hs], by unfold actY; rw [if_pos hs]⟩

/-- a write's newest is what is written. -/
theorem write_newest (x y s : ByteArray) (hs : s.size ≤ 8192) (hn : nN x y + 1 < 18446744073709551616) (keep : Int) :
    nAt (actX x y s false keep) (actY x y s false keep) ≠ -1 ∧ nR (actX x y s false keep) (actY x y s false keep) = s ∧ nN (actX x y s false keep) (actY x y s false keep) = nN x y + 1 := by
  have ho : outB x y s false keep = recB (nN x y + 1) s := by unfold outB nextN; rw [Nat.mod_eq_of_lt hn]; rfl
  have k1 := rec_wOk (nN x y + 1) s hs
  have k2 := rec_wN (nN x y + 1) s hn
  have k3 := rec_wR (nN x y + 1) s
  obtain ⟨a1, a2⟩ := act_small x y s false keep hs
  rw [a1, a2, ho]
  rcases nAt_cases x y with ⟨h, hx, hy⟩ | ⟨h, hx, hy⟩ | ⟨h, hy, hx⟩
  · have hf : first x y = true := by unfold first; rw [h]; rfl
    simp only [hf, if_true]
    obtain ⟨p1, p2, p3⟩ := pick0 (x := recB (nN x y + 1) s) (y := y) k1 (fun h => by rw [hy] at h; cases h)
    rw [p1, p2, p3, k2, k3]
    exact ⟨by decide, rfl, rfl⟩
  · have hf : first x y = false := by unfold first; rw [h]; rfl
    simp only [hf, Bool.false_eq_true, if_false]
    obtain ⟨_, _, hN⟩ := pick0 hx hy
    obtain ⟨p1, p2, p3⟩ := pick1 (x := x) (y := recB (nN x y + 1) s) k1 (fun _ => by rw [k2, hN]; omega)
    rw [p1, p2, p3, k2, k3]
    exact ⟨by decide, rfl, rfl⟩
  · have hf : first x y = true := by unfold first; rw [h]; rfl
    simp only [hf, if_true]
    obtain ⟨_, _, hN⟩ := pick1 hy hx
    obtain ⟨p1, p2, p3⟩ := pick0 (x := recB (nN x y + 1) s) (y := y) k1 (fun _ => by rw [k2, hN]; omega)
    rw [p1, p2, p3, k2, k3]
    exact ⟨by decide, rfl, rfl⟩
/-- a torn write's newest is the old one. -/
theorem tear_newest (x y s : ByteArray) (hs : s.size ≤ 8192) (keep : Int) :
    nAt (actX x y s true keep) (actY x y s true keep) = nAt x y ∧ nR (actX x y s true keep) (actY x y s true keep) = nR x y ∧ nN (actX x y s true keep) (actY x y s true keep) = nN x y := by
  have ho : wOk (outB x y s true keep) = false := by
    unfold outB
    rw [if_pos rfl]
    exact torn _ s hs _ (by rw [recB_size]; omega)
  obtain ⟨a1, a2⟩ := act_small x y s true keep hs
  rw [a1, a2]
  generalize outB x y s true keep = o at *
  rcases nAt_cases x y with ⟨h, hx, hy⟩ | ⟨h, hx, hy⟩ | ⟨h, hy, hx⟩
  · have hf : first x y = true := by unfold first; rw [h]; rfl
    simp only [hf, if_true]
    obtain ⟨p1, p2, p3⟩ := pickN (x := o) (y := y) ho hy
    obtain ⟨q1, q2, q3⟩ := pickN hx hy
    rw [p1, p2, p3, q1, q2, q3]
    exact ⟨rfl, rfl, rfl⟩
  · have hf : first x y = false := by unfold first; rw [h]; rfl
    simp only [hf, Bool.false_eq_true, if_false]
    obtain ⟨p1, p2, p3⟩ := pick0 (x := x) (y := o) hx (fun h => by rw [ho] at h; cases h)
    obtain ⟨q1, q2, q3⟩ := pick0 hx hy
    rw [p1, p2, p3, q1, q2, q3]
    exact ⟨rfl, rfl, rfl⟩
  · have hf : first x y = true := by unfold first; rw [h]; rfl
    simp only [hf, if_true]
    obtain ⟨p1, p2, p3⟩ := pick1 (x := o) (y := y) hy (fun h => by rw [ho] at h; cases h)
    obtain ⟨q1, q2, q3⟩ := pick1 hy hx
    rw [p1, p2, p3, q1, q2, q3]
    exact ⟨rfl, rfl, rfl⟩
/-- one slot at most is turned. -/
theorem one_slot (x y s : ByteArray) (tear : Bool) (keep : Int) : actX x y s tear keep = x ∨ actY x y s tear keep = y := by
  by_cases hs : 8192 < s.size
  · exact .inl (act_big x y s tear keep hs).1
  · obtain ⟨a1, a2⟩ := act_small x y s tear keep (by omega)
    rw [a1, a2]
    cases first x y <;> simp
end Go.Proofs.Ythkfgjdbgnbjkaa
