/- Fields in a row, in plain Lean; a field, whatever its letter. -/
import Derived.Test.YthkfgjdbgnbjkaaPkTt
import Derived.Test.YthkfgjdbgnbjkaaPkHas
namespace Go.Proofs.Ythkfgjdbgnbjkaa
open Go.RowKit Go.Sort
set_option linter.unusedSimpArgs false
set_option linter.unusedVariables false

/-- fields in a row. -/
def foldP : List Nat → Pk → List UInt8 → In Pk
  | [], p, l => .ok (p, l)
  | f :: fs, p, l => andP (fieldP f p l) fun q r => foldP fs q r
theorem andT_assoc {α β γ : Type} (x : In α) (f : α → List UInt8 → In β) (g : β → List UInt8 → In γ) : andP (andP x f) g = andP x fun a r => andP (f a r) g := by
  cases x with
  | error c => rfl
  | ok y => rfl
theorem andT_ok {α β : Type} (a : α) (r : List UInt8) (f : α → List UInt8 → In β) : andP (.ok (a, r)) f = f a r := rfl
theorem andT_err {α β : Type} (c : Int) (f : α → List UInt8 → In β) : andP (.error c) f = .error c := rfl
theorem andT_if {α β : Type} (p : Prop) [Decidable p] (x y : In α) (f : α → List UInt8 → In β) : andP (if p then x else y) f = if p then andP x f else andP y f := by
  split <;> rfl
/-- the letters of a kind's row. -/
def rowN : Int → List Nat := fun k =>
  if k = 1 then [99, 109] else if k = 2 then [99, 115, 110, 103, 104] else if k = 3 then [99, 119, 113] else if k = 4 then [99, 112, 101, 98] else if k = 5 then [99, 98]
  else if k = 6 then [99, 120] else if k = 7 then [99, 98, 108] else if k = 8 then [99, 119, 113] else if k = 9 then [99, 119, 109] else [99]
theorem body_fold (k f t : Int) (l : List UInt8) (hk : 1 ≤ k ∧ k ≤ 11) :
    bodyP k f t l = match foldP (rowN k) { Pk.zero with kind := k, src := f, dst := t } l with
      | .error c => .error c
      | .ok (p, r) => if r = [] then .ok p else .error 4 := by
  obtain rfl | rfl | rfl | rfl | rfl | rfl | rfl | rfl | rfl | rfl | rfl : k = 1 ∨ k = 2 ∨ k = 3 ∨ k = 4 ∨ k = 5 ∨ k = 6 ∨ k = 7 ∨ k = 8 ∨ k = 9 ∨ k = 10 ∨ k = 11 := by omega
  all_goals
    unfold bodyP
    simp [rowN, foldP, fieldP, restP, andT_assoc, andT_ok, andT_err, andT_if, Pk.zero]
    rfl
theorem row_any (k : Int) (w : World) (hk : 1 ≤ k ∧ k ≤ 11) : ∃ s : ByteArray, s.data.toList.map (·.toNat) = rowN k ∧ ∀ w, Calls Try.prog 70 #[.int .i64 k] w fun e w' => e = .returned (.string s) ∧ w = w' := by
  obtain rfl | rfl | rfl | rfl | rfl | rfl | rfl | rfl | rfl | rfl | rfl : k = 1 ∨ k = 2 ∨ k = 3 ∨ k = 4 ∨ k = 5 ∨ k = 6 ∨ k = 7 ∨ k = 8 ∨ k = 9 ∨ k = 10 ∨ k = 11 := by omega
  · exact ⟨_, rfl, row1⟩
  · exact ⟨_, rfl, row2⟩
  · exact ⟨_, rfl, row3⟩
  · exact ⟨_, rfl, row4⟩
  · exact ⟨_, rfl, row5⟩
  · exact ⟨_, rfl, row6⟩
  · exact ⟨_, rfl, row7⟩
  · exact ⟨_, rfl, row8⟩
  · exact ⟨_, rfl, row9⟩
  · exact ⟨_, rfl, row10⟩
  · exact ⟨_, rfl, row11⟩
/-- letters whose field a walk shows. -/
def lets : List Nat := [99, 109, 115, 110, 103, 104, 119, 113, 112, 101, 98, 120, 108]
theorem rowN_lets (k : Int) : ∀ f ∈ rowN k, f ∈ lets := by
  unfold rowN
  intro f hf
  repeat' split at hf
  all_goals (simp at hf; simp [lets]; omega)
theorem rowN_len (k : Int) : 1 ≤ (rowN k).length ∧ (rowN k).length ≤ 5 := by
  unfold rowN
  repeat' split
  all_goals simp
theorem rowN_last (k : Int) (i : Nat) (hi : i + 1 < (rowN k).length) : (rowN k).getD i 0 ≠ 120 ∧ (rowN k).getD i 0 ≠ 108 := by
  unfold rowN at hi ⊢
  repeat' split
  all_goals
    simp only [*, if_true, if_false] at hi
    have h5 : i = 0 ∨ i = 1 ∨ i = 2 ∨ i = 3 := by simp at hi <;> omega
    rcases h5 with rfl | rfl | rfl | rfl <;> first | decide | (exfalso; revert hi; decide)
theorem tfield_any (f : Nat) (g : Nat) (s : ByteArray) (m : Nat) (st : St) (p : Pk) (Am : Option Addr) (cm : Nat) (Ag : Option Addr) (cg : Nat) (Ax : Option Addr) (cx : Nat) (B : Nat) (w : World) (h : Tk w g s m st) (hs : s.size ≤ 1000000) (hm : m ≤ 1600000)
    (hgB : g < B) (hB : B ≤ w.heap.size) (hr : PkRows w B p Am cm Ag cg Ax cx) (hf : f ∈ lets) (hx : f = 108 → p.x = [] ∧ Ax = none ∧ cx = 0) :
    Calls Try.prog 71 #[.pointer (some ⟨g, 0, none⟩), .int .u8 (f : Int), pkV p Am cm Ag cg Ax cx] w (TF g s m st B (fieldP f p) (if f = 120 ∨ f = 108 then none else some (p.x, Ax, cx)) w) := by
  have hl : f = 99 ∨ f = 109 ∨ f = 115 ∨ f = 110 ∨ f = 103 ∨ f = 104 ∨ f = 119 ∨ f = 113 ∨ f = 112 ∨ f = 101 ∨ f = 98 ∨ f = 120 ∨ f = 108 := by simpa [lets] using hf
  clear hf
  rcases hl with rfl | rfl | rfl | rfl | rfl | rfl | rfl | rfl | rfl | rfl | rfl | rfl | rfl
  · exact tfield_c g s m st p Am cm Ag cg Ax cx B w h hs hm hgB hB hr
  · by_cases hk : p.kind = 9
    · exact tfield_m1 g s m st p Am cm Ag cg Ax cx B w h hs hm hgB hB hr hk
    · exact tfield_m0 g s m st p Am cm Ag cg Ax cx B w h hs hm hgB hB hr hk
  · exact tfield_s g s m st p Am cm Ag cg Ax cx B w h hs hm hgB hB hr
  · exact tfield_n g s m st p Am cm Ag cg Ax cx B w h hs hm hgB hB hr
  · exact tfield_g g s m st p Am cm Ag cg Ax cx B w h hs hm hgB hB hr
  · exact tfield_h g s m st p Am cm Ag cg Ax cx B w h hs hm hgB hB hr
  · exact tfield_w g s m st p Am cm Ag cg Ax cx B w h hs hm hgB hB hr
  · exact tfield_q g s m st p Am cm Ag cg Ax cx B w h hs hm hgB hB hr
  · exact tfield_p g s m st p Am cm Ag cg Ax cx B w h hs hm hgB hB hr
  · exact tfield_e g s m st p Am cm Ag cg Ax cx B w h hs hm hgB hB hr
  · exact tfield_b g s m st p Am cm Ag cg Ax cx B w h hs hm hgB hB hr
  · exact tfield_x g s m st p Am cm Ag cg Ax cx B w h hs hm hgB hB hr
  · obtain ⟨h1, h2, h3⟩ := hx rfl
    exact tfield_l g s m st p Am cm Ag cg Ax cx B w h hs hm hgB hB hr h1 h2 h3
end Go.Proofs.Ythkfgjdbgnbjkaa
