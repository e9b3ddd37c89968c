/- The walks of consortlaw08: do, Few. -/
import Derived.Test.YthkfgjdbgnbjkaaDskG
import Derived.LoopTactic
namespace Go.Proofs.Ythkfgjdbgnbjkaa
open Go.RowKit
set_option linter.unusedSimpArgs false
set_option linter.unusedVariables false

/-- an act: what is written, whether torn, how much is kept. -/
structure A8 where
  s : ByteArray
  t : Bool
  k : Int
def A8.val (a : A8) : Value := .agg #[.string a.s, .bool a.t, .int .i64 a.k]
/-- a row of acts. -/
def ActsAt (w : World) (A : Option Addr) (n : Nat) (f : Nat → A8) : Prop :=
  ∀ i, i < n → ∃ ad, A = some ad ∧ w.cell? (ad.add (i * 3)) = some (.string (f i).s) ∧ w.cell? (ad.add (i * 3 + 1)) = some (.bool (f i).t) ∧ w.cell? (ad.add (i * 3 + 2)) = some (.int .i64 (f i).k)
theorem ActsAt.kept {w w' : World} {A : Option Addr} {n : Nat} {f : Nat → A8} (h : ActsAt w A n f) (hb : Below w.heap.size w w') : ActsAt w' A n f := by
  intro i hi
  obtain ⟨ad, hA, h0, h1, h2⟩ := h i hi
  exact ⟨ad, hA, cell_keep h0 hb, cell_keep h1 hb, cell_keep h2 hb⟩

set_option maxHeartbeats 400000 in
theorem do_any (g : Nat) (x y : ByteArray) (a : A8) (w : World) (h : DskAt w g x y) (hx : x.size ≤ 1000004) (hy : y.size ≤ 1000004) :
    Calls Try.prog 36 #[.pointer (some ⟨g, 0, none⟩), .agg #[.string a.s, .bool a.t, .int .i64 a.k]] w fun e w' => e = .returned (.int .i64 (actE a.s)) ∧ DskAt w' g (actX x y a.s a.t a.k) (actY x y a.s a.t a.k) ∧ Only g w w' := by
  obtain ⟨s, t, k⟩ := a
  have hb0 : Below w.heap.size w (w.alloc (.cells #[.string s, .bool t, .int .i64 k] 56)) := below_alloc (Below.refl _ _) _
  have h1 := h.kept hb0
  cases t with
  | true =>
    have hT := fun W (hd : DskAt W g x y) => dtear_any g x y s W hd hx hy k
    have HT := Lib.hid hT
    clear hT
    go_enter Try.func36, Try.ntmps36
    go_wp2_with fail
    refine (HT.out _ h1).mono ?_
    rintro e w1 ⟨rfl, hd1, ho1⟩
    go_wp2_with fail
    go_ret
    exact ⟨rfl, hd1, (Only.of_below hb0).trans ho1⟩
  | false =>
    have hT := fun W (hd : DskAt W g x y) => dwrite_any g x y s W hd hx hy k
    have HT := Lib.hid hT
    clear hT
    go_enter Try.func36, Try.ntmps36
    go_wp2_with fail
    refine (HT.out _ h1).mono ?_
    rintro e w1 ⟨rfl, hd1, ho1⟩
    go_wp2_with fail
    go_ret
    exact ⟨rfl, hd1, (Only.of_below hb0).trans ho1⟩

theorem int_eq {a b : Int} (h : a = b) : Value.int .i64 a = .int .i64 b := by rw [h]
set_option maxHeartbeats 800000 in
theorem few_any (A : Option Addr) (n c : Nat) (f : Nat → A8) (w : World) (h : ActsAt w A n f) (hn : n ≤ maxLen) :
    Calls Try.prog 34 #[.slice A n c] w fun e w' => (e = .returned (.bool false) ∨ (e = .returned (.bool true) ∧ n ≤ 200)) ∧ w = w' := by
  have HA := Lib.hid h
  unfold maxLen at hn
  clear h
  go_enter Try.func34, Try.ntmps34
  go_wp2_with fail
  go_loop [3, 4] (fun t i => ∃ k m : Nat, k ≤ n ∧ k ≤ 200 ∧ m ≤ 100000 ∧ i = .int .i64 k ∧ t = .int .i64 m) (fun _ i => n - (intOf i).toNat)
  case atStart => exact ⟨0, 0, by omega, by omega, by omega, rfl, rfl⟩
  case round =>
    obtain ⟨k, m, hk, hk2, hm, rfl, rfl⟩ := hrel
    by_cases hlt : k < n
    · obtain ⟨ad, rfl, h0, _, _⟩ := HA.out k hlt
      clear HA hn
      generalize (f k).s = sk at *
      set_option maxRecDepth 8000 in
      go_wp2
      all_goals first
        | (go_ret; exact ⟨.inl rfl, rfl⟩)
        | (refine ⟨⟨k + 1, m + min sk.size 100000, by omega, by omega, by omega, by go_num, int_eq (by omega)⟩, by simp [intOf]; omega⟩)
    · obtain rfl : k = n := by omega
      go_wp2_with fail
      go_ret
      first | exact ⟨.inr ⟨rfl, hk2⟩, rfl⟩ | exact ⟨.inr rfl, rfl⟩
end Go.Proofs.Ythkfgjdbgnbjkaa
