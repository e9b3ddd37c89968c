/- The walk of the reference's Text. -/
import Derived.Test.YthkfgjdbgnbjkaaPkTm
namespace Go.Proofs.Ythkfgjdbgnbjkaa
open Go.RowKit Go.Sort
set_option linter.unusedSimpArgs false
set_option linter.unusedVariables false

set_option maxHeartbeats 800000 in
theorem rtext_no (s : ByteArray) (p n : Nat) (w : World) (hs : s.size ≤ 1000000) (hn : n ≤ 1000000) (hp : p ≤ s.size) (h : s.size < p + n) :
    Calls Try.prog 105 #[.string s, .int .i64 (p : Int), .int .i64 (n : Int)] w fun e w' => e = .returned (.tuple #[.string ⟨#[]⟩, .int .i64 (p : Int), .bool false]) ∧ w = w' := by
  have d1 : decide ((n : Int) < 0) = false := by simp
  have ew : IntKind.i64.wrap ((s.size : Int) - (p : Int)) = (s.size : Int) - (p : Int) := IntWalk.i64_in _ (by omega)
  have d2 : decide ((s.size : Int) - (p : Int) < (n : Int)) = true := by simp; omega
  go_enter Try.func105, Try.ntmps105
  go_wp2
  go_ret3
  exact ⟨rfl, rfl⟩
set_option maxHeartbeats 800000 in
theorem rtext_ok (s : ByteArray) (p n : Nat) (w : World) (hs : s.size ≤ 1000000) (hn : n ≤ 1000000) (hp : p + n ≤ s.size) :
    Calls Try.prog 105 #[.string s, .int .i64 (p : Int), .int .i64 (n : Int)] w fun e w' => e = .returned (.tuple #[.string (s.extract p (p + n)), .int .i64 ((p + n : Nat) : Int), .bool true]) ∧ w = w' := by
  have d1 : decide ((n : Int) < 0) = false := by simp
  have ew : IntKind.i64.wrap ((s.size : Int) - (p : Int)) = (s.size : Int) - (p : Int) := IntWalk.i64_in _ (by omega)
  have d2 : decide ((s.size : Int) - (p : Int) < (n : Int)) = false := by simp; omega
  have ew2 : IntKind.i64.wrap ((p : Int) + (n : Int)) = ((p + n : Nat) : Int) := by
    rw [show ((p + n : Nat) : Int) = (p : Int) + (n : Int) by omega]
    exact IntWalk.i64_in _ (by omega)
  go_enter Try.func105, Try.ntmps105
  go_wp2
  go_ret3
  exact ⟨rfl, rfl⟩
end Go.Proofs.Ythkfgjdbgnbjkaa
