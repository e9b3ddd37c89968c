/- A row of acts that came as an argument: its cells. -/
import Derived.Test.YthkfgjdbgnbjkaaDskH
import Derived.Deep.Slices
import Derived.ChangeSame
namespace Go.Proofs.Ythkfgjdbgnbjkaa
open Go.ChangeShapes Go.WideShapes Go.Deep
set_option linter.unusedVariables false
set_option maxRecDepth 100000

theorem cells56 : Try.prog.cellsOf 56 = 3 := by kernel_rfl
theorem cells9 : Try.prog.cellsOf 9 = 1 := by kernel_rfl
theorem cells4 : Try.prog.cellsOf 4 = 1 := by kernel_rfl
theorem cells3 : Try.prog.cellsOf 3 = 1 := by kernel_rfl

section
variable {H : Type} {enc : TypeId × Value → H} {w : World} {base : Nat} {spare : Nat → Bool} {held : Bool}
theorem one_act {fuel : Nat} {cs : List Value} {x : DataW H × List MemPlace} (h : DataW.trod enc Try.prog w base spare held fuel 56 cs = some x) :
    ∃ (s : ByteArray) (t : Bool) (k : Int), cs = [.string s, .bool t, .int .i64 k] := by
  obtain ⟨ys, n, _, _, hlen, hyl, hf⟩ := DataW.trod_struct Try.underlying56 h
  rw [cells56] at hlen
  match cs, hlen with
  | [a, b, c], _ =>
    have hy : ys.length = 3 := hyl
    match ys, hy with
    | [y0, y1, y2], _ =>
      have h0 : DataW.trod enc Try.prog w base spare held n 9 (([a, b, c].drop 0).take (Try.prog.cellsOf 9)) = some y0 := hf 0 _ rfl
      have h1 : DataW.trod enc Try.prog w base spare held n 4 (([a, b, c].drop 1).take (Try.prog.cellsOf 4)) = some y1 := hf 1 _ rfl
      have h2 : DataW.trod enc Try.prog w base spare held n 3 (([a, b, c].drop 2).take (Try.prog.cellsOf 3)) = some y2 := hf 2 _ rfl
      rw [cells9] at h0
      rw [cells4] at h1
      rw [cells3] at h2
      obtain ⟨s, e0, _, _⟩ := DataW.trod_string Try.underlying9 h0
      obtain ⟨t, e1, _⟩ := DataW.trod_bool Try.underlying4 h1
      obtain ⟨k, e2, _, _⟩ := DataW.trod_int Try.underlying3 h2
      simp at e0 e1 e2
      subst e0 e1 e2
      exact ⟨s, t, k, rfl⟩

theorem acts_open {r : Reach} {b0 : Nat} {v : Value} {d : DataW H} {p : List MemPlace} (hv : Value.okWide Try.prog w r b0 49 v) (h : DataW.Trod enc Try.prog w base spare held 49 v d p) :
    ∃ (A : Option Addr) (n c : Nat) (f : Nat → A8), v = .slice A n c ∧ n ≤ maxLen ∧ ActsAt w A n f := by
  obtain ⟨A, n, c, rfl⟩ := okWide_slice Try.underlying49 hv
  obtain ⟨m, hm⟩ := h
  rcases open_slice Try.underlying49 hm with ⟨h0, _⟩ | ⟨a, len, cap, q, n', D, Pl, hcs, _, hl, hc, hq, _, hat⟩
  · have e : [Value.slice A n c] = [.slice none 0 0] := h0
    simp only [List.cons.injEq, Value.slice.injEq, and_true] at e
    obtain ⟨rfl, rfl, rfl⟩ := e
    exact ⟨none, 0, 0, fun _ => ⟨⟨#[]⟩, false, 0⟩, rfl, Nat.zero_le _, fun i hi => absurd hi (Nat.not_lt_zero i)⟩
  · have e : [Value.slice A n c] = [.slice (some a) len cap] := hcs
    simp only [List.cons.injEq, Value.slice.injEq, and_true] at e
    obtain ⟨rfl, rfl, rfl⟩ := e
    have hf : ∀ i, i < n → ∃ b : A8, w.cells? base (a.add (i * 3)) 3 = some [.string b.s, .bool b.t, .int .i64 b.k] := by
      intro i hi
      have hiq : i < q := by rw [hq]; split <;> omega
      obtain ⟨cs', h1, h2⟩ := hat i hiq
      obtain ⟨s, t, k, rfl⟩ := one_act h2
      rw [cells56] at h1
      exact ⟨⟨s, t, k⟩, h1⟩
    haveI : Inhabited A8 := ⟨⟨⟨#[]⟩, false, 0⟩⟩
    obtain ⟨f, hf'⟩ := choose_lt hf
    refine ⟨some a, n, c, f, rfl, Nat.le_trans hl hc, fun i hi => ⟨a, rfl, ?_⟩⟩
    obtain ⟨_, _, hall⟩ := World.cells?_some (hf' i hi)
    have g0 := hall 0 (by omega)
    have g1 := hall 1 (by omega)
    have g2 := hall 2 (by omega)
    rw [add_add] at g0 g1 g2
    exact ⟨g0, g1, g2⟩
end
end Go.Proofs.Ythkfgjdbgnbjkaa
