/- What the heap bears of a packet that came in. (PacketApart's own copy of laws of PkBack and PkZ2.) -/
import Derived.Test.YthkfgjdbgnbjkaaPkOne
import Derived.Test.YthkfgjdbgnbjkaaPkFew
namespace Go.Proofs.Ythkfgjdbgnbjkaa
open Go.RowKit
set_option linter.unusedSimpArgs false
set_option linter.unusedVariables false

theorem clean_okay {p : Pk} (h : p.okay) : (cleanF p).okay := by
  obtain ⟨g1, g2, g3, g4⟩ := h
  refine ⟨?_, ?_, ?_, ?_⟩ <;> unfold cleanF <;> dsimp only
  · split
    · exact g1
    · split
      · exact g1
      · exact Nat.zero_le _
  · split
    · exact g2
    · exact Nat.zero_le _
  · split
    · exact g3
    · exact Nat.zero_le _
  · split
    · exact g4
    · exact fun e he => by cases he
/-- what the heap bears of a packet that came in. -/
structure Pk.borne (p : Pk) : Prop where
  s : p.small maxLen
  pay : p.m.pay.size ≤ maxLen
  got : p.got.length ≤ 35184372088832
  m : p.m.deps.length ≤ 35184372088832
theorem Pk.borne.okay {p : Pk} (h : p.borne) (hx : p.x.length ≤ 50000) (hc : ∀ e ∈ p.x, e.cnt.length ≤ 50000) : p.okay := ⟨h.m, h.got, by omega, fun e he => by have := hc e he; omega⟩
theorem few_v {w : World} {p : Pk} {v : Value} (h : PerV w p v) (hb : p.borne) : Calls Try.prog 47 #[v] w fun e w' => (∃ b, e = .returned (.bool b) ∧ (b = true → p.okay)) ∧ Below w.heap.size w w' := by
  obtain ⟨Am, cm, Ag, cg, Ax, cx, rfl, h1, h2, h3⟩ := h
  refine (few_pk p Am cm Ag cg Ax cx w h3 hb.s.m hb.s.got hb.s.x hb.s.c hb.pay).mono ?_
  rintro e w' ⟨⟨b, rfl, hbb⟩, hbl⟩
  exact ⟨⟨b, rfl, fun h => hb.okay (hbb h).1 (hbb h).2⟩, hbl⟩

end Go.Proofs.Ythkfgjdbgnbjkaa
