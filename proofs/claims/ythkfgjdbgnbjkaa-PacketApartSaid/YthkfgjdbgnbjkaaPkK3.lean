/- The walk of packet's Clean, whatever the kind. -/
import Derived.Test.YthkfgjdbgnbjkaaPkY0
import Derived.Test.YthkfgjdbgnbjkaaPkY1
import Derived.Test.YthkfgjdbgnbjkaaPkY2
import Derived.Test.YthkfgjdbgnbjkaaPkY3
import Derived.Test.YthkfgjdbgnbjkaaPkY4
import Derived.Test.YthkfgjdbgnbjkaaPkY5
import Derived.Test.YthkfgjdbgnbjkaaPkY6
import Derived.Test.YthkfgjdbgnbjkaaPkY7
import Derived.Test.YthkfgjdbgnbjkaaPkY8
import Derived.Test.YthkfgjdbgnbjkaaPkY9
import Derived.Test.YthkfgjdbgnbjkaaPkY10
import Derived.Test.YthkfgjdbgnbjkaaPkY11
import Derived.Test.YthkfgjdbgnbjkaaPkY99
namespace Go.Proofs.Ythkfgjdbgnbjkaa
open Go.RowKit
set_option linter.unusedVariables false

theorem clean_any (p : Pk) (Am : Option Addr) (cm : Nat) (Ag : Option Addr) (cg : Nat) (Ax : Option Addr) (cx : Nat) (w : World)
    (hm : PerU w Am p.m.deps) (hg : PerU w Ag p.got) (hx : PerX w Ax p.x) (h1 : p.m.deps.length ≤ 35184372088832) (h2 : p.got.length ≤ 35184372088832) (h3 : p.x.length ≤ 1000000) (h4 : ∀ e ∈ p.x, e.cnt.length ≤ 35184372088832) :
    Calls Try.prog 48 #[pkV p Am cm Ag cg Ax cx] w fun e w' => (∃ v, e = .returned v ∧ OwnV w' w.heap.size (cleanF p) v) ∧ Below w.heap.size w w' := by
  by_cases ha : p.kind < 1
  · exact clean0 p Am cm Ag cg Ax cx w hm hg hx h1 h2 h3 h4 ha
  by_cases hb : 11 < p.kind
  · exact clean99 p Am cm Ag cg Ax cx w hm hg hx h1 h2 h3 h4 hb
  obtain h | h | h | h | h | h | h | h | h | h | h : p.kind = 1 ∨ p.kind = 2 ∨ p.kind = 3 ∨ p.kind = 4 ∨ p.kind = 5 ∨ p.kind = 6 ∨ p.kind = 7 ∨ p.kind = 8 ∨ p.kind = 9 ∨ p.kind = 10 ∨ p.kind = 11 := by omega
  · exact clean1 p Am cm Ag cg Ax cx w hm hg hx h1 h2 h3 h4 h
  · exact clean2 p Am cm Ag cg Ax cx w hm hg hx h1 h2 h3 h4 h
  · exact clean3 p Am cm Ag cg Ax cx w hm hg hx h1 h2 h3 h4 h
  · exact clean4 p Am cm Ag cg Ax cx w hm hg hx h1 h2 h3 h4 h
  · exact clean5 p Am cm Ag cg Ax cx w hm hg hx h1 h2 h3 h4 h
  · exact clean6 p Am cm Ag cg Ax cx w hm hg hx h1 h2 h3 h4 h
  · exact clean7 p Am cm Ag cg Ax cx w hm hg hx h1 h2 h3 h4 h
  · exact clean8 p Am cm Ag cg Ax cx w hm hg hx h1 h2 h3 h4 h
  · exact clean9 p Am cm Ag cg Ax cx w hm hg hx h1 h2 h3 h4 h
  · exact clean10 p Am cm Ag cg Ax cx w hm hg hx h1 h2 h3 h4 h
  · exact clean11 p Am cm Ag cg Ax cx w hm hg hx h1 h2 h3 h4 h
end Go.Proofs.Ythkfgjdbgnbjkaa
