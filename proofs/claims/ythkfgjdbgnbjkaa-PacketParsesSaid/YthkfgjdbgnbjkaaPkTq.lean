/- Fields of the reference's taker in plain Lean; what a field's walk leaves. -/
import Derived.Test.YthkfgjdbgnbjkaaPkTp
import Derived.Test.YthkfgjdbgnbjkaaPkS
namespace Go.Proofs.Ythkfgjdbgnbjkaa
open Go.RowKit Go.Sort
set_option linter.unusedSimpArgs false
set_option linter.unusedVariables false

/-- the field of a letter. -/
def fieldP (f : Nat) (p : Pk) : List UInt8 → In Pk :=
  match f with
  | 99 => fun l => andP (confP l) fun z r => .ok ({ p with conf := z }, r)
  | 109 => fun l => andP (msgP (if p.kind = 9 then p.whom else p.src) l) fun z r => .ok ({ p with m := z }, r)
  | 115 => fun l => andP (numP 8 l) fun z r => .ok ({ p with stamp := z }, r)
  | 110 => fun l => andP (numP 4 l) fun z r => .ok ({ p with sent := z }, r)
  | 103 => fun l => andP (vecP l) fun z r => .ok ({ p with got := z }, r)
  | 104 => fun l => andP (numP 8 l) fun z r => .ok ({ p with horizon := z }, r)
  | 119 => fun l => andP (procP l) fun z r => .ok ({ p with whom := z }, r)
  | 113 => fun l => andP (numP 4 l) fun z r => .ok ({ p with seq := z }, r)
  | 112 => fun l => andP (confP l) fun z r => .ok ({ p with prom := z }, r)
  | 101 => fun l => andP (numP 8 l) fun z r => .ok ({ p with epoch := z }, r)
  | 98 => fun l => andP (numP 8 l) fun z r => .ok ({ p with members := z }, r)
  | 120 => fun l => andP (exP l) fun z r => .ok ({ p with x := [z] }, r)
  | 108 => fun l => andP (numP 1 l) fun n r => if 64 < n then .error 3 else andP (exsP n r) fun z r => .ok ({ p with x := p.x ++ z }, r)
  | _ => fun l => .ok (p, l)
/-- a packet's rows, from B on. -/
def PkRows (w : World) (B : Nat) (p : Pk) (Am : Option Addr) (cm : Nat) (Ag : Option Addr) (cg : Nat) (Ax : Option Addr) (cx : Nat) : Prop :=
  w.ownsRow B 25 1 (.slice Am p.m.deps.length cm) p.m.deps.length (uvals p.m.deps) ∧ w.ownsRow B 25 1 (.slice Ag p.got.length cg) p.got.length (uvals p.got) ∧ XOwn w B (.slice Ax p.x.length cx) p.x
/-- what a field's walk leaves. -/
def TF (g : Nat) (s : ByteArray) (m : Nat) (st : St) (B : Nat) (F : List UInt8 → In Pk) (X : Option (List Ex × Option Addr × Nat)) (w : World) (e : Ending) (w' : World) : Prop :=
  ∃ (p : Pk) (Am : Option Addr) (cm : Nat) (Ag : Option Addr) (cg : Nat) (Ax : Option Addr) (cx : Nat) (st' : St), e = .returned (pkV p Am cm Ag cg Ax cx) ∧ PkRows w' B p Am cm Ag cg Ax cx ∧ via F st = ret p st' ∧ Tk w' g s (m + 150000) st' ∧ Only g w w' ∧ ∀ t, X = some t → (p.x, Ax, cx) = t
theorem only_setRow {g k : Nat} {w W : World} (h : Only g w W) (hk : w.heap.size ≤ k) (cs : Array Value) : Only g w (W.setRow k cs) :=
  ⟨h.os, h.tape, h.output, by simpa [World.setRow] using h.size, fun i hi hne => (setRow_other W k i _ (by omega)).trans (h.block i hi hne)⟩
theorem tk_setRow {w : World} {g k : Nat} {s : ByteArray} {m : Nat} {st : St} (h : Tk w g s m st) (hk : k ≠ g) (cs : Array Value) : Tk (w.setRow k cs) g s m st :=
  h.of_blk (setRow_other w k g _ hk.symm)
theorem own_setRow {w : World} {base : Nat} {e : TypeId} {size : Nat} {v : Value} {n k : Nat} {xs : List Value} (h : w.ownsRow base e size v n xs) (hk : k < base) (cs : Array Value) : (w.setRow k cs).ownsRow base e size v n xs :=
  h.kept (row := some k) ⟨rfl, rfl, rfl, by simp [World.setRow], fun i hi hne => setRow_other w k i _ (fun e => hne (by rw [e]))⟩ (by
    cases hq : v.ownBlock with
    | none => exact .inl rfl
    | some q => exact .inr (by have := own_base_any h hq; intro e; injection e with e; omega))
theorem XOwn.setRow {w : World} {B k : Nat} {v : Value} {l : List Ex} (h : XOwn w B v l) (hk : k < B) (cs : Array Value) : XOwn (w.setRow k cs) B v l := by
  obtain ⟨rs, h1, h2, h3⟩ := h
  exact ⟨rs, h1, own_setRow h2 hk cs, fun i hi => own_setRow (h3 i hi) hk cs⟩
theorem exs_via {st st' : St} {v : Ex} {k : Nat} {xs : List Ex} (mk : List Ex → Pk) (h : via exP st = ret v st') :
    via (fun l => andP (exsP (k + 1) l) fun z r => .ok (mk (xs ++ z), r)) st = via (fun l => andP (exsP k l) fun z r => .ok (mk ((xs ++ [v]) ++ z), r)) st' := by
  cases st with
  | error c => cases st' with
    | ok l => cases h
    | error d => cases h; rfl
  | ok l =>
    show andP (exsP (k + 1) l) _ = _
    rw [exsP, show exP l = ret v st' from h]
    cases st' with
    | error c => rfl
    | ok r =>
      show andP (andP (exsP k r) _) _ = andP (exsP k r) _
      cases exsP k r with
      | error c => rfl
      | ok y => simp [andP]
theorem exs_nil {st : St} {xs : List Ex} (mk : List Ex → Pk) : via (fun l => andP (exsP 0 l) fun z r => .ok (mk (xs ++ z), r)) st = ret (mk xs) st := by
  cases st with
  | error c => rfl
  | ok l => simp [via, exsP, andP, ret]
end Go.Proofs.Ythkfgjdbgnbjkaa
