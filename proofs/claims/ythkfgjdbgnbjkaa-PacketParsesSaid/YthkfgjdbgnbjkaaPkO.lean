/- A packet's block, its rows; what packet's reader leaves in it. -/
import Derived.Test.YthkfgjdbgnbjkaaPkN
namespace Go.Proofs.Ythkfgjdbgnbjkaa
open Go.RowKit
set_option linter.unusedSimpArgs false
set_option linter.unusedVariables false

/-- only blocks g and P may have turned, and blocks may have been laid. -/
structure Two (g P : Nat) (a b : World) : Prop where
  os : b.os = a.os
  tape : b.tape = a.tape
  output : b.output = a.output
  size : a.heap.size ≤ b.heap.size
  block : ∀ i, i < a.heap.size → i ≠ g → i ≠ P → b.heap[i]? = a.heap[i]?
theorem Two.refl (g P : Nat) (w : World) : Two g P w w := ⟨rfl, rfl, rfl, Nat.le_refl _, fun _ _ _ _ => rfl⟩
theorem Two.trans {g P : Nat} {a b c : World} (h : Two g P a b) (k : Two g P b c) : Two g P a c :=
  ⟨k.os.trans h.os, k.tape.trans h.tape, k.output.trans h.output, Nat.le_trans h.size k.size, fun i hi h1 h2 => (k.block i (Nat.lt_of_lt_of_le hi h.size) h1 h2).trans (h.block i hi h1 h2)⟩
theorem Two.of_below {g P : Nat} {a b : World} (h : Below a.heap.size a b) : Two g P a b := ⟨h.os, h.tape, h.output, h.size, fun i hi _ _ => h.block i hi⟩
theorem Two.of_only {g P : Nat} {a b : World} (h : Only g a b) : Two g P a b := ⟨h.os, h.tape, h.output, h.size, fun i hi h1 _ => h.block i hi (by simpa using h1)⟩
theorem Two.only {g P : Nat} {a b c : World} (h : Two g P a b) (k : Only g b c) : Two g P a c := h.trans (Two.of_only k)
theorem Two.drewN {g P : Nat} {a b : World} (h : Two g P a b) (n : Nat) : Two g P a (b.drewN n) := ⟨h.os, h.tape, h.output, h.size, h.block⟩
theorem Two.drew {g P : Nat} {a b : World} (h : Two g P a b) : Two g P a b.drew := ⟨h.os, h.tape, h.output, h.size, h.block⟩
theorem Two.set {g P : Nat} {a b : World} (h : Two g P a b) (j : Nat) (u : Value) : Two g P a (b.setCell ⟨P, j, none⟩ u) :=
  ⟨h.os, h.tape, h.output, by simpa [World.setCell] using h.size, fun i hi h1 h2 => (Below.heap_setCell b ⟨P, j, none⟩ u i h2).trans (h.block i hi h1 h2)⟩
theorem Two.alloc {g P : Nat} {a b : World} (h : Two g P a b) (o : Obj) : Two g P a (b.alloc o) :=
  h.trans (Two.of_below (below_alloc (Below.refl _ _) o))
theorem Two.rows {g P : Nat} {a b c : World} {row : Option Nat} (h : Two g P a b) (hg : b.grownBy c row) (hr : ∀ k, row = some k → a.heap.size ≤ k) : Two g P a c :=
  ⟨hg.os.trans h.os, hg.tape.trans h.tape, hg.output.trans h.output, Nat.le_trans h.size hg.size, fun i hi h1 h2 => (hg.block i (Nat.lt_of_lt_of_le hi h.size) (fun e => by have := hr i e.symm; omega)).trans (h.block i hi h1 h2)⟩

/-- a packet's cells. -/
abbrev pkC (p : Pk) (Am : Option Addr) (cm : Nat) (Ag : Option Addr) (cg : Nat) (Ax : Option Addr) (cx : Nat) : Array Value :=
  #[.int .i64 p.kind, .int .i64 p.src, .int .i64 p.dst, .int .u64 (p.conf.e : Int), .int .i64 p.conf.r, .int .i64 p.m.src, .int .u32 (p.m.seq : Int), .int .u64 (p.m.stamp : Int), .int .i64 p.m.svc, .slice Am p.m.deps.length cm, .string p.m.pay, .int .u64 (p.stamp : Int), .int .u32 (p.sent : Int), .slice Ag p.got.length cg, .int .u64 (p.horizon : Int), .int .i64 p.whom, .int .u32 (p.seq : Int), .int .u64 (p.members : Int), .int .u64 (p.prom.e : Int), .int .i64 p.prom.r, .int .u64 (p.epoch : Int), .slice Ax p.x.length cx]
/-- exchanges' cells; their vectors' rows lie at rs. -/
def xcs : List Ex → List (Option Addr × Nat) → List Value
  | x :: l, r :: rs => .int .i64 x.who :: .int .u64 (x.old.e : Int) :: .int .i64 x.old.r :: .slice r.1 x.cnt.length r.2 :: .int .u64 (x.last.s : Int) :: .int .i64 x.last.f :: xcs l rs
  | _, _ => []
theorem xcs_length : ∀ (l : List Ex) (rs : List (Option Addr × Nat)), rs.length = l.length → (xcs l rs).length = l.length * 6
  | [], [], _ => rfl
  | [], _ :: _, h => by simp at h
  | _ :: _, [], h => by simp at h
  | x :: l, r :: rs, h => by
    have ih := xcs_length l rs (by simpa using h)
    simp only [xcs, List.length_cons, ih]
    omega
theorem xcs_append : ∀ (l m : List Ex) (rs qs : List (Option Addr × Nat)), rs.length = l.length → xcs (l ++ m) (rs ++ qs) = xcs l rs ++ xcs m qs
  | [], m, [], qs, _ => rfl
  | [], _, _ :: _, _, h => by simp at h
  | _ :: _, _, [], _, h => by simp at h
  | x :: l, m, r :: rs, qs, h => by
    have ih := xcs_append l m rs qs (by simpa using h)
    simp only [List.cons_append, xcs, ih]
/-- a row of exchanges, each with a row of its own. -/
def XOwn (w : World) (B : Nat) (v : Value) (l : List Ex) : Prop :=
  ∃ rs : List (Option Addr × Nat), rs.length = l.length ∧ w.ownsRow B 86 6 v l.length (xcs l rs) ∧
    ∀ i, i < l.length → w.ownsRow B 25 1 (.slice (rs.getD i (none, 0)).1 (l.getD i .zero).cnt.length (rs.getD i (none, 0)).2) (l.getD i .zero).cnt.length (uvals (l.getD i .zero).cnt)
theorem XOwn.nil (w : World) (B : Nat) : XOwn w B (.slice none 0 0) [] := ⟨[], rfl, World.ownsRow_nil _ _ _ _, fun i hi => by simp at hi⟩
theorem oneCells (x : Ex) (A : Option Addr) (c : Nat) : xcs [x] [(A, c)] = [.int .i64 x.who, .int .u64 (x.old.e : Int), .int .i64 x.old.r, .slice A x.cnt.length c, .int .u64 (x.last.s : Int), .int .i64 x.last.f] := rfl
theorem XOwn.one (w : World) (B : Nat) (hB : B ≤ w.heap.size) (x : Ex) (A : Option Addr) (c : Nat) (h : w.ownsRow B 25 1 (.slice A x.cnt.length c) x.cnt.length (uvals x.cnt)) :
    XOwn (w.alloc (.cells #[.int .i64 x.who, .int .u64 (x.old.e : Int), .int .i64 x.old.r, .slice A x.cnt.length c, .int .u64 (x.last.s : Int), .int .i64 x.last.f] 86)) B (.slice (some ⟨w.heap.size, 0, none⟩) 1 1) [x] := by
  refine ⟨[(A, c)], rfl, ⟨rfl, .inr ⟨w.heap.size, 1, _, rfl, hB, heap_alloc_new w _, Nat.le_refl _, by unfold maxLen; omega, rfl, rfl⟩⟩, ?_⟩
  intro i hi
  obtain rfl : i = 0 := by simpa using hi
  exact h.alloc _
/-- a row's keeping: no block but one turns, and that one isn't the row's. -/
theorem own_keep_only {w w' : World} {base : Nat} {e : TypeId} {size : Nat} {v : Value} {n g : Nat} {xs : List Value} (h : w.ownsRow base e size v n xs) (ho : Only g w w') (hg : g < base) : w'.ownsRow base e size v n xs :=
  h.kept ho (by
    cases hq : v.ownBlock with
    | none => exact .inl rfl
    | some q => exact .inr (by have := own_base_any h hq; intro e; injection e with e; omega))
theorem own_keep_set {w : World} {base : Nat} {e : TypeId} {size : Nat} {v : Value} {n P : Nat} {xs : List Value} (h : w.ownsRow base e size v n xs) (hP : P < base) (j : Nat) (u : Value) : (w.setCell ⟨P, j, none⟩ u).ownsRow base e size v n xs :=
  own_set_any h (fun e => by have := own_base_any h e; omega) j u
theorem XOwn.keep_only {w w' : World} {B g : Nat} {v : Value} {l : List Ex} (h : XOwn w B v l) (ho : Only g w w') (hg : g < B) : XOwn w' B v l := by
  obtain ⟨rs, h1, h2, h3⟩ := h
  exact ⟨rs, h1, own_keep_only h2 ho hg, fun i hi => own_keep_only (h3 i hi) ho hg⟩
theorem XOwn.keep_set {w : World} {B P : Nat} {v : Value} {l : List Ex} (h : XOwn w B v l) (hP : P < B) (j : Nat) (u : Value) : XOwn (w.setCell ⟨P, j, none⟩ u) B v l := by
  obtain ⟨rs, h1, h2, h3⟩ := h
  exact ⟨rs, h1, own_keep_set h2 hP j u, fun i hi => own_keep_set (h3 i hi) hP j u⟩
/-- the packet in block P, its rows from B on. -/
def OwnPk (w : World) (B P : Nat) (p : Pk) : Prop :=
  ∃ Am cm Ag cg Ax cx, w.heap[P]? = some (.cells (pkC p Am cm Ag cg Ax cx) 73 (0, 0)) ∧ w.ownsRow B 25 1 (.slice Am p.m.deps.length cm) p.m.deps.length (uvals p.m.deps) ∧
    w.ownsRow B 25 1 (.slice Ag p.got.length cg) p.got.length (uvals p.got) ∧ XOwn w B (.slice Ax p.x.length cx) p.x
theorem z64 : U64 0 := by unfold U64; decide
theorem z32 : (0 : Nat) < 4294967296 := by decide
theorem znil : ∀ v ∈ ([] : List Nat), v < 4294967296 := fun v hv => by cases hv
theorem zms : Ms.zero.fits := ⟨z32, z64, znil⟩
theorem zex : ∀ e ∈ ([] : List Ex), e.fits := fun v hv => by cases hv
/-- what fields leaves. -/
def FOut (g P : Nat) (w : World) (r : Except Int Pk) (e : Ending) (w' : World) : Prop :=
  match r with
  | .ok p => e = .returned (.tuple #[]) ∧ OwnPk w' w.heap.size P p ∧ p.fits ∧ Two g P w w'
  | .error c => e = .panicked [pv c] ∧ Two g P w w' ∧ ∃ old : Array Value, w'.heap[P]? = some (.cells old 73 (0, 0)) ∧ old.size = 22

set_option maxHeartbeats 400000 in
theorem left_rd (g : Nat) (s : ByteArray) (l : List UInt8) (w : World) (h : RdL w g s l) (hs : s.size ≤ 1000000) :
    Calls Try.prog 61 #[.pointer (some ⟨g, 0, none⟩)] w fun e w' => e = .returned (.int .i64 (l.length : Int)) ∧ ∃ n, w' = w.drewN n := by
  obtain ⟨p, hp, rfl, hr⟩ := h
  refine (left_any g s p w hr (by unfold maxLen; omega) hp).mono ?_
  rintro e w' ⟨rfl, hn⟩
  exact ⟨by rw [List.length_drop, size_data], hn⟩
end Go.Proofs.Ythkfgjdbgnbjkaa
