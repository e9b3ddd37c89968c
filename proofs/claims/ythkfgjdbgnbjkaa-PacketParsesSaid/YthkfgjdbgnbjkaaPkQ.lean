/- Rows of exchanges that grow; exchanges that are read one by one. -/
import Derived.Test.YthkfgjdbgnbjkaaPkO
namespace Go.Proofs.Ythkfgjdbgnbjkaa
open Go.RowKit
set_option linter.unusedSimpArgs false
set_option linter.unusedVariables false

theorem info86 : (Try.prog.info? 86).map (fun i => (i.zero, i.size, i.bytes)) = some (some (.agg #[.int .i64 0, .int .u64 0, .int .i64 0, .slice none 0 0, .int .u64 0, .int .i64 0]), 6, 64) := by kernel_rfl
theorem parts86 : ∃ i, Try.prog.info? 86 = some i ∧ i.zero = some (.agg #[.int .i64 0, .int .u64 0, .int .i64 0, .slice none 0 0, .int .u64 0, .int .i64 0]) ∧ i.size = 6 ∧ i.bytes = 64 := by
  have h := info86
  cases hi : Try.prog.info? 86 with
  | none => rw [hi] at h; cases h
  | some i =>
    rw [hi] at h
    simp only [Option.map_some, Option.some.injEq, Prod.mk.injEq] at h
    exact ⟨i, rfl, h.1, h.2.1, h.2.2⟩
/-- rows of two kinds lie in two blocks. -/
theorem own_kinds {w : World} {B B' s s' n n' : Nat} {e e' : TypeId} {v v' : Value} {xs xs' : List Value} (h : w.ownsRow B e s v n xs) (h' : w.ownsRow B' e' s' v' n' xs') (hne : e ≠ e') :
    v.ownBlock = none ∨ v.ownBlock ≠ v'.ownBlock := by
  rcases h.2 with ⟨rfl, _⟩ | ⟨k, cap, cur, rfl, _, hh, _⟩
  · exact .inl rfl
  · rcases h'.2 with ⟨rfl, _⟩ | ⟨k', cap', cur', rfl, _, hh', _⟩
    · exact .inr (by simp [Value.ownBlock])
    · refine .inr fun he => ?_
      have hk : k = k' := by simpa [Value.ownBlock] using he
      subst hk
      rw [hh] at hh'
      injection hh' with hh'
      injection hh' with _ he
      exact hne he
theorem getD_snoc_lt {α : Type} (l : List α) (a d : α) (i : Nat) (h : i < l.length) : (l ++ [a]).getD i d = l.getD i d := by
  simp [List.getD, List.getElem?_append_left h]
theorem getD_snoc_eq {α : Type} (l : List α) (a d : α) (i : Nat) (h : i = l.length) : (l ++ [a]).getD i d = a := by
  subst h
  simp [List.getD]
theorem XOwn.grow {w w' : World} {B : Nat} {v v' : Value} {xs : List Ex} {x : Ex} {A : Option Addr} {c : Nat} {rs : List (Option Addr × Nat)} (h1 : rs.length = xs.length) (h2 : w.ownsRow B 86 6 v xs.length (xcs xs rs))
    (h3 : ∀ i, i < xs.length → w.ownsRow B 25 1 (.slice (rs.getD i (none, 0)).1 (xs.getD i .zero).cnt.length (rs.getD i (none, 0)).2) (xs.getD i .zero).cnt.length (uvals (xs.getD i .zero).cnt))
    (hn : w.ownsRow B 25 1 (.slice A x.cnt.length c) x.cnt.length (uvals x.cnt)) (hg : w.grownBy w' v.ownBlock)
    (ho : w'.ownsRow B 86 6 v' (xs.length + 1) (xcs xs rs ++ [.int .i64 x.who, .int .u64 (x.old.e : Int), .int .i64 x.old.r, .slice A x.cnt.length c, .int .u64 (x.last.s : Int), .int .i64 x.last.f])) : XOwn w' B v' (xs ++ [x]) := by
  refine ⟨rs ++ [(A, c)], by simp [h1], ?_, fun i hi => ?_⟩
  · rw [xcs_append _ _ _ _ h1, oneCells, List.length_append, List.length_singleton]
    exact ho
  · by_cases hl : i < xs.length
    · rw [getD_snoc_lt _ _ _ _ hl, getD_snoc_lt _ _ _ _ (by omega)]
      exact (h3 i hl).kept hg (own_kinds (h3 i hl) h2 (by decide))
    · rw [List.length_append, List.length_singleton] at hi
      obtain rfl : i = xs.length := by omega
      rw [getD_snoc_eq _ _ _ _ rfl, getD_snoc_eq _ _ _ _ h1.symm]
      exact hn.kept hg (own_kinds hn h2 (by decide))
theorem XOwn.kept_below {w w' : World} {B : Nat} {v : Value} {l : List Ex} (h : XOwn w B v l) (hb : Below w.heap.size w w') : XOwn w' B v l := by
  have hg : w.grownBy w' none := ⟨hb.os, hb.tape, hb.output, hb.size, fun k hk _ => hb.block k hk⟩
  obtain ⟨rs, h1, h2, h3⟩ := h
  refine ⟨rs, h1, h2.kept hg ?_, fun i hi => (h3 i hi).kept hg ?_⟩
  · cases v.ownBlock <;> simp
  · cases Value.ownBlock (.slice (rs.getD i (none, 0)).1 (l.getD i .zero).cnt.length (rs.getD i (none, 0)).2) <;> simp
theorem news_cells {w : World} {g : Nat} {cur : Array Value} {e : TypeId} {fr : Nat × Nat} (h : w.heap[g]? = some (.cells cur e fr)) : ∀ j u, cur.toList[j]? = some u → w.cell? ((⟨g, 0, none⟩ : Addr).add j) = some u := by
  intro j u hj
  have hadd : (⟨g, 0, none⟩ : Addr).add j = ⟨g, j, none⟩ := by unfold Addr.add; split <;> simp_all
  rw [hadd, cell_of_row w g j cur e fr h]
  simpa using hj
theorem exP_fits {l r : List UInt8} {x : Ex} (h : exP l = .ok (x, r)) : x.fits := by
  unfold exP at h
  cases h1 : procP l with
  | error c => rw [h1] at h; cases h
  | ok y1 =>
    obtain ⟨p1, l1⟩ := y1
    simp only [h1, andP] at h
    cases h2 : confP l1 with
    | error c => rw [h2] at h; cases h
    | ok y2 =>
      obtain ⟨c2, l2⟩ := y2
      simp only [h2] at h
      cases h3 : vecP l2 with
      | error c => rw [h3] at h; cases h
      | ok y3 =>
        obtain ⟨us, l3⟩ := y3
        simp only [h3] at h
        cases h4 : keyP l3 with
        | error c => rw [h4] at h; cases h
        | ok y4 =>
          obtain ⟨k4, l4⟩ := y4
          simp only [h4] at h
          cases h
          refine ⟨confP_shape h2, ?_, keyP_shape h4⟩
          unfold vecP at h3
          cases h5 : numP 1 l2 with
          | error c => rw [h5] at h3; cases h3
          | ok y5 =>
            obtain ⟨n, l5⟩ := y5
            simp only [h5, andP] at h3
            split at h3
            · cases h3
            · exact (foursP_len h3).2
theorem exsP_len {n : Nat} {l r : List UInt8} {xs : List Ex} (h : exsP n l = .ok (xs, r)) : xs.length = n ∧ ∀ x ∈ xs, x.fits := by
  induction n generalizing l xs with
  | zero => cases h; exact ⟨rfl, fun v hv => by cases hv⟩
  | succ n ih =>
    rw [exsP] at h
    cases h4 : exP l with
    | error c => rw [h4] at h; cases h
    | ok x =>
      obtain ⟨v, r1⟩ := x
      rw [h4] at h
      simp only [andP] at h
      cases hk1 : exsP n r1 with
      | error c => rw [hk1] at h; cases h
      | ok y =>
        obtain ⟨ws, r2⟩ := y
        rw [hk1] at h
        cases h
        obtain ⟨h1, h2⟩ := ih hk1
        refine ⟨by rw [List.length_cons, h1], fun u hu => ?_⟩
        rcases List.mem_cons.1 hu with rfl | hu
        · exact exP_fits h4
        · exact h2 u hu
theorem exsP_take {n : Nat} {l : List UInt8} (k : Nat) (hk : k ≤ n) : ∀ (us : List Ex) (r : List UInt8), exsP k l = .ok (us, r) → exsP n l = andP (exsP (n - k) r) fun vs r' => .ok (us ++ vs, r') := by
  induction k generalizing n l with
  | zero =>
    intro us r h
    cases h
    rw [Nat.sub_zero]
    cases exsP n l with
    | error c => rfl
    | ok x => rfl
  | succ k ih =>
    intro us r h
    obtain ⟨m, rfl⟩ : ∃ m, n = m + 1 := ⟨n - 1, by omega⟩
    rw [exsP] at h ⊢
    cases h4 : exP l with
    | error c => rw [h4] at h; cases h
    | ok x =>
      obtain ⟨v, r1⟩ := x
      rw [h4] at h
      simp only [andP] at h ⊢
      cases hk1 : exsP k r1 with
      | error c => rw [hk1] at h; cases h
      | ok y =>
        obtain ⟨ws, r2⟩ := y
        rw [hk1] at h
        cases h
        rw [ih (by omega) ws _ hk1, show m + 1 - (k + 1) = m - k by omega]
        cases exsP (m - k) r with
        | error c => rfl
        | ok z => rfl
theorem exsP_snoc {k : Nat} {l r r' : List UInt8} {us : List Ex} {v : Ex} (h : exsP k l = .ok (us, r)) (hv : exP r = .ok (v, r')) : exsP (k + 1) l = .ok (us ++ [v], r') := by
  rw [exsP_take k (by omega) us r h, show k + 1 - k = 1 by omega, exsP, hv]
  rfl
theorem exsP_stop {n k : Nat} {l r : List UInt8} {us : List Ex} {c : Int} (hk : k < n) (h : exsP k l = .ok (us, r)) (hv : exP r = .error c) : exsP n l = .error c := by
  rw [exsP_take k (by omega) us r h]
  obtain ⟨m, hm⟩ : ∃ m, n - k = m + 1 := ⟨n - k - 1, by omega⟩
  rw [hm, exsP, hv]
  rfl
end Go.Proofs.Ythkfgjdbgnbjkaa
