/- Copies by append of nil; exchanges' rows laid flat. -/
import Derived.Test.YthkfgjdbgnbjkaaPkQ
import Derived.Test.YthkfgjdbgnbjkaaPkH
import Derived.Laws.OwnMore
import Derived.Deep.Slices
namespace Go.Proofs.Ythkfgjdbgnbjkaa
open Go.RowKit
set_option linter.unusedSimpArgs false
set_option linter.unusedVariables false

section
variable {P : Program} (w : World)
theorem run_append_copy (base : Nat) (t ty e : TypeId) (i : TypeInfo) (z : Value) (size bytes : Nat) (ht : P.underlying t = some (.slice e)) (hi : P.info? e = some i) (hz : i.zero = some z)
    (hsize : i.size = size) (hby : i.bytes = bytes) (hzs : z.cells.size = size) (hsz : 0 < size)
    (A : Option Addr) (m c : Nat) (news : List Value) (hA : A = none → m = 0) (hl : news.length = m * size) (hnews : ∀ ad, A = some ad → ∀ j u, news[j]? = some u → w.cell? (ad.add j) = some u) (h1 : ∀ u ∈ news, u.oneCell' = true)
    (h63 : m ≤ maxLen) (hbytes : m * bytes ≤ 140737488355328) (hbase : base ≤ w.heap.size) :
    ∃ v' w', (Builtin.append_ #[t, t] ty #[.slice none 0 0, .slice A m c]).run P w = .ok v' w' ∧ w'.ownsRow base e size v' m news ∧ w.grownBy w' none := by
  cases A with
  | none =>
    obtain rfl : m = 0 := hA rfl
    have hn : news = [] := List.eq_nil_of_length_eq_zero (by simpa using hl)
    subst hn
    refine ⟨.slice none 0 0, w, ?_, World.ownsRow_nil w base e size, ⟨rfl, rfl, rfl, Nat.le_refl _, fun _ _ _ => rfl⟩⟩
    simp [Builtin.append_, run_underlying ht, sizeOf, typeInfo, hi, Builtin.lenOf, Builtin.firstCells, loadCells, loadCellsFrom]
  | some ad =>
    obtain ⟨v', w', h1', h2', h3', _⟩ := run_append_own (P := P) w base t ty e i z size bytes ht hi hz hsize hby hzs hsz (.slice none 0 0) 0 [] (World.ownsRow_nil w base e size) ad m c news hl (hnews ad rfl) h1 (by omega) (by rw [Nat.zero_add]; exact hbytes) hbase
    rw [Nat.zero_add, List.nil_append] at h2'
    exact ⟨v', w', h1', h2', h3'⟩
theorem wp_append_copy {o : Oper} {a : Act} {K : Act → World → Prop} {Q : Exit → Act → World → Prop} (x : Operand) (t : TypeId)
    (ho : o.op = .call { callee := .builtin .append, args := #[.const (.slice none 0 0), x], argTypes := #[t, t] })
    (base : Nat) (e : TypeId) (i : TypeInfo) (z : Value) (size bytes : Nat) (ht : P.underlying t = some (.slice e)) (hi : P.info? e = some i) (hz : i.zero = some z)
    (hsize : i.size = size) (hby : i.bytes = bytes) (hzs : z.cells.size = size) (hsz : 0 < size)
    (A : Option Addr) (m c : Nat) (news : List Value) (hx : a.eval x = .slice A m c) (hA : A = none → m = 0) (hl : news.length = m * size) (hnews : ∀ ad, A = some ad → ∀ j u, news[j]? = some u → w.cell? (ad.add j) = some u) (h1 : ∀ u ∈ news, u.oneCell' = true)
    (h63 : m ≤ maxLen) (hbytes : m * bytes ≤ 140737488355328) (hbase : base ≤ w.heap.size)
    (h : ∀ v' w', w'.ownsRow base e size v' m news → w.grownBy w' none → K (a.put o.dst v') w') : o.wp P a w K Q := by
  obtain ⟨v', w', hr, h2, h3⟩ := run_append_copy (P := P) w base t o.type e i z size bytes ht hi hz hsize hby hzs hsz A m c news hA hl hnews h1 h63 hbytes hbase
  have hs : a.eval (.const (.slice none 0 0)) = .slice none 0 0 := rfl
  unfold Oper.wp execOp
  simp only [ho, resolve, invoke, builtin, Sem.run_bind, Sem.run_pure, Result.andThen_ok, List.map_toArray, List.map_cons, List.map_nil, hs, hx, hr]
  exact h v' w' h2 h3
theorem wpList_append_copy {ops : Array Oper} {rest : List Oper} {o : Oper} {a : Act} {Q : Exit → Act → World → Prop} (hgd : o.guard = none) (x : Operand) (t : TypeId)
    (ho : o.op = .call { callee := .builtin .append, args := #[.const (.slice none 0 0), x], argTypes := #[t, t] })
    (base : Nat) (e : TypeId) (i : TypeInfo) (z : Value) (size bytes : Nat) (ht : P.underlying t = some (.slice e)) (hi : P.info? e = some i) (hz : i.zero = some z)
    (hsize : i.size = size) (hby : i.bytes = bytes) (hzs : z.cells.size = size) (hsz : 0 < size)
    (A : Option Addr) (m c : Nat) (news : List Value) (hx : a.eval x = .slice A m c) (hA : A = none → m = 0) (hl : news.length = m * size) (hnews : ∀ ad, A = some ad → ∀ j u, news[j]? = some u → w.cell? (ad.add j) = some u) (h1 : ∀ u ∈ news, u.oneCell' = true)
    (h63 : m ≤ maxLen) (hbytes : m * bytes ≤ 140737488355328) (hbase : base ≤ w.heap.size)
    (h : ∀ v' w', w'.ownsRow base e size v' m news → w.grownBy w' none → wpList P ops Q rest (a.put o.dst v') w') : wpList P ops Q (o :: rest) a w :=
  wpList_plain hgd fun _ hK => wp_append_copy w x t ho base e i z size bytes ht hi hz hsize hby hzs hsz A m c news hx hA hl hnews h1 h63 hbytes hbase (fun v' w' h2 h3 => hK _ _ (h v' w' h2 h3))
end

/-! ### Rows that are read, as lists of cells -/
theorem uvals_get {l : List Nat} {j : Nat} {u : Value} (h : (uvals l)[j]? = some u) : j < l.length ∧ u = .int .u32 (l.getD j 0 : Int) := by
  unfold uvals at h
  rw [List.getElem?_map] at h
  cases hj : l[j]? with
  | none => rw [hj] at h; cases h
  | some v =>
    rw [hj] at h
    simp only [Option.map_some, Option.some.injEq] at h
    obtain ⟨hlt, hv⟩ := List.getElem?_eq_some_iff.1 hj
    exact ⟨hlt, by rw [← h, List.getD, hj]; rfl⟩
theorem uvals_one (l : List Nat) : ∀ u ∈ uvals l, u.oneCell' = true := by
  intro u hu
  simp only [uvals, List.mem_map] at hu
  obtain ⟨a, _, rfl⟩ := hu
  rfl
theorem uvals_length (l : List Nat) : (uvals l).length = l.length * 1 := by simp [uvals]
theorem RdU.flat {w : World} {A : Option Addr} {l : List Nat} (h : RdU w A l) : ∀ ad, A = some ad → ∀ j u, (uvals l)[j]? = some u → w.cell? (ad.add j) = some u := by
  intro ad hA j u hu
  obtain ⟨hlt, rfl⟩ := uvals_get hu
  obtain ⟨bd, hB, hc⟩ := h j hlt
  rw [hA] at hB
  cases hB
  exact hc
theorem RdU.none {w : World} {l : List Nat} (h : RdU w none l) : l.length = 0 := by
  cases l with
  | nil => rfl
  | cons a l =>
    obtain ⟨ad, hA, _⟩ := h 0 (by simp)
    cases hA
theorem xcs_one : ∀ (l : List Ex) (rs : List (Option Addr × Nat)), ∀ u ∈ xcs l rs, u.oneCell' = true
  | [], [], u, h => by cases h
  | [], _ :: _, u, h => by cases h
  | _ :: _, [], u, h => by cases h
  | x :: l, r :: rs, u, h => by
    simp only [xcs, List.mem_cons] at h
    rcases h with rfl | rfl | rfl | rfl | rfl | rfl | h
    · rfl
    · rfl
    · rfl
    · rfl
    · rfl
    · rfl
    · exact xcs_one l rs u h
/-- the six cells of an exchange. -/
def six (x : Ex) (r : Option Addr × Nat) : List Value := [.int .i64 x.who, .int .u64 (x.old.e : Int), .int .i64 x.old.r, .slice r.1 x.cnt.length r.2, .int .u64 (x.last.s : Int), .int .i64 x.last.f]
theorem xcs_cons (x : Ex) (l : List Ex) (r : Option Addr × Nat) (rs : List (Option Addr × Nat)) : xcs (x :: l) (r :: rs) = six x r ++ xcs l rs := rfl
theorem xcs_get : ∀ (l : List Ex) (rs : List (Option Addr × Nat)) (i r : Nat), rs.length = l.length → i < l.length → r < 6 → (xcs l rs)[i * 6 + r]? = (six (l.getD i .zero) (rs.getD i (none, 0)))[r]?
  | [], _, i, r, _, hi, _ => by simp at hi
  | _ :: _, [], _, _, h, _, _ => by simp at h
  | x :: l, q :: rs, 0, r, _, _, hr => by
    rw [xcs_cons, Nat.zero_mul, Nat.zero_add, List.getElem?_append_left (by simpa [six] using hr)]
    rfl
  | x :: l, q :: rs, i + 1, r, h, hi, hr => by
    rw [xcs_cons, List.getElem?_append_right (by simp [six]; omega), show (i + 1) * 6 + r - (six x q).length = i * 6 + r by simp [six]; omega]
    rw [xcs_get l rs i r (by simpa using h) (by simpa using hi) hr]
    simp
theorem xcs_set : ∀ (l : List Ex) (rs : List (Option Addr × Nat)) (i : Nat) (q : Option Addr × Nat), rs.length = l.length → i < l.length →
    (xcs l rs).set (i * 6 + 3) (.slice q.1 (l.getD i .zero).cnt.length q.2) = xcs l (rs.set i q)
  | [], _, i, _, _, hi => by simp at hi
  | _ :: _, [], _, _, h, _ => by simp at h
  | x :: l, r :: rs, 0, q, _, _ => by
    rw [xcs_cons, List.set_cons_zero, xcs_cons]
    rfl
  | x :: l, r :: rs, i + 1, q, h, hi => by
    rw [List.set_cons_succ, xcs_cons, xcs_cons, List.set_append_right _ _ (by simp [six]; omega), show (i + 1) * 6 + 3 - (six x r).length = i * 6 + 3 by simp [six]; omega, List.getD_cons_succ, xcs_set l rs i q (by simpa using h) (by simpa using hi)]
theorem PerX.flat {w : World} {A : Option Addr} {l : List Ex} (h : PerX w A l) : ∃ rs : List (Option Addr × Nat), rs.length = l.length ∧ (∀ i, i < l.length → PerU w (rs.getD i (none, 0)).1 (l.getD i .zero).cnt) ∧
    ∀ w', Below w.heap.size w w' → ∀ ad, A = some ad → ∀ j u, (xcs l rs)[j]? = some u → w'.cell? (ad.add j) = some u := by
  classical
  have hc : ∀ i, ∃ q : Option Addr × Nat, i < l.length → ∃ ad : Addr, A = some ad ∧ PerU w q.1 (l.getD i .zero).cnt ∧ ∀ w', Below w.heap.size w w' → ∀ r, r < 6 → ∀ u, (six (l.getD i .zero) q)[r]? = some u → w'.cell? (ad.add (i * 6 + r)) = some u := by
    intro i
    by_cases hi : i < l.length
    · obtain ⟨ad, Ai, ci, hA, hu, hcell⟩ := h i hi
      refine ⟨(Ai, ci), fun _ => ⟨ad, hA, hu, fun w' hb r hr u hru => ?_⟩⟩
      obtain ⟨c0, c1, c2, c3, c4, c5⟩ := hcell w' hb
      rw [← Go.Deep.add_add]
      match r, hr with
      | 0, _ => simp only [six, List.getElem?_cons_zero, Option.some.injEq] at hru; subst hru; exact c0
      | 1, _ => simp only [six, List.getElem?_cons_zero, List.getElem?_cons_succ, Option.some.injEq] at hru; subst hru; exact c1
      | 2, _ => simp only [six, List.getElem?_cons_zero, List.getElem?_cons_succ, Option.some.injEq] at hru; subst hru; exact c2
      | 3, _ => simp only [six, List.getElem?_cons_zero, List.getElem?_cons_succ, Option.some.injEq] at hru; subst hru; exact c3
      | 4, _ => simp only [six, List.getElem?_cons_zero, List.getElem?_cons_succ, Option.some.injEq] at hru; subst hru; exact c4
      | 5, _ => simp only [six, List.getElem?_cons_zero, List.getElem?_cons_succ, Option.some.injEq] at hru; subst hru; exact c5
    · exact ⟨(none, 0), fun h => absurd h hi⟩
  refine ⟨(List.range l.length).map fun i => (hc i).choose, by simp, fun i hi => ?_, fun w' hb ad hA j u hu => ?_⟩
  · obtain ⟨_, _, h2, _⟩ := (hc i).choose_spec hi
    simpa [List.getD, hi] using h2
  · have hj : j < l.length * 6 := by
      have := (List.getElem?_eq_some_iff.1 hu).1
      rwa [xcs_length _ _ (by simp)] at this
    have hi : j / 6 < l.length := by omega
    have hjr : j = j / 6 * 6 + j % 6 := by omega
    obtain ⟨bd, hB, _, h3⟩ := (hc (j / 6)).choose_spec hi
    rw [hA] at hB
    cases hB
    rw [hjr, xcs_get _ _ _ _ (by simp) hi (Nat.mod_lt _ (by omega))] at hu
    rw [hjr]
    refine h3 w' hb (j % 6) (Nat.mod_lt _ (by omega)) u ?_
    simpa [List.getD, hi] using hu
theorem PerX.none {w : World} {l : List Ex} (h : PerX w none l) : l.length = 0 := by
  cases l with
  | nil => rfl
  | cons a l =>
    obtain ⟨ad, _, _, hA, _⟩ := h 0 (by simp)
    cases hA
/-- own rows are read, while nothing below turns. -/
theorem per_own {w : World} {B c : Nat} {A : Option Addr} {l : List Nat} (h : w.ownsRow B 25 1 (.slice A l.length c) l.length (uvals l)) : PerU w A l := by
  intro w' hb i hi
  have h' := h.kept (w' := w') (row := none) ⟨hb.os, hb.tape, hb.output, hb.size, fun k hk _ => hb.block k hk⟩ (by cases Value.ownBlock (.slice A l.length c) <;> simp)
  rcases h'.2 with ⟨he, hn⟩ | ⟨g, cap, cur, he, _⟩
  · omega
  · injection he with he _ hc
    subst he
    refine ⟨⟨g, 0, Option.none⟩, rfl, ?_⟩
    refine World.ownsRow.cells h' rfl i _ ?_
    simp [uvals, List.getElem?_map, List.getD, List.getElem?_eq_getElem hi]
theorem per_xown {w : World} {B c : Nat} {A : Option Addr} {l : List Ex} (h : XOwn w B (.slice A l.length c) l) : PerX w A l := by
  obtain ⟨rs, h1, h2, h3⟩ := h
  intro i hi
  rcases h2.2 with ⟨he, hn⟩ | ⟨g, cap, cur, he, hrest⟩
  · omega
  · injection he with he _ hc
    subst he
    refine ⟨⟨g, 0, Option.none⟩, (rs.getD i (Option.none, 0)).1, (rs.getD i (Option.none, 0)).2, rfl, per_own (h3 i hi), fun w' hb => ?_⟩
    have h' := h2.kept (w' := w') (row := Option.none) ⟨hb.os, hb.tape, hb.output, hb.size, fun k hk _ => hb.block k hk⟩ (by simp [Value.ownBlock])
    have hg : ∀ r, r < 6 → ∀ u, (six (l.getD i .zero) (rs.getD i (Option.none, 0)))[r]? = some u → w'.cell? ((⟨g, 0, Option.none⟩ : Addr).add (i * 6 + r)) = some u :=
      fun r hr u hu => World.ownsRow.cells h' rfl _ u (by rw [xcs_get _ _ _ _ h1 hi hr]; exact hu)
    have e : ∀ r, (⟨g, 0, Option.none⟩ : Addr).add (i * 6 + (r + 1)) = ⟨((⟨g, 0, Option.none⟩ : Addr).add (i * 6)).block, ((⟨g, 0, Option.none⟩ : Addr).add (i * 6)).off + (r + 1), Option.none⟩ := fun r => by rw [← Go.Deep.add_add]; rfl
    exact ⟨hg 0 (by omega) _ rfl, (e 0) ▸ hg 1 (by omega) _ rfl, (e 1) ▸ hg 2 (by omega) _ rfl, (e 2) ▸ hg 3 (by omega) _ rfl, (e 3) ▸ hg 4 (by omega) _ rfl, (e 4) ▸ hg 5 (by omega) _ rfl⟩
end Go.Proofs.Ythkfgjdbgnbjkaa
