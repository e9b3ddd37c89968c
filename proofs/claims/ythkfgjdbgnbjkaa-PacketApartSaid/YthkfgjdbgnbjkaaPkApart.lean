/- The walk of PacketApart. (Printed by pkapart.py.) -/
import Derived.Test.YthkfgjdbgnbjkaaPkBo
import Derived.Test.YthkfgjdbgnbjkaaPkRa
import Derived.Test.YthkfgjdbgnbjkaaPkRb
import Derived.StillTailTactics
namespace Go.Proofs.Ythkfgjdbgnbjkaa
open Go.RowKit
set_option linter.unusedSimpArgs false
set_option linter.unusedVariables false

theorem refclean_v {w : World} {p : Pk} {v : Value} (h : PerV w p v) : Calls Try.prog 50 #[v] w fun e w' => (∃ u, e = .returned u ∧ PerV w' (cleanF p) u) ∧ Below w.heap.size w w' := by
  obtain ⟨Am, cm, Ag, cg, Ax, cx, rfl, h1, h2, h3⟩ := h
  by_cases ha : p.kind < 1
  · exact (rclean0 p Am cm Ag cg Ax cx w ha).mono (by
      rintro e w' ⟨rfl, hb⟩
      refine ⟨⟨_, rfl, none, 0, none, 0, none, 0, rfl, ?_, ?_, ?_⟩, hb⟩
      · have e1 : (cleanF p).m.deps = [] := by simp [cleanF, Ms.zero, Ms.zero, show ¬ p.kind = 1 by omega, show ¬ p.kind = 2 by omega, show ¬ p.kind = 3 by omega, show ¬ p.kind = 4 by omega, show ¬ p.kind = 5 by omega, show ¬ p.kind = 6 by omega, show ¬ p.kind = 7 by omega, show ¬ p.kind = 8 by omega, show ¬ p.kind = 9 by omega]
        rw [e1]
        exact PerU.nil _ _
      · have e1 : (cleanF p).got = [] := by simp [cleanF, Ms.zero, Ms.zero, show ¬ p.kind = 1 by omega, show ¬ p.kind = 2 by omega, show ¬ p.kind = 3 by omega, show ¬ p.kind = 4 by omega, show ¬ p.kind = 5 by omega, show ¬ p.kind = 6 by omega, show ¬ p.kind = 7 by omega, show ¬ p.kind = 8 by omega, show ¬ p.kind = 9 by omega]
        rw [e1]
        exact PerU.nil _ _
      · have e1 : (cleanF p).x = [] := by simp [cleanF, Ms.zero, Ms.zero, show ¬ p.kind = 1 by omega, show ¬ p.kind = 2 by omega, show ¬ p.kind = 3 by omega, show ¬ p.kind = 4 by omega, show ¬ p.kind = 5 by omega, show ¬ p.kind = 6 by omega, show ¬ p.kind = 7 by omega, show ¬ p.kind = 8 by omega, show ¬ p.kind = 9 by omega]
        rw [e1]
        exact PerX.nil _ _)
  by_cases hb : 11 < p.kind
  · exact (rclean99 p Am cm Ag cg Ax cx w hb).mono (by
      rintro e w' ⟨rfl, hb⟩
      refine ⟨⟨_, rfl, none, 0, none, 0, none, 0, rfl, ?_, ?_, ?_⟩, hb⟩
      · have e1 : (cleanF p).m.deps = [] := by simp [cleanF, Ms.zero, Ms.zero, show ¬ p.kind = 1 by omega, show ¬ p.kind = 2 by omega, show ¬ p.kind = 3 by omega, show ¬ p.kind = 4 by omega, show ¬ p.kind = 5 by omega, show ¬ p.kind = 6 by omega, show ¬ p.kind = 7 by omega, show ¬ p.kind = 8 by omega, show ¬ p.kind = 9 by omega]
        rw [e1]
        exact PerU.nil _ _
      · have e1 : (cleanF p).got = [] := by simp [cleanF, Ms.zero, Ms.zero, show ¬ p.kind = 1 by omega, show ¬ p.kind = 2 by omega, show ¬ p.kind = 3 by omega, show ¬ p.kind = 4 by omega, show ¬ p.kind = 5 by omega, show ¬ p.kind = 6 by omega, show ¬ p.kind = 7 by omega, show ¬ p.kind = 8 by omega, show ¬ p.kind = 9 by omega]
        rw [e1]
        exact PerU.nil _ _
      · have e1 : (cleanF p).x = [] := by simp [cleanF, Ms.zero, Ms.zero, show ¬ p.kind = 1 by omega, show ¬ p.kind = 2 by omega, show ¬ p.kind = 3 by omega, show ¬ p.kind = 4 by omega, show ¬ p.kind = 5 by omega, show ¬ p.kind = 6 by omega, show ¬ p.kind = 7 by omega, show ¬ p.kind = 8 by omega, show ¬ p.kind = 9 by omega]
        rw [e1]
        exact PerX.nil _ _)
  obtain h | h | h | h | h | h | h | h | h | h | h : p.kind = 1 ∨ p.kind = 2 ∨ p.kind = 3 ∨ p.kind = 4 ∨ p.kind = 5 ∨ p.kind = 6 ∨ p.kind = 7 ∨ p.kind = 8 ∨ p.kind = 9 ∨ p.kind = 10 ∨ p.kind = 11 := by omega
  · exact (rclean1 p Am cm Ag cg Ax cx w h).mono (by
      rintro e w' ⟨rfl, hb⟩
      refine ⟨⟨_, rfl, Am, cm, none, 0, none, 0, rfl, ?_, ?_, ?_⟩, hb⟩
      · have e1 : (cleanF p).m.deps = p.m.deps := by simp [cleanF, h, Ms.zero]
        rw [e1]
        exact h1.on hb
      · have e1 : (cleanF p).got = [] := by simp [cleanF, h, Ms.zero]
        rw [e1]
        exact PerU.nil _ _
      · have e1 : (cleanF p).x = [] := by simp [cleanF, h, Ms.zero]
        rw [e1]
        exact PerX.nil _ _)
  · exact (rclean2 p Am cm Ag cg Ax cx w h).mono (by
      rintro e w' ⟨rfl, hb⟩
      refine ⟨⟨_, rfl, none, 0, Ag, cg, none, 0, rfl, ?_, ?_, ?_⟩, hb⟩
      · have e1 : (cleanF p).m.deps = [] := by simp [cleanF, h, Ms.zero]
        rw [e1]
        exact PerU.nil _ _
      · have e1 : (cleanF p).got = p.got := by simp [cleanF, h, Ms.zero]
        rw [e1]
        exact h2.on hb
      · have e1 : (cleanF p).x = [] := by simp [cleanF, h, Ms.zero]
        rw [e1]
        exact PerX.nil _ _)
  · exact (rclean3 p Am cm Ag cg Ax cx w h).mono (by
      rintro e w' ⟨rfl, hb⟩
      refine ⟨⟨_, rfl, none, 0, none, 0, none, 0, rfl, ?_, ?_, ?_⟩, hb⟩
      · have e1 : (cleanF p).m.deps = [] := by simp [cleanF, h, Ms.zero]
        rw [e1]
        exact PerU.nil _ _
      · have e1 : (cleanF p).got = [] := by simp [cleanF, h, Ms.zero]
        rw [e1]
        exact PerU.nil _ _
      · have e1 : (cleanF p).x = [] := by simp [cleanF, h, Ms.zero]
        rw [e1]
        exact PerX.nil _ _)
  · exact (rclean4 p Am cm Ag cg Ax cx w h).mono (by
      rintro e w' ⟨rfl, hb⟩
      refine ⟨⟨_, rfl, none, 0, none, 0, none, 0, rfl, ?_, ?_, ?_⟩, hb⟩
      · have e1 : (cleanF p).m.deps = [] := by simp [cleanF, h, Ms.zero]
        rw [e1]
        exact PerU.nil _ _
      · have e1 : (cleanF p).got = [] := by simp [cleanF, h, Ms.zero]
        rw [e1]
        exact PerU.nil _ _
      · have e1 : (cleanF p).x = [] := by simp [cleanF, h, Ms.zero]
        rw [e1]
        exact PerX.nil _ _)
  · exact (rclean5 p Am cm Ag cg Ax cx w h).mono (by
      rintro e w' ⟨rfl, hb⟩
      refine ⟨⟨_, rfl, none, 0, none, 0, none, 0, rfl, ?_, ?_, ?_⟩, hb⟩
      · have e1 : (cleanF p).m.deps = [] := by simp [cleanF, h, Ms.zero]
        rw [e1]
        exact PerU.nil _ _
      · have e1 : (cleanF p).got = [] := by simp [cleanF, h, Ms.zero]
        rw [e1]
        exact PerU.nil _ _
      · have e1 : (cleanF p).x = [] := by simp [cleanF, h, Ms.zero]
        rw [e1]
        exact PerX.nil _ _)
  · exact (rclean6 p Am cm Ag cg Ax cx w h).mono (by
      rintro e w' ⟨rfl, hb⟩
      refine ⟨⟨_, rfl, none, 0, none, 0, Ax, cx, rfl, ?_, ?_, ?_⟩, hb⟩
      · have e1 : (cleanF p).m.deps = [] := by simp [cleanF, h, Ms.zero]
        rw [e1]
        exact PerU.nil _ _
      · have e1 : (cleanF p).got = [] := by simp [cleanF, h, Ms.zero]
        rw [e1]
        exact PerU.nil _ _
      · have e1 : (cleanF p).x = p.x := by simp [cleanF, h, Ms.zero]
        rw [e1]
        exact h3.on hb)
  · exact (rclean7 p Am cm Ag cg Ax cx w h).mono (by
      rintro e w' ⟨rfl, hb⟩
      refine ⟨⟨_, rfl, none, 0, none, 0, Ax, cx, rfl, ?_, ?_, ?_⟩, hb⟩
      · have e1 : (cleanF p).m.deps = [] := by simp [cleanF, h, Ms.zero]
        rw [e1]
        exact PerU.nil _ _
      · have e1 : (cleanF p).got = [] := by simp [cleanF, h, Ms.zero]
        rw [e1]
        exact PerU.nil _ _
      · have e1 : (cleanF p).x = p.x := by simp [cleanF, h, Ms.zero]
        rw [e1]
        exact h3.on hb)
  · exact (rclean8 p Am cm Ag cg Ax cx w h).mono (by
      rintro e w' ⟨rfl, hb⟩
      refine ⟨⟨_, rfl, none, 0, none, 0, none, 0, rfl, ?_, ?_, ?_⟩, hb⟩
      · have e1 : (cleanF p).m.deps = [] := by simp [cleanF, h, Ms.zero]
        rw [e1]
        exact PerU.nil _ _
      · have e1 : (cleanF p).got = [] := by simp [cleanF, h, Ms.zero]
        rw [e1]
        exact PerU.nil _ _
      · have e1 : (cleanF p).x = [] := by simp [cleanF, h, Ms.zero]
        rw [e1]
        exact PerX.nil _ _)
  · exact (rclean9 p Am cm Ag cg Ax cx w h).mono (by
      rintro e w' ⟨rfl, hb⟩
      refine ⟨⟨_, rfl, Am, cm, none, 0, none, 0, rfl, ?_, ?_, ?_⟩, hb⟩
      · have e1 : (cleanF p).m.deps = p.m.deps := by simp [cleanF, h, Ms.zero]
        rw [e1]
        exact h1.on hb
      · have e1 : (cleanF p).got = [] := by simp [cleanF, h, Ms.zero]
        rw [e1]
        exact PerU.nil _ _
      · have e1 : (cleanF p).x = [] := by simp [cleanF, h, Ms.zero]
        rw [e1]
        exact PerX.nil _ _)
  · exact (rclean10 p Am cm Ag cg Ax cx w h).mono (by
      rintro e w' ⟨rfl, hb⟩
      refine ⟨⟨_, rfl, none, 0, none, 0, none, 0, rfl, ?_, ?_, ?_⟩, hb⟩
      · have e1 : (cleanF p).m.deps = [] := by simp [cleanF, h, Ms.zero]
        rw [e1]
        exact PerU.nil _ _
      · have e1 : (cleanF p).got = [] := by simp [cleanF, h, Ms.zero]
        rw [e1]
        exact PerU.nil _ _
      · have e1 : (cleanF p).x = [] := by simp [cleanF, h, Ms.zero]
        rw [e1]
        exact PerX.nil _ _)
  · exact (rclean11 p Am cm Ag cg Ax cx w h).mono (by
      rintro e w' ⟨rfl, hb⟩
      refine ⟨⟨_, rfl, none, 0, none, 0, none, 0, rfl, ?_, ?_, ?_⟩, hb⟩
      · have e1 : (cleanF p).m.deps = [] := by simp [cleanF, h, Ms.zero]
        rw [e1]
        exact PerU.nil _ _
      · have e1 : (cleanF p).got = [] := by simp [cleanF, h, Ms.zero]
        rw [e1]
        exact PerU.nil _ _
      · have e1 : (cleanF p).x = [] := by simp [cleanF, h, Ms.zero]
        rw [e1]
        exact PerX.nil _ _)

/-- a row of uint32 that may be written. -/
def W25 (w : World) (B : Nat) (A : Option Addr) (n : Nat) : Prop :=
  n = 0 ∨ ∃ g cur, A = some ⟨g, 0, none⟩ ∧ B ≤ g ∧ w.heap[g]? = some (.cells cur 25 (0, 0)) ∧ ∀ i, i < n → ∃ v : Int, cur[i]? = some (.int .u32 v)
/-- a row of exchanges whose first cells may be written. -/
def W86 (w : World) (B : Nat) (A : Option Addr) (l : List Ex) (rs : List (Option Addr × Nat)) : Prop :=
  l.length = 0 ∨ ∃ g cur, A = some ⟨g, 0, none⟩ ∧ B ≤ g ∧ w.heap[g]? = some (.cells cur 86 (0, 0)) ∧ ∀ i, i < l.length → (∃ v : Int, cur[i * 6]? = some (.int .i64 v)) ∧ cur[i * 6 + 3]? = some (.slice (rs.getD i (none, 0)).1 (l.getD i .zero).cnt.length (rs.getD i (none, 0)).2)
theorem W25.of_own {w : World} {B c : Nat} {A : Option Addr} {l : List Nat} (h : w.ownsRow B 25 1 (.slice A l.length c) l.length (uvals l)) : W25 w B A l.length := by
  rcases h.2 with ⟨_, hn⟩ | ⟨g, cap, cur, he, hb, hh, _, _, _, ht⟩
  · exact .inl hn
  · injection he with he _ _
    refine .inr ⟨g, cur, he, hb, hh, fun i hi => ⟨(l.getD i 0 : Nat), ?_⟩⟩
    have hx : (uvals l)[i]? = some (.int .u32 ((l.getD i 0 : Nat) : Int)) := by simp [uvals, List.getElem?_map, List.getD, List.getElem?_eq_getElem hi]
    rw [← ht, List.getElem?_take, if_pos (by omega)] at hx
    simpa using hx
theorem W86.of_own {w : World} {B c : Nat} {A : Option Addr} {l : List Ex} {rs : List (Option Addr × Nat)} (h1 : rs.length = l.length) (h : w.ownsRow B 86 6 (.slice A l.length c) l.length (xcs l rs)) : W86 w B A l rs := by
  rcases h.2 with ⟨_, hn⟩ | ⟨g, cap, cur, he, hb, hh, _, _, _, ht⟩
  · exact .inl hn
  · injection he with he _ _
    refine .inr ⟨g, cur, he, hb, hh, fun i hi => ?_⟩
    have hx : ∀ r, r < 6 → cur[i * 6 + r]? = (six (l.getD i .zero) (rs.getD i (none, 0)))[r]? := fun r hr => by
      rw [← xcs_get l rs i r h1 hi hr, ← ht, List.getElem?_take, if_pos (by omega)]
      simp
    exact ⟨⟨_, hx 0 (by omega)⟩, hx 3 (by omega)⟩
theorem set_kind {w : World} {g k : Nat} {cur c' : Array Value} {e e' : TypeId} (hg : w.heap[g]? = some (.cells cur e (0, 0))) (hk : w.heap[k]? = some (.cells c' e' (0, 0))) (hne : e ≠ e') (j : Nat) (u : Value) : (w.setCell ⟨g, j, none⟩ u).heap[k]? = some (.cells c' e' (0, 0)) :=
  (Below.heap_setCell w ⟨g, j, none⟩ u k (by
    intro h
    have h : k = g := h
    subst h
    rw [hg] at hk
    injection hk with hk
    injection hk with _ hk
    exact hne hk)).trans hk
theorem W25.set {w : World} {B n g : Nat} {A : Option Addr} {cur : Array Value} {e : TypeId} (h : W25 w B A n) (hg : w.heap[g]? = some (.cells cur e (0, 0))) (j : Nat) (u : Value) (hu : e = 25 → ∃ v, u = .int .u32 v) : W25 (w.setCell ⟨g, j, none⟩ u) B A n := by
  rcases h with h | ⟨k, c', hA, hB, hk, hall⟩
  · exact .inl h
  · by_cases hgk : k = g
    · subst hgk
      rw [hg] at hk
      injection hk with hk
      injection hk with hc he
      subst hc he
      obtain ⟨v, rfl⟩ := hu rfl
      refine .inr ⟨k, _, hA, hB, blk_setj hg j _, fun i hi => ?_⟩
      obtain ⟨x, hx⟩ := hall i hi
      rw [Array.getElem?_setIfInBounds]
      split
      · rename_i hj
        subst hj
        have hlt : j < cur.size := (Array.getElem?_eq_some_iff.1 hx).1
        rw [if_pos hlt]
        exact ⟨v, rfl⟩
      · exact ⟨x, hx⟩
    · exact .inr ⟨k, c', hA, hB, (Below.heap_setCell w ⟨g, j, none⟩ u k hgk).trans hk, hall⟩
theorem W86.set {w : World} {B g : Nat} {A : Option Addr} {l : List Ex} {rs : List (Option Addr × Nat)} {cur : Array Value} {e : TypeId} (h : W86 w B A l rs) (hg : w.heap[g]? = some (.cells cur e (0, 0))) (j : Nat) (u : Value) (hu : e = 86 → (∃ i, j = i * 6) ∧ ∃ v, u = .int .i64 v) : W86 (w.setCell ⟨g, j, none⟩ u) B A l rs := by
  rcases h with h | ⟨k, c', hA, hB, hk, hall⟩
  · exact .inl h
  · by_cases hgk : k = g
    · subst hgk
      rw [hg] at hk
      injection hk with hk
      injection hk with hc he
      subst hc he
      obtain ⟨⟨q, rfl⟩, v, rfl⟩ := hu rfl
      refine .inr ⟨k, _, hA, hB, blk_setj hg (q * 6) _, fun i hi => ?_⟩
      obtain ⟨⟨x, hx⟩, hy⟩ := hall i hi
      refine ⟨?_, ?_⟩
      · rw [Array.getElem?_setIfInBounds]
        split
        · rename_i hj
          rw [← hj] at hx
          have hlt : q * 6 < cur.size := (Array.getElem?_eq_some_iff.1 hx).1
          rw [if_pos hlt]
          exact ⟨v, rfl⟩
        · exact ⟨x, hx⟩
      · rw [Array.getElem?_setIfInBounds, if_neg (by omega)]
        exact hy
    · exact .inr ⟨k, c', hA, hB, (Below.heap_setCell w ⟨g, j, none⟩ u k hgk).trans hk, hall⟩
/-- the state while the clean packet is written over. -/
structure Ap (w0 : World) (K0 K3 B : Nat) (V U : Array Value) (Ag Am Ax : Option Addr) (ng nm : Nat) (l : List Ex) (rs : List (Option Addr × Nat)) (w' : World) : Prop where
  b : Below w0.heap.size w0 w'
  v : w'.heap[K0]? = some (.cells V 73 (0, 0))
  u : w'.heap[K3]? = some (.cells U 73 (0, 0))
  g : W25 w' B Ag ng
  m : W25 w' B Am nm
  x : W86 w' B Ax l rs
  c : ∀ i, i < l.length → W25 w' B (rs.getD i (none, 0)).1 (l.getD i .zero).cnt.length
section
variable {w0 w' : World} {K0 K3 B : Nat} {V U : Array Value} {Ag Am Ax : Option Addr} {ng nm : Nat} {l : List Ex} {rs : List (Option Addr × Nat)}
theorem Ap.set (h : Ap w0 K0 K3 B V U Ag Am Ax ng nm l rs w') (hB : w0.heap.size ≤ B) {g : Nat} {cur : Array Value} {e : TypeId} (hg : w'.heap[g]? = some (.cells cur e (0, 0))) (hgB : B ≤ g) (he : e ≠ 73) (j : Nat) (u : Value) (h25 : e = 25 → ∃ v, u = .int .u32 v) (h86 : e = 86 → (∃ i, j = i * 6) ∧ ∃ v, u = .int .i64 v) :
    Ap w0 K0 K3 B V U Ag Am Ax ng nm l rs (w'.setCell ⟨g, j, none⟩ u) :=
  ⟨h.b.setCell (p := ⟨g, j, none⟩) (Nat.le_trans hB hgB) u, set_kind hg h.v he j u, set_kind hg h.u he j u, h.g.set hg j u h25, h.m.set hg j u h25, h.x.set hg j u h86, fun i hi => (h.c i hi).set hg j u h25⟩
theorem Ap.drew (h : Ap w0 K0 K3 B V U Ag Am Ax ng nm l rs w') : Ap w0 K0 K3 B V U Ag Am Ax ng nm l rs { w' with drawn := w'.drawn + 1 } :=
  ⟨⟨h.b.os, h.b.tape, h.b.output, h.b.size, h.b.block⟩, h.v, h.u, h.g, h.m, h.x, h.c⟩
end
/-- a row's cell, at the place that the walk reckons. -/
theorem W25.at {w : World} {B n : Nat} {A : Option Addr} (h : W25 w B A n) (i : Nat) (hi : i < n) : ∃ (ad : Addr) (g : Nat) (cur : Array Value) (v : Int), A = some ad ∧ w.cell? (ad.add i) = some (.int .u32 v) ∧ w.frozen? (ad.add i) = false ∧ ad.add i = ⟨g, i, none⟩ ∧ B ≤ g ∧ w.heap[g]? = some (.cells cur 25 (0, 0)) := by
  rcases h with h | ⟨g, cur, hA, hB, hk, hall⟩
  · omega
  · obtain ⟨v, hv⟩ := hall i hi
    have e : (⟨g, 0, none⟩ : Addr).add i = ⟨g, i, none⟩ := by unfold Addr.add; split <;> simp_all
    exact ⟨⟨g, 0, none⟩, g, cur, v, hA, by rw [e, cell_of_row _ _ _ _ _ _ hk]; exact hv, by rw [e]; exact frozen_of_row _ _ _ _ _ hk, e, hB, hk⟩
theorem W86.at {w : World} {B : Nat} {A : Option Addr} {l : List Ex} {rs : List (Option Addr × Nat)} (h : W86 w B A l rs) (i : Nat) (hi : i < l.length) : ∃ (ad : Addr) (g : Nat) (cur : Array Value) (v : Int), A = some ad ∧ w.cell? (ad.add (i * 6)) = some (.int .i64 v) ∧ w.frozen? (ad.add (i * 6)) = false ∧ ad.add (i * 6) = ⟨g, i * 6, none⟩ ∧ B ≤ g ∧ w.heap[g]? = some (.cells cur 86 (0, 0)) ∧
    w.cell? ⟨(ad.add (i * 6)).block, (ad.add (i * 6)).off + 3, none⟩ = some (.slice (rs.getD i (none, 0)).1 (l.getD i .zero).cnt.length (rs.getD i (none, 0)).2) := by
  rcases h with h | ⟨g, cur, hA, hB, hk, hall⟩
  · omega
  · obtain ⟨⟨v, hv⟩, hs⟩ := hall i hi
    have e : (⟨g, 0, none⟩ : Addr).add (i * 6) = ⟨g, i * 6, none⟩ := by unfold Addr.add; split <;> simp_all
    exact ⟨⟨g, 0, none⟩, g, cur, v, hA, by rw [e, cell_of_row _ _ _ _ _ _ hk]; exact hv, by rw [e]; exact frozen_of_row _ _ _ _ _ hk, e, hB, hk, by rw [e, cell_of_row _ _ _ _ _ _ hk]; exact hs⟩

set_option maxHeartbeats 6400000 in
set_option maxRecDepth 8000 in
theorem papart_walk (p : Pk) (v : Value) (w : World) (hv : PerV w p v) (hf : p.fits) (hbo : p.borne) :
    Calls Try.prog 20 #[v] w fun e w' => e = .returned (.bool true) ∧ Below w.heap.size w w' := by
  obtain ⟨V, rfl, hvs, hone, -⟩ := hv.agg
  have i1 : (Try.prog.info? 73).map (·.size) = some V.size := by rw [hvs]; exact info73
  have hb0 := below_alloc (Below.refl w.heap.size w) (.cells V 73)
  have HK0 := Lib.hid (heap_alloc_new w (.cells V 73))
  have HV0 := Lib.hid (hv.on hb0)
  have HVV := Lib.hid hv
  have HBO := Lib.hid hbo
  have hlt0 : w.heap.size < (w.alloc (.cells V 73)).heap.size := by simp
  clear hv hbo hf
  go_enter Try.func20, Try.ntmps20
  go_wp2_with fail
  generalize w.alloc (.cells V 73) = w0 at *
  refine (awake06 w0).mono ?_
  rintro e w1 ⟨rfl, hb1⟩
  have HK1 := Lib.hid ((hb1.block w.heap.size hlt0).trans HK0.out)
  have HV1 := Lib.hid (HV0.out.on hb1)
  have hbl1 := below_step hb0 hb1
  have hlt1 := Nat.lt_of_lt_of_le hlt0 hb1.size
  clear hb0 hb1 HK0 HV0 hlt0
  go_wp2_with (refine wpList_load_row rfl 73 (.tmp 1) rfl w.heap.size (by simp [Act.eval, Act.put]) 73 V (0, 0) _ HK1.out Try.underlying73 rfl i1 ?_)
  refine (few_v HV1.out HBO.out).mono ?_
  rintro e w2 ⟨⟨b, rfl, hfew⟩, hb2⟩
  have HK2 := Lib.hid ((hb2.block w.heap.size hlt1).trans HK1.out)
  have HV2 := Lib.hid (HV1.out.on hb2)
  have hbl2 := below_step hbl1 hb2
  have hlt2 := Nat.lt_of_lt_of_le hlt1 hb2.size
  clear hbl1 hb2 HK1 HV1 hlt1 HBO
  cases b with
  | false =>
    go_wp2_with fail
    go_ret
    exact ⟨rfl, hbl2⟩
  | true =>
  have HOK := Lib.hid (hfew rfl)
  clear hfew
  go_wp2_with (refine wpList_load_row rfl 73 (.tmp 1) rfl w.heap.size (by simp [Act.eval, Act.put]) 73 V (0, 0) _ HK2.out Try.underlying73 rfl i1 ?_)
  refine (clean_v HV2.out HOK.out).mono ?_
  rintro e w3 ⟨⟨u, rfl, Am, cm, Ag, cg, Ax, cx, rfl, e1, e2, rs, e3, e4, e5⟩, hb3⟩
  have HCO := Lib.hid (clean_okay HOK.out)
  have HCK := HOK
  obtain ⟨U, hU, hus, huone, u9, u13, u21⟩ : ∃ U : Array Value, pkV (cleanF p) Am cm Ag cg Ax cx = .agg U ∧ U.size = 22 ∧ U.all (·.oneCell') = true ∧ U[9]? = some (.slice Am (cleanF p).m.deps.length cm) ∧ U[13]? = some (.slice Ag (cleanF p).got.length cg) ∧ U[21]? = some (.slice Ax (cleanF p).x.length cx) := ⟨_, rfl, rfl, by kernel_rfl, rfl, rfl, rfl⟩
  rw [hU]
  have hB : w.heap.size + 1 ≤ w2.heap.size := hlt2
  have HA3 : Ap w w.heap.size w3.heap.size w2.heap.size V U Ag Am Ax (cleanF p).got.length (cleanF p).m.deps.length (cleanF p).x rs ((w3.alloc (.cells #[.int .i64 0, .int .i64 0, .int .i64 0, .int .u64 0, .int .i64 0, .int .i64 0, .int .u32 0, .int .u64 0, .int .i64 0, .slice none 0 0, .string ⟨#[]⟩, .int .u64 0, .int .u32 0, .slice none 0 0, .int .u64 0, .int .i64 0, .int .u32 0, .int .u64 0, .int .u64 0, .int .i64 0, .int .u64 0, .slice none 0 0] 73)).setRow w3.heap.size U) := by
    have D0 := heap_alloc_new w3 (.cells #[.int .i64 0, .int .i64 0, .int .i64 0, .int .u64 0, .int .i64 0, .int .i64 0, .int .u32 0, .int .u64 0, .int .i64 0, .slice none 0 0, .string ⟨#[]⟩, .int .u64 0, .int .u32 0, .slice none 0 0, .int .u64 0, .int .i64 0, .int .u32 0, .int .u64 0, .int .u64 0, .int .i64 0, .int .u64 0, .slice none 0 0] 73)
    have hbA := below_setRow (below_alloc (Below.refl w3.heap.size w3) (.cells #[.int .i64 0, .int .i64 0, .int .i64 0, .int .u64 0, .int .i64 0, .int .i64 0, .int .u32 0, .int .u64 0, .int .i64 0, .slice none 0 0, .string ⟨#[]⟩, .int .u64 0, .int .u32 0, .slice none 0 0, .int .u64 0, .int .i64 0, .int .u32 0, .int .u64 0, .int .u64 0, .int .i64 0, .int .u64 0, .slice none 0 0] 73)) (Nat.le_refl _) U
    have k1 : ∀ {A : Option Addr} {n : Nat}, W25 w3 w2.heap.size A n → W25 ((w3.alloc (.cells #[.int .i64 0, .int .i64 0, .int .i64 0, .int .u64 0, .int .i64 0, .int .i64 0, .int .u32 0, .int .u64 0, .int .i64 0, .slice none 0 0, .string ⟨#[]⟩, .int .u64 0, .int .u32 0, .slice none 0 0, .int .u64 0, .int .i64 0, .int .u32 0, .int .u64 0, .int .u64 0, .int .i64 0, .int .u64 0, .slice none 0 0] 73)).setRow w3.heap.size U) w2.heap.size A n := fun h => by
      rcases h with h | ⟨g, cur, hA, hB, hk, hall⟩
      · exact .inl h
      · exact .inr ⟨g, cur, hA, hB, (hbA.block g (blk_lt hk)).trans hk, hall⟩
    refine ⟨below_step (below_step hbl2 hb3) hbA, (hbA.block w.heap.size (Nat.lt_of_lt_of_le hlt2 hb3.size)).trans ((hb3.block w.heap.size hlt2).trans HK2.out), setRow_heap (w3.alloc (.cells #[.int .i64 0, .int .i64 0, .int .i64 0, .int .u64 0, .int .i64 0, .int .i64 0, .int .u32 0, .int .u64 0, .int .i64 0, .slice none 0 0, .string ⟨#[]⟩, .int .u64 0, .int .u32 0, .slice none 0 0, .int .u64 0, .int .i64 0, .int .u32 0, .int .u64 0, .int .u64 0, .int .i64 0, .int .u64 0, .slice none 0 0] 73)) w3.heap.size #[.int .i64 0, .int .i64 0, .int .i64 0, .int .u64 0, .int .i64 0, .int .i64 0, .int .u32 0, .int .u64 0, .int .i64 0, .slice none 0 0, .string ⟨#[]⟩, .int .u64 0, .int .u32 0, .slice none 0 0, .int .u64 0, .int .i64 0, .int .u32 0, .int .u64 0, .int .u64 0, .int .i64 0, .int .u64 0, .slice none 0 0] U 73 (0, 0) D0, k1 (W25.of_own e2), k1 (W25.of_own e1), ?_, fun i hi => k1 (W25.of_own (e5 i hi))⟩
    rcases W86.of_own e3 e4 with h | ⟨g, cur, hA, hB, hk, hall⟩
    · exact .inl h
    · exact .inr ⟨g, cur, hA, hB, (hbA.block g (blk_lt hk)).trans hk, hall⟩
  have HAP := Lib.hid HA3
  have HU9 := Lib.hid u9
  have HU13 := Lib.hid u13
  have HU21 := Lib.hid u21
  have D0 := heap_alloc_new w3 (.cells #[.int .i64 0, .int .i64 0, .int .i64 0, .int .u64 0, .int .i64 0, .int .i64 0, .int .u32 0, .int .u64 0, .int .i64 0, .slice none 0 0, .string ⟨#[]⟩, .int .u64 0, .int .u32 0, .slice none 0 0, .int .u64 0, .int .i64 0, .int .u32 0, .int .u64 0, .int .u64 0, .int .i64 0, .int .u64 0, .slice none 0 0] 73)
  have hzs : (#[.int .i64 0, .int .i64 0, .int .i64 0, .int .u64 0, .int .i64 0, .int .i64 0, .int .u32 0, .int .u64 0, .int .i64 0, .slice none 0 0, .string ⟨#[]⟩, .int .u64 0, .int .u32 0, .slice none 0 0, .int .u64 0, .int .i64 0, .int .u32 0, .int .u64 0, .int .u64 0, .int .i64 0, .int .u64 0, .slice none 0 0] : Array Value).size = U.size := by rw [hus]; rfl
  have i2 : (Try.prog.info? 73).map (·.size) = some U.size := by rw [hus]; exact info73
  clear HA3 u9 u13 u21 e1 e2 e4 e5 hb3 hbl2 HK2 HV2 hU HOK
  have hx1 := HCO.out.x
  have hg1 := HCO.out.got
  have hm1 := HCO.out.m
  have HCC := Lib.hid HCO.out.c
  generalize hgl : (cleanF p).got.length = ng at *
  generalize hml : (cleanF p).m.deps.length = nm at *
  generalize hxl : (cleanF p).x = l at *
  have HL := Lib.hid hxl
  clear hgl hml hxl
  go_wp2_with (refine wpList_store_row rfl 73 (.tmp 3) (.tmp 14) rfl w3.heap.size U (by simp [Act.eval, Act.put]) (by simp [Act.eval, Act.put]) 73 #[.int .i64 0, .int .i64 0, .int .i64 0, .int .u64 0, .int .i64 0, .int .i64 0, .int .u32 0, .int .u64 0, .int .i64 0, .slice none 0 0, .string ⟨#[]⟩, .int .u64 0, .int .u32 0, .slice none 0 0, .int .u64 0, .int .i64 0, .int .u32 0, .int .u64 0, .int .u64 0, .int .i64 0, .int .u64 0, .slice none 0 0] D0 (by assumption) (by assumption) (by assumption) ?_; clear D0; generalize (w3.alloc (.cells #[.int .i64 0, .int .i64 0, .int .i64 0, .int .u64 0, .int .i64 0, .int .i64 0, .int .u32 0, .int .u64 0, .int .i64 0, .slice none 0 0, .string ⟨#[]⟩, .int .u64 0, .int .u32 0, .slice none 0 0, .int .u64 0, .int .i64 0, .int .u32 0, .int .u64 0, .int .u64 0, .int .i64 0, .int .u64 0, .slice none 0 0] 73)).setRow w3.heap.size U = w3a at *)
  generalize w3.heap.size = K at *
  generalize w2.heap.size = B at *
  go_loopw [4] (fun i wr => ∃ k : Nat, k ≤ ng ∧ i = .int .i64 k ∧ Hid (Ap w w.heap.size K B V U Ag Am Ax ng nm l rs wr)) (fun i _ => ng - (intOf i).toNat)
  case atStart => exact ⟨0, by omega, rfl, HAP⟩
  case round =>
    clear HAP
    obtain ⟨k, hk, rfl, HA⟩ := hrel
    have k13 : wr.cell? ⟨K, 13, none⟩ = some (.slice Ag ng cg) := (cell_of_row _ _ 13 _ _ _ HA.out.u).trans HU13.out
    by_cases hlt : k < ng
    · obtain ⟨ad, g, cur, x, rfl, c0, f0, hadd, hgB, hcur⟩ := HA.out.g.at k hlt
      have HADD := Lib.hid hadd
      have HCUR := Lib.hid hcur
      clear hadd hcur
      have k13d : ({ wr with drawn := wr.drawn + 1 } : World).cell? ⟨K, 13, none⟩ = some (.slice (some ad) ng cg) := k13
      have c0d : ({ wr with drawn := wr.drawn + 1 } : World).cell? (ad.add k) = some (.int .u32 x) := c0
      have f0d : ({ wr with drawn := wr.drawn + 1 } : World).frozen? (ad.add k) = false := f0
      have HS := Lib.hid (fun y : Int => HA.out.drew.set (Nat.le_trans (Nat.le_succ _) hB) (g := g) HCUR.out hgB (by decide) k (.int .u32 y) (fun _ => ⟨y, rfl⟩) (fun h => absurd h (by decide)))
      clear HA HCUR
      go_wp2_with fail
      go_still_tail 10, (by kernel_rfl)
      go_wp2_with fail
      go_roundw
      case rel => exact ⟨k + 1, by omega, by go_num, by rw [HADD.out]; exact HS.out _⟩
      case measure => simp [intOf]; omega
    · obtain rfl : k = ng := by omega
      go_wp2_with fail
      clear k13
      go_loopw [5] (fun i wr => ∃ q : Nat, q ≤ nm ∧ i = .int .i64 q ∧ Hid (Ap w w.heap.size K B V U Ag Am Ax k nm l rs wr)) (fun i _ => nm - (intOf i).toNat)
      case atStart => exact ⟨0, by omega, rfl, HA⟩
      case round =>
        clear HA
        obtain ⟨q, hq, rfl, HA⟩ := hrel
        have k9 : wr.cell? ⟨K, 9, none⟩ = some (.slice Am nm cm) := (cell_of_row _ _ 9 _ _ _ HA.out.u).trans HU9.out
        by_cases hlt : q < nm
        · obtain ⟨ad, g, cur, x, rfl, c0, f0, hadd, hgB, hcur⟩ := HA.out.m.at q hlt
          have HADD := Lib.hid hadd
          have HS := Lib.hid (fun y : Int => HA.out.drew.set (Nat.le_trans (Nat.le_succ _) hB) (g := g) hcur hgB (by decide) q (.int .u32 y) (fun _ => ⟨y, rfl⟩) (fun h => absurd h (by decide)))
          clear hadd hcur HA
          have k9d : ({ wr with drawn := wr.drawn + 1 } : World).cell? ⟨K, 9, none⟩ = some (.slice (some ad) nm cm) := k9
          have c0d : ({ wr with drawn := wr.drawn + 1 } : World).cell? (ad.add q) = some (.int .u32 x) := c0
          have f0d : ({ wr with drawn := wr.drawn + 1 } : World).frozen? (ad.add q) = false := f0
          go_wp2_with fail
          go_still_tail 12, (by kernel_rfl)
          go_wp2_with fail
          go_roundw
          case rel => exact ⟨q + 1, by omega, by go_num, by rw [HADD.out]; exact HS.out _⟩
          case measure => simp [intOf]; omega
        · obtain rfl : q = nm := by omega
          go_wp2_with fail
          clear k9
          go_loopw [6] (fun i wr => ∃ r : Nat, r ≤ l.length ∧ i = .int .i64 r ∧ Hid (Ap w w.heap.size K B V U Ag Am Ax k q l rs wr)) (fun i _ => l.length - (intOf i).toNat)
          case atStart => exact ⟨0, by omega, rfl, HA⟩
          case round =>
            clear HA
            obtain ⟨r, hr, rfl, HA⟩ := hrel
            have k21 : wr.cell? ⟨K, 21, none⟩ = some (.slice Ax l.length cx) := (cell_of_row _ _ 21 _ _ _ HA.out.u).trans HU21.out
            by_cases hlt : r < l.length
            · obtain ⟨ad, g, cur, x, rfl, c0, f0, hadd, hgB, hcur, -⟩ := HA.out.x.at r hlt
              have HADD := Lib.hid hadd
              have HS := Lib.hid (fun y : Int => HA.out.drew.set (Nat.le_trans (Nat.le_succ _) hB) (g := g) hcur hgB (by decide) (r * 6) (.int .i64 y) (fun h => absurd h (by decide)) (fun _ => ⟨⟨r, rfl⟩, y, rfl⟩))
              clear hadd hcur HA
              have k21d : ({ wr with drawn := wr.drawn + 1 } : World).cell? ⟨K, 21, none⟩ = some (.slice (some ad) l.length cx) := k21
              have c0d : ({ wr with drawn := wr.drawn + 1 } : World).cell? (ad.add (r * 6)) = some (.int .i64 x) := c0
              have f0d : ({ wr with drawn := wr.drawn + 1 } : World).frozen? (ad.add (r * 6)) = false := f0
              go_wp2_with fail
              go_still_tail 12, (by kernel_rfl)
              go_wp2_with fail
              go_loopw [7] (fun i wr => ∃ s : Nat, s ≤ (l.getD r .zero).cnt.length ∧ i = .int .i64 s ∧ Hid (Ap w w.heap.size K B V U Ag Am (some ad) k q l rs wr)) (fun i _ => (l.getD r .zero).cnt.length - (intOf i).toNat)
              case atStart => exact ⟨0, by omega, rfl, by rw [HADD.out]; exact HS.out _⟩
              case round =>
                clear HS k21 k21d c0 c0d f0 f0d
                obtain ⟨s, hs, rfl, HA⟩ := hrel
                have k21 : wr.cell? ⟨K, 21, none⟩ = some (.slice (some ad) l.length cx) := (cell_of_row _ _ 21 _ _ _ HA.out.u).trans HU21.out
                obtain ⟨ad', g', cur', x', hAe, -, -, -, -, -, h3⟩ := HA.out.x.at r hlt
                cases hAe
                have hcc : (l.getD r .zero).cnt.length ≤ 35184372088832 := HCC.out _ (by
                  simp only [List.getD, List.getElem?_eq_getElem hlt, Option.getD_some]
                  exact List.getElem_mem _)
                have hw25 := HA.out.c r hlt
                generalize hcn : (l.getD r .zero).cnt.length = nc at *
                generalize hqq : rs.getD r (none, 0) = qq at *
                obtain ⟨Ac, cc⟩ := qq
                have HCN := Lib.hid hcn
                have HQQ := Lib.hid hqq
                clear hcn hqq
                dsimp only at *
                by_cases hls : s < nc
                · obtain ⟨ed, g2, cur2, x2, rfl, c0, f0, hadd2, hgB2, hcur2⟩ := hw25.at s hls
                  have HADD2 := Lib.hid hadd2
                  have HS := Lib.hid (fun y : Int => HA.out.drew.set (Nat.le_trans (Nat.le_succ _) hB) (g := g2) hcur2 hgB2 (by decide) s (.int .u32 y) (fun _ => ⟨y, rfl⟩) (fun h => absurd h (by decide)))
                  clear hadd2 hcur2 HA hw25
                  have k21d : ({ wr with drawn := wr.drawn + 1 } : World).cell? ⟨K, 21, none⟩ = some (.slice (some ad) l.length cx) := k21
                  have h3d : ({ wr with drawn := wr.drawn + 1 } : World).cell? ⟨(ad.add (r * 6)).block, (ad.add (r * 6)).off + 3, none⟩ = some (.slice (some ed) nc cc) := h3
                  have c0d : ({ wr with drawn := wr.drawn + 1 } : World).cell? (ed.add s) = some (.int .u32 x2) := c0
                  have f0d : ({ wr with drawn := wr.drawn + 1 } : World).frozen? (ed.add s) = false := f0
                  go_wp2_with fail
                  go_still_tail 18, (by kernel_rfl)
                  go_wp2_with fail
                  go_roundw
                  case rel => exact ⟨s + 1, by omega, by go_num, by rw [HADD2.out]; exact HS.out _⟩
                  case measure => simp [intOf]; omega
                · obtain rfl : s = nc := by omega
                  clear hw25
                  go_wp2_with fail
                  go_roundw
                  case rel => exact ⟨r + 1, by omega, by go_num, HA⟩
                  case measure => simp [intOf]; omega
            · obtain rfl : r = l.length := by omega
              go_wp2_with fail
              clear k21
              have HK := Lib.hid HA.out.v
              have hlw : w.heap.size < wr.heap.size := blk_lt HA.out.v
              have HV := Lib.hid (HVV.out.on HA.out.b)
              have hblz := HA.out.b
              have HOK := HCK
              clear HA
              refine wp_region_held_drew (S := fun w' => Below wr.heap.size wr w') (by kernel_rfl) ?_ (fun hHeld => ?_)
              · exact (Below.refl _ _).drew
              refine wpAnyH_take (i := 0) (v := .agg V) rfl (by kernel_rfl) (by kernel_rfl) (by kernel_rfl) (fun _ _ _ h => h) (yields_load_row 73 (.tmp 1) (by kernel_rfl) (by kernel_rfl) w.heap.size (by kernel_rfl) 73 V (0, 0) _ (fun wq hS => (hS.block w.heap.size (by omega)).trans HK.out) Try.underlying73 rfl i1) (by assumption) ?_
              simp only [Act.put, List.setIfInBounds_toArray, List.set_cons_zero, List.set_cons_succ]
              refine wpAnyH_take (i := 2) (v := .agg V) rfl (by kernel_rfl) (by kernel_rfl) (by kernel_rfl) (fun _ _ _ h => h) (yields_load_row 73 (.tmp 1) (by kernel_rfl) (by kernel_rfl) w.heap.size (by kernel_rfl) 73 V (0, 0) _ (fun wq hS => (hS.block w.heap.size (by omega)).trans HK.out) Try.underlying73 rfl i1) (by assumption) ?_
              simp only [Act.put, List.setIfInBounds_toArray, List.set_cons_zero, List.set_cons_succ]
              refine wpAnyH_ready (rs := [1]) (by kernel_rfl) (by simp) ?_
              refine AllReadyH.cons rfl (fun Kq hK => ?_) AllReadyH.nil
              go_simp
              refine (clean_v (HV.out.on hHeld) HOK.out).mono ?_
              rintro e w6 ⟨⟨u2, rfl, hu2⟩, hb6⟩
              have HU2 := Lib.hid hu2.per
              have hB6 := below_step hHeld hb6
              clear hu2 hb6 hHeld
              refine hK.out _ _ hB6 (fun hHeld => ?_)
              clear hK Kq
              refine wpAnyH_ready (rs := [3]) (by kernel_rfl) (by simp) ?_
              refine AllReadyH.cons rfl (fun Kq hK => ?_) AllReadyH.nil
              go_simp
              refine (refclean_v (HV.out.on hHeld)).mono ?_
              rintro e w7 ⟨⟨u3, rfl, hu3⟩, hb7⟩
              have HU3 := Lib.hid hu3
              have HU4 := Lib.hid (PerV.on HU2.out hb7)
              have hB7 := below_step hHeld hb7
              clear hu3 hb7 hB6 hHeld HU2
              refine hK.out _ _ hB7 (fun hHeld => ?_)
              clear hK Kq
              refine wpAnyH_ready (rs := [4]) (by kernel_rfl) (by simp) ?_
              refine AllReadyH.cons rfl (fun Kq hK => ?_) AllReadyH.nil
              go_simp
              refine (same_v HU4.out HU3.out HCO.out).mono ?_
              rintro e w8 ⟨rfl, hb8⟩
              have hB8 := below_step hHeld hb8
              clear hb8 hB7 hHeld HU3 HU4
              refine hK.out _ _ hB8 (fun hHeld => ?_)
              clear hK Kq
              refine wpAnyH_ready (rs := [5]) (by kernel_rfl) (by simp) ?_
              refine AllReadyH.cons rfl (fun Kq hK => ?_) AllReadyH.nil
              go_simp
              refine hK.out _ _ hHeld (fun hHeld2 => ?_)
              clear hK Kq
              refine wpAnyH_done (by kernel_rfl) ?_ _
              go_wp2_with fail
              go_ret
              exact ⟨rfl, below_step hblz hHeld⟩
end Go.Proofs.Ythkfgjdbgnbjkaa
