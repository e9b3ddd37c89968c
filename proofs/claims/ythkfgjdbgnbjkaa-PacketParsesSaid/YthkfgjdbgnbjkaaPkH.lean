/- The walk of packet's Print. -/
import Derived.Test.YthkfgjdbgnbjkaaPkG
import Derived.Test.YthkfgjdbgnbjkaaPkBase
import Derived.Deep.RegionWith
namespace Go.Proofs.Ythkfgjdbgnbjkaa
open Go.RowKit
set_option linter.unusedSimpArgs false
set_option linter.unusedVariables false

/-- a row stays while blocks are laid. -/
def PerU (w : World) (A : Option Addr) (l : List Nat) : Prop := ∀ w', Below w.heap.size w w' → RdU w' A l
theorem PerU.ever {w w2 : World} {A : Option Addr} {l : List Nat} (h : PerU w A l) (hb : Below w.heap.size w w2) {g : Nat} (hg : w.heap.size ≤ g) : EverU g w2 A l :=
  fun w' h' => h w' (Only.below hb h' hb.size hg)
theorem PerU.on {w w1 : World} {A : Option Addr} {l : List Nat} (h : PerU w A l) (hb : Below w.heap.size w w1) : PerU w1 A l := fun w' h' => h w' (below_step hb h')
def PerX (w : World) (A : Option Addr) (l : List Ex) : Prop :=
  ∀ i, i < l.length → ∃ (ad : Addr) (Ai : Option Addr) (ci : Nat), A = some ad ∧ PerU w Ai (l.getD i .zero).cnt ∧ ∀ w', Below w.heap.size w w' →
    w'.cell? (ad.add (i * 6)) = some (.int .i64 (l.getD i .zero).who) ∧ w'.cell? ⟨(ad.add (i * 6)).block, (ad.add (i * 6)).off + 1, none⟩ = some (.int .u64 ((l.getD i .zero).old.e : Int)) ∧
    w'.cell? ⟨(ad.add (i * 6)).block, (ad.add (i * 6)).off + 2, none⟩ = some (.int .i64 (l.getD i .zero).old.r) ∧ w'.cell? ⟨(ad.add (i * 6)).block, (ad.add (i * 6)).off + 3, none⟩ = some (.slice Ai (l.getD i .zero).cnt.length ci) ∧
    w'.cell? ⟨(ad.add (i * 6)).block, (ad.add (i * 6)).off + 4, none⟩ = some (.int .u64 ((l.getD i .zero).last.s : Int)) ∧ w'.cell? ⟨(ad.add (i * 6)).block, (ad.add (i * 6)).off + 5, none⟩ = some (.int .i64 (l.getD i .zero).last.f)
theorem PerX.ever {w w2 : World} {A : Option Addr} {l : List Ex} (h : PerX w A l) (hb : Below w.heap.size w w2) {g : Nat} (hg : w.heap.size ≤ g) : EverX g w2 A l := by
  intro i hi
  obtain ⟨ad, Ai, ci, hA, hu, hc⟩ := h i hi
  exact ⟨ad, Ai, ci, hA, hu.ever hb hg, fun w' h' => hc w' (Only.below hb h' hb.size hg)⟩
theorem PerX.on {w w1 : World} {A : Option Addr} {l : List Ex} (h : PerX w A l) (hb : Below w.heap.size w w1) : PerX w1 A l := by
  intro i hi
  obtain ⟨ad, Ai, ci, hA, hu, hc⟩ := h i hi
  exact ⟨ad, Ai, ci, hA, hu.on hb, fun w' h' => hc w' (below_step hb h')⟩

theorem msgW_len {m : Ms} {b : List UInt8} (h : msgW m = .ok b) : b.length ≤ 1296 := by
  unfold msgW at h
  split at h
  · cases h
  · split at h
    · cases h
    · obtain ⟨x, y, hx, hy, rfl⟩ := cat_ok h
      obtain ⟨z, t, hz, ht, rfl⟩ := cat_ok hy
      cases hx
      cases ht
      have := vecW_len hz
      simp only [List.length_append, NumM.be_length, size_data] at *
      omega
theorem bodyW_len {p : Pk} {b : List UInt8} (h : bodyW p = .ok b) : 9 ≤ b.length ∧ b.length ≤ 17700 := by
  obtain ⟨x, y, hx, hy, rfl⟩ := cat_ok h
  have h9 := confW_len hx
  suffices y.length ≤ 17673 by
    rw [List.length_append]
    omega
  unfold restW at hy
  split at hy
  · have := msgW_len hy; omega
  split at hy
  · obtain ⟨a, c, ha, hc, rfl⟩ := cat_ok hy
    obtain ⟨d, e, hd, he, rfl⟩ := cat_ok hc
    cases ha
    cases he
    have := vecW_len hd
    simp only [List.length_append, NumM.be_length] at *
    omega
  split at hy
  · obtain ⟨a, c, ha, hc, rfl⟩ := cat_ok hy
    cases hc
    have := procW_len ha
    simp only [List.length_append, NumM.be_length] at *
    omega
  split at hy
  · obtain ⟨a, c, ha, hc, rfl⟩ := cat_ok hy
    cases hc
    have := confW_len ha
    simp only [List.length_append, NumM.be_length] at *
    omega
  split at hy
  · cases hy
    simp [NumM.be_length]
  split at hy
  · split at hy
    · have := exW_len hy; omega
    · cases hy
  split at hy
  · split at hy
    · cases hy
    · obtain ⟨a, c, ha, hc, rfl⟩ := cat_ok hy
      cases ha
      have := exsW_len hc
      simp only [List.length_append, NumM.be_length] at *
      omega
  split at hy
  · obtain ⟨a, c, ha, hc, rfl⟩ := cat_ok hy
    have := procW_len ha
    have := msgW_len hc
    simp only [List.length_append] at *
    omega
  · cases hy
    simp

/-- a packet's bytes, or why not. -/
def printP (p : Pk) : ByteArray × Int :=
  if printE p.kind p.src p.dst ⟨#[]⟩ ≠ 0 then (⟨#[]⟩, printE p.kind p.src p.dst ⟨#[]⟩)
  else match bodyW p with
    | .error c => (⟨#[]⟩, c)
    | .ok b => (printS p.kind p.src p.dst ⟨b.toArray⟩, printE p.kind p.src p.dst ⟨b.toArray⟩)
end Go.Proofs.Ythkfgjdbgnbjkaa
