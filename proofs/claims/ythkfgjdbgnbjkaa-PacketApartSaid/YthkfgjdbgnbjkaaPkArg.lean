/- A packet that came as an argument: its cells. (Printed by pkarg.py.) -/
import Derived.Test.YthkfgjdbgnbjkaaPkOne
import Derived.ChangeSame
import Derived.Deep.Slices
import Derived.WideShapes
import Derived.SizedLaws
namespace Go.Proofs.Ythkfgjdbgnbjkaa
open Go.ChangeShapes Go.WideShapes Go.Deep
set_option linter.unusedVariables false
set_option linter.unusedSimpArgs false
set_option maxRecDepth 100000

theorem cells3 : Try.prog.cellsOf 3 = 1 := by kernel_rfl
theorem cells9 : Try.prog.cellsOf 9 = 1 := by kernel_rfl
theorem cells25 : Try.prog.cellsOf 25 = 1 := by kernel_rfl
theorem cells65 : Try.prog.cellsOf 65 = 1 := by kernel_rfl
theorem cells67 : Try.prog.cellsOf 67 = 2 := by kernel_rfl
theorem cells68 : Try.prog.cellsOf 68 = 1 := by kernel_rfl
theorem cells70 : Try.prog.cellsOf 70 = 6 := by kernel_rfl
theorem cells71 : Try.prog.cellsOf 71 = 1 := by kernel_rfl
theorem cells73 : Try.prog.cellsOf 73 = 22 := by kernel_rfl
theorem cells84 : Try.prog.cellsOf 84 = 2 := by kernel_rfl
theorem cells86 : Try.prog.cellsOf 86 = 6 := by kernel_rfl
theorem bytes25 : Try.prog.bytesOf 25 = 4 := by kernel_rfl

section
variable {H : Type} {enc : TypeId × Value → H} {w : World} {base : Nat} {spare : Nat → Bool} {held : Bool}
theorem u64_open {fuel : Nat} {c : Value} {x : DataW H × List MemPlace} (h : DataW.trod enc Try.prog w base spare held fuel 65 [c] = some x) : ∃ k : Nat, c = .int .u64 (k : Int) ∧ U64 k := by
  obtain ⟨k, e, _, hw⟩ := DataW.trod_int Try.underlying65 h
  simp at e
  subst e
  have hw1 : IntKind.u64.min ≤ k ∧ k ≤ IntKind.u64.max := by simpa [Lit.wf] using hw
  have hw' : 0 ≤ k ∧ k < 18446744073709551616 := by
    rw [show IntKind.u64.min = 0 from rfl, show IntKind.u64.max = 18446744073709551615 by decide] at hw1
    omega
  refine ⟨k.toNat, ?_, ?_⟩
  · rw [Int.toNat_of_nonneg hw'.1]
  · unfold U64; omega
theorem u32_open {fuel : Nat} {c : Value} {x : DataW H × List MemPlace} (h : DataW.trod enc Try.prog w base spare held fuel 25 [c] = some x) : ∃ k : Nat, c = .int .u32 (k : Int) ∧ k < 4294967296 := by
  obtain ⟨k, e, _, hw⟩ := DataW.trod_int Try.underlying25 h
  simp at e
  subst e
  have hw1 : IntKind.u32.min ≤ k ∧ k ≤ IntKind.u32.max := by simpa [Lit.wf] using hw
  have hw' : 0 ≤ k ∧ k < 4294967296 := by
    rw [show IntKind.u32.min = 0 from rfl, show IntKind.u32.max = 4294967295 by decide] at hw1
    omega
  refine ⟨k.toNat, ?_, ?_⟩
  · rw [Int.toNat_of_nonneg hw'.1]
  · omega
theorem i64_open {fuel : Nat} {c : Value} {x : DataW H × List MemPlace} (h : DataW.trod enc Try.prog w base spare held fuel 3 [c] = some x) : ∃ k : Int, c = .int .i64 k := by
  obtain ⟨k, e, _, _⟩ := DataW.trod_int Try.underlying3 h
  simp at e
  exact ⟨k, e⟩
theorem per_cells {A : Option Addr} {l : List Nat} (h : RdU w A l) : PerU w A l := fun w' hb i hi => by
  obtain ⟨ad, hA, hc⟩ := h i hi
  exact ⟨ad, hA, (hb.cell (World.block_lt_of_cell? w _ hc)).trans hc⟩
/-- a row of uint32 that came in. -/
theorem vec_open {fuel : Nat} {c : Value} {x : DataW H × List MemPlace} (h : DataW.trod enc Try.prog w base spare held fuel 68 [c] = some x) :
    ∃ (A : Option Addr) (cap : Nat) (l : List Nat), c = .slice A l.length cap ∧ l.length ≤ maxLen ∧ (∀ v ∈ l, v < 4294967296) ∧ PerU w A l ∧ ∀ N, (∀ n ∈ x.1.weights Try.prog 68, n ≤ N) → l.length * 4 ≤ N := by
  rcases open_slice1 Try.underlying68 cells25 h with ⟨h0, _⟩ | ⟨a, len, cap, m, n, V, D, Pl, hcs, _, hl, hc, hm, hxe, hat⟩
  · simp at h0
    exact ⟨none, 0, [], h0, Nat.zero_le _, fun v hv => (by cases hv), PerU.nil _ _, fun N _ => by simp⟩
  · simp at hcs
    subst hcs
    have hf : ∀ i, i < len → ∃ k : Nat, w.cell? (a.add i) = some (.int .u32 (k : Int)) ∧ k < 4294967296 := by
      intro i hi
      obtain ⟨h1, h2⟩ := hat i (by rw [hm]; split <;> omega)
      obtain ⟨k, e, hk⟩ := u32_open h2
      exact ⟨k, by rw [h1, e], hk⟩
    obtain ⟨f, hf'⟩ := choose_lt hf
    refine ⟨some a, cap, (List.range len).map f, by simp, by simp; omega, fun v hv => ?_, per_cells (fun i hi => ⟨a, rfl, ?_⟩), fun N hN => ?_⟩
    · obtain ⟨i, hi, rfl⟩ := List.mem_map.1 hv
      exact (hf' i (List.mem_range.1 hi)).2
    · have hi' : i < len := by simpa using hi
      have := (hf' i hi').1
      simpa [List.getD, hi'] using this
    · rw [hxe] at hN
      have := hN ((((List.range len).map D).length + ((List.range (m - len)).map fun j => D (len + j)).length) * Try.prog.bytesOf 25) (by simp only [DataW.weights, Try.underlying68]; exact List.mem_cons_self ..)
      rw [bytes25] at this
      simp only [List.length_map, List.length_range] at this ⊢
      have h0 : len ≤ m := by rw [hm]; split <;> omega
      omega
theorem conf_open {fuel : Nat} {a b : Value} {x : DataW H × List MemPlace} (h : DataW.trod enc Try.prog w base spare held fuel 67 [a, b] = some x) : ∃ c : Cf, a = .int .u64 (c.e : Int) ∧ b = .int .i64 c.r ∧ U64 c.e := by
  obtain ⟨ys, n, _, _, hlen, hyl, hf⟩ := DataW.trod_struct Try.underlying67 h
  have hy : ys.length = 2 := hyl
  match ys, hy with
  | [y0, y1], _ =>
      have h0 : DataW.trod enc Try.prog w base spare held n 65 (([a, b].drop 0).take (Try.prog.cellsOf 65)) = some y0 := hf 0 _ rfl
      have h1 : DataW.trod enc Try.prog w base spare held n 3 (([a, b].drop 1).take (Try.prog.cellsOf 3)) = some y1 := hf 1 _ rfl
      rw [cells65] at h0
      rw [cells3] at h1
      obtain ⟨e, rfl, he⟩ := u64_open (c := a) h0
      obtain ⟨r, rfl⟩ := i64_open (c := b) h1
      exact ⟨⟨e, r⟩, rfl, rfl, he⟩
theorem key_open {fuel : Nat} {a b : Value} {x : DataW H × List MemPlace} (h : DataW.trod enc Try.prog w base spare held fuel 84 [a, b] = some x) : ∃ c : Ky, a = .int .u64 (c.s : Int) ∧ b = .int .i64 c.f ∧ U64 c.s := by
  obtain ⟨ys, n, _, _, hlen, hyl, hf⟩ := DataW.trod_struct Try.underlying84 h
  have hy : ys.length = 2 := hyl
  match ys, hy with
  | [y0, y1], _ =>
      have h0 : DataW.trod enc Try.prog w base spare held n 65 (([a, b].drop 0).take (Try.prog.cellsOf 65)) = some y0 := hf 0 _ rfl
      have h1 : DataW.trod enc Try.prog w base spare held n 3 (([a, b].drop 1).take (Try.prog.cellsOf 3)) = some y1 := hf 1 _ rfl
      rw [cells65] at h0
      rw [cells3] at h1
      obtain ⟨e, rfl, he⟩ := u64_open (c := a) h0
      obtain ⟨r, rfl⟩ := i64_open (c := b) h1
      exact ⟨⟨e, r⟩, rfl, rfl, he⟩
/-- an exchange's cells. -/
theorem ex_open {fuel : Nat} {cs : List Value} {x : DataW H × List MemPlace} (h : DataW.trod enc Try.prog w base spare held fuel 86 cs = some x) :
    ∃ (e : Ex) (q : Option Addr × Nat), cs = six e q ∧ e.fits ∧ e.cnt.length ≤ maxLen ∧ PerU w q.1 e.cnt := by
  obtain ⟨ys, n, _, _, hlen, hyl, hf⟩ := DataW.trod_struct Try.underlying86 h
  rw [cells86] at hlen
  match cs, hlen with
  | [a, b, c, d, e, f], _ =>
    have hy : ys.length = 4 := hyl
    match ys, hy with
    | [y0, y1, y2, y3], _ =>
      have h0 : DataW.trod enc Try.prog w base spare held n 3 (([a, b, c, d, e, f].drop 0).take (Try.prog.cellsOf 3)) = some y0 := hf 0 _ rfl
      rw [cells3] at h0
      have h1 : DataW.trod enc Try.prog w base spare held n 67 (([a, b, c, d, e, f].drop 1).take (Try.prog.cellsOf 67)) = some y1 := hf 1 _ rfl
      rw [cells67] at h1
      have h2 : DataW.trod enc Try.prog w base spare held n 68 (([a, b, c, d, e, f].drop 3).take (Try.prog.cellsOf 68)) = some y2 := hf 2 _ rfl
      rw [cells68] at h2
      have h3 : DataW.trod enc Try.prog w base spare held n 84 (([a, b, c, d, e, f].drop 4).take (Try.prog.cellsOf 84)) = some y3 := hf 3 _ rfl
      rw [cells84] at h3
      obtain ⟨k, rfl⟩ := i64_open (c := a) h0
      obtain ⟨cf, rfl, rfl, hc⟩ := conf_open (a := b) (b := c) h1
      obtain ⟨A, cap, l, rfl, hl, hv, hp, -⟩ := vec_open (c := d) h2
      obtain ⟨ky, rfl, rfl, hk⟩ := key_open (a := e) (b := f) h3
      exact ⟨⟨k, cf, l, ky⟩, (A, cap), rfl, ⟨hc, hv, hk⟩, hl, hp⟩
theorem msg_open {fuel : Nat} {a b c d e f : Value} {x : DataW H × List MemPlace} (h : DataW.trod enc Try.prog w base spare held fuel 70 [a, b, c, d, e, f] = some x) :
    ∃ (m : Ms) (A : Option Addr) (cap : Nat), a = .int .i64 m.src ∧ b = .int .u32 (m.seq : Int) ∧ c = .int .u64 (m.stamp : Int) ∧ d = .int .i64 m.svc ∧ e = .slice A m.deps.length cap ∧ f = .string m.pay ∧ m.fits ∧ m.deps.length ≤ maxLen ∧ m.pay.size ≤ maxLen ∧ PerU w A m.deps ∧ ∀ N, (∀ n ∈ x.1.weights Try.prog 70, n ≤ N) → m.deps.length * 4 ≤ N := by
  obtain ⟨ys, n, _, hxe, hlen, hyl, hf⟩ := DataW.trod_struct Try.underlying70 h
  have hy : ys.length = 6 := hyl
  match ys, hy with
  | [y0, y1, y2, y3, y4, y5], _ =>
      have h0 : DataW.trod enc Try.prog w base spare held n 3 (([a, b, c, d, e, f].drop 0).take (Try.prog.cellsOf 3)) = some y0 := hf 0 _ rfl
      rw [cells3] at h0
      have h1 : DataW.trod enc Try.prog w base spare held n 25 (([a, b, c, d, e, f].drop 1).take (Try.prog.cellsOf 25)) = some y1 := hf 1 _ rfl
      rw [cells25] at h1
      have h2 : DataW.trod enc Try.prog w base spare held n 65 (([a, b, c, d, e, f].drop 2).take (Try.prog.cellsOf 65)) = some y2 := hf 2 _ rfl
      rw [cells65] at h2
      have h3 : DataW.trod enc Try.prog w base spare held n 3 (([a, b, c, d, e, f].drop 3).take (Try.prog.cellsOf 3)) = some y3 := hf 3 _ rfl
      rw [cells3] at h3
      have h4 : DataW.trod enc Try.prog w base spare held n 68 (([a, b, c, d, e, f].drop 4).take (Try.prog.cellsOf 68)) = some y4 := hf 4 _ rfl
      rw [cells68] at h4
      have h5 : DataW.trod enc Try.prog w base spare held n 9 (([a, b, c, d, e, f].drop 5).take (Try.prog.cellsOf 9)) = some y5 := hf 5 _ rfl
      rw [cells9] at h5
      obtain ⟨k, rfl⟩ := i64_open (c := a) h0
      obtain ⟨q, rfl, hq⟩ := u32_open (c := b) h1
      obtain ⟨s, rfl, hs⟩ := u64_open (c := c) h2
      obtain ⟨v, rfl⟩ := i64_open (c := d) h3
      obtain ⟨A, cap, l, rfl, hl, hv, hp, hr⟩ := vec_open (c := e) h4
      obtain ⟨t, e5, _, hw⟩ := DataW.trod_string Try.underlying9 h5
      simp at e5
      subst e5
      exact ⟨⟨k, q, s, v, l, t⟩, A, cap, rfl, rfl, rfl, rfl, rfl, rfl, ⟨hq, hs, hv⟩, hl, by simpa [Lit.wf] using hw, hp, fun N hN => hr N (fun k hk => hN k (by rw [hxe]; simp only [DataW.weights, Try.underlying70]; exact DataW.weights_mem_each (j := 4) (t := 68) rfl rfl k hk))⟩
theorem exs_open {fuel : Nat} {c : Value} {x : DataW H × List MemPlace} (h : DataW.trod enc Try.prog w base spare held fuel 71 [c] = some x) :
    ∃ (A : Option Addr) (cap : Nat) (l : List Ex), c = .slice A l.length cap ∧ l.length ≤ maxLen ∧ (∀ e ∈ l, e.fits ∧ e.cnt.length ≤ maxLen) ∧ PerX w A l := by
  rcases open_slice Try.underlying71 h with ⟨h0, _⟩ | ⟨a, len, cap, m, n, D, Pl, hcs, _, hl, hc, hm, _, hat⟩
  · simp at h0
    exact ⟨none, 0, [], h0, Nat.zero_le _, fun v hv => (by cases hv), PerX.nil _ _⟩
  · simp at hcs
    subst hcs
    have hf : ∀ i, i < len → ∃ q : Ex × (Option Addr × Nat), w.cells? base (a.add (i * 6)) 6 = some (six q.1 q.2) ∧ q.1.fits ∧ q.1.cnt.length ≤ maxLen ∧ PerU w q.2.1 q.1.cnt := by
      intro i hi
      obtain ⟨cs', h1, h2⟩ := hat i (by rw [hm]; split <;> omega)
      obtain ⟨e, q, rfl, he⟩ := ex_open h2
      rw [cells86] at h1
      exact ⟨(e, q), h1, he⟩
    haveI : Inhabited (Ex × (Option Addr × Nat)) := ⟨(.zero, (none, 0))⟩
    obtain ⟨f, hf'⟩ := choose_lt hf
    refine ⟨some a, cap, (List.range len).map fun i => (f i).1, by simp, by simp; omega, fun v hv => ?_, fun i hi => ?_⟩
    · obtain ⟨i, hi, rfl⟩ := List.mem_map.1 hv
      obtain ⟨_, h1, h2, _⟩ := hf' i (List.mem_range.1 hi)
      exact ⟨h1, h2⟩
    · have hi' : i < len := by simpa using hi
      obtain ⟨h0, h1, h2, h3⟩ := hf' i hi'
      have hg : ((List.range len).map fun i => (f i).1).getD i .zero = (f i).1 := by simp [List.getD, hi']
      rw [hg]
      obtain ⟨_, _, hall⟩ := World.cells?_some h0
      refine ⟨a, (f i).2.1, (f i).2.2, rfl, h3, fun w' hb => ?_⟩
      have hk : ∀ {p : Addr} {v : Value}, w.cell? p = some v → w'.cell? p = some v := fun hc => (hb.cell (World.block_lt_of_cell? w _ hc)).trans hc
      have g0 := hk (hall 0 (by omega))
      have g1 := hk (hall 1 (by omega))
      have g2 := hk (hall 2 (by omega))
      have g3 := hk (hall 3 (by omega))
      have g4 := hk (hall 4 (by omega))
      have g5 := hk (hall 5 (by omega))
      exact ⟨g0, g1, g2, g3, g4, g5⟩
/-- a packet. -/
theorem packet_open {r : Reach} {b0 : Nat} {v : Value} {d : DataW H} {p : List MemPlace} (hv : Value.okWide Try.prog w r b0 73 v) (h : DataW.Trod enc Try.prog w base spare held 73 v d p) :
    ∃ k : Pk, PerV w k v ∧ k.fits ∧ k.small maxLen ∧ k.m.pay.size ≤ maxLen ∧ ∀ N, (∀ n ∈ d.weights Try.prog 73, n ≤ N) → k.got.length * 4 ≤ N ∧ k.m.deps.length * 4 ≤ N := by
  obtain ⟨m, hm⟩ := h
  obtain ⟨cs0, rfl, -⟩ := okWide_struct Try.underlying73 hv
  obtain ⟨cs, rfl⟩ : ∃ l : List Value, cs0 = l.toArray := ⟨cs0.toList, by simp⟩
  have hm' : DataW.trod enc Try.prog w base spare held m 73 cs = some (d, p) := hm
  obtain ⟨ys, n, _, hxe, hlen, hyl, hf⟩ := DataW.trod_struct Try.underlying73 hm'
  rw [cells73] at hlen
  match cs, hlen with
  | [c0, c1, c2, c3, c4, c5, c6, c7, c8, c9, c10, c11, c12, c13, c14, c15, c16, c17, c18, c19, c20, c21], _ =>
    have hy : ys.length = 15 := hyl
    match ys, hy with
    | [y0, y1, y2, y3, y4, y5, y6, y7, y8, y9, y10, y11, y12, y13, y14], _ =>
      have h0 : DataW.trod enc Try.prog w base spare held n 3 (([c0, c1, c2, c3, c4, c5, c6, c7, c8, c9, c10, c11, c12, c13, c14, c15, c16, c17, c18, c19, c20, c21].drop 0).take (Try.prog.cellsOf 3)) = some y0 := hf 0 _ rfl
      rw [cells3] at h0
      have h1 : DataW.trod enc Try.prog w base spare held n 3 (([c0, c1, c2, c3, c4, c5, c6, c7, c8, c9, c10, c11, c12, c13, c14, c15, c16, c17, c18, c19, c20, c21].drop 1).take (Try.prog.cellsOf 3)) = some y1 := hf 1 _ rfl
      rw [cells3] at h1
      have h2 : DataW.trod enc Try.prog w base spare held n 3 (([c0, c1, c2, c3, c4, c5, c6, c7, c8, c9, c10, c11, c12, c13, c14, c15, c16, c17, c18, c19, c20, c21].drop 2).take (Try.prog.cellsOf 3)) = some y2 := hf 2 _ rfl
      rw [cells3] at h2
      have h3 : DataW.trod enc Try.prog w base spare held n 67 (([c0, c1, c2, c3, c4, c5, c6, c7, c8, c9, c10, c11, c12, c13, c14, c15, c16, c17, c18, c19, c20, c21].drop 3).take (Try.prog.cellsOf 67)) = some y3 := hf 3 _ rfl
      rw [cells67] at h3
      have h4 : DataW.trod enc Try.prog w base spare held n 70 (([c0, c1, c2, c3, c4, c5, c6, c7, c8, c9, c10, c11, c12, c13, c14, c15, c16, c17, c18, c19, c20, c21].drop 5).take (Try.prog.cellsOf 70)) = some y4 := hf 4 _ rfl
      rw [cells70] at h4
      have h5 : DataW.trod enc Try.prog w base spare held n 65 (([c0, c1, c2, c3, c4, c5, c6, c7, c8, c9, c10, c11, c12, c13, c14, c15, c16, c17, c18, c19, c20, c21].drop 11).take (Try.prog.cellsOf 65)) = some y5 := hf 5 _ rfl
      rw [cells65] at h5
      have h6 : DataW.trod enc Try.prog w base spare held n 25 (([c0, c1, c2, c3, c4, c5, c6, c7, c8, c9, c10, c11, c12, c13, c14, c15, c16, c17, c18, c19, c20, c21].drop 12).take (Try.prog.cellsOf 25)) = some y6 := hf 6 _ rfl
      rw [cells25] at h6
      have h7 : DataW.trod enc Try.prog w base spare held n 68 (([c0, c1, c2, c3, c4, c5, c6, c7, c8, c9, c10, c11, c12, c13, c14, c15, c16, c17, c18, c19, c20, c21].drop 13).take (Try.prog.cellsOf 68)) = some y7 := hf 7 _ rfl
      rw [cells68] at h7
      have h8 : DataW.trod enc Try.prog w base spare held n 65 (([c0, c1, c2, c3, c4, c5, c6, c7, c8, c9, c10, c11, c12, c13, c14, c15, c16, c17, c18, c19, c20, c21].drop 14).take (Try.prog.cellsOf 65)) = some y8 := hf 8 _ rfl
      rw [cells65] at h8
      have h9 : DataW.trod enc Try.prog w base spare held n 3 (([c0, c1, c2, c3, c4, c5, c6, c7, c8, c9, c10, c11, c12, c13, c14, c15, c16, c17, c18, c19, c20, c21].drop 15).take (Try.prog.cellsOf 3)) = some y9 := hf 9 _ rfl
      rw [cells3] at h9
      have h10 : DataW.trod enc Try.prog w base spare held n 25 (([c0, c1, c2, c3, c4, c5, c6, c7, c8, c9, c10, c11, c12, c13, c14, c15, c16, c17, c18, c19, c20, c21].drop 16).take (Try.prog.cellsOf 25)) = some y10 := hf 10 _ rfl
      rw [cells25] at h10
      have h11 : DataW.trod enc Try.prog w base spare held n 65 (([c0, c1, c2, c3, c4, c5, c6, c7, c8, c9, c10, c11, c12, c13, c14, c15, c16, c17, c18, c19, c20, c21].drop 17).take (Try.prog.cellsOf 65)) = some y11 := hf 11 _ rfl
      rw [cells65] at h11
      have h12 : DataW.trod enc Try.prog w base spare held n 67 (([c0, c1, c2, c3, c4, c5, c6, c7, c8, c9, c10, c11, c12, c13, c14, c15, c16, c17, c18, c19, c20, c21].drop 18).take (Try.prog.cellsOf 67)) = some y12 := hf 12 _ rfl
      rw [cells67] at h12
      have h13 : DataW.trod enc Try.prog w base spare held n 65 (([c0, c1, c2, c3, c4, c5, c6, c7, c8, c9, c10, c11, c12, c13, c14, c15, c16, c17, c18, c19, c20, c21].drop 20).take (Try.prog.cellsOf 65)) = some y13 := hf 13 _ rfl
      rw [cells65] at h13
      have h14 : DataW.trod enc Try.prog w base spare held n 71 (([c0, c1, c2, c3, c4, c5, c6, c7, c8, c9, c10, c11, c12, c13, c14, c15, c16, c17, c18, c19, c20, c21].drop 21).take (Try.prog.cellsOf 71)) = some y14 := hf 14 _ rfl
      rw [cells71] at h14
      obtain ⟨kind, rfl⟩ := i64_open (c := c0) h0
      obtain ⟨src, rfl⟩ := i64_open (c := c1) h1
      obtain ⟨dst, rfl⟩ := i64_open (c := c2) h2
      obtain ⟨cf, rfl, rfl, hcf⟩ := conf_open (a := c3) (b := c4) h3
      obtain ⟨ms, Am, cm, rfl, rfl, rfl, rfl, rfl, rfl, hms, hml, hmp, hmr, hmw⟩ := msg_open (a := c5) (b := c6) (c := c7) (d := c8) (e := c9) (f := c10) h4
      obtain ⟨stamp, rfl, hst⟩ := u64_open (c := c11) h5
      obtain ⟨sent, rfl, hse⟩ := u32_open (c := c12) h6
      obtain ⟨Ag, cg, got, rfl, hgl, hgv, hgr, hgw⟩ := vec_open (c := c13) h7
      obtain ⟨hor, rfl, hho⟩ := u64_open (c := c14) h8
      obtain ⟨whom, rfl⟩ := i64_open (c := c15) h9
      obtain ⟨seq, rfl, hsq⟩ := u32_open (c := c16) h10
      obtain ⟨mem, rfl, hme⟩ := u64_open (c := c17) h11
      obtain ⟨pr, rfl, rfl, hpr⟩ := conf_open (a := c18) (b := c19) h12
      obtain ⟨ep, rfl, hep⟩ := u64_open (c := c20) h13
      obtain ⟨Ax, cx, xs, rfl, hxl, hxv, hxr⟩ := exs_open (c := c21) h14
      refine ⟨⟨kind, src, dst, cf, ms, stamp, sent, got, hor, whom, seq, mem, pr, ep, xs⟩, ⟨Am, cm, Ag, cg, Ax, cx, rfl, hmr, hgr, hxr⟩, ⟨hcf, hms, hst, hse, hgv, hho, hsq, hme, hpr, hep, fun e he => (hxv e he).1⟩, ⟨hml, hgl, hxl, fun e he => (hxv e he).2⟩, hmp, fun N hN => ?_⟩
      have hd := congrArg Prod.fst hxe
      dsimp only at hd
      refine ⟨hgw N (fun k hk => hN k ?_), hmw N (fun k hk => hN k ?_)⟩
      · rw [hd]
        simp only [DataW.weights, Try.underlying73]
        exact DataW.weights_mem_each (j := 7) (t := 68) rfl rfl k hk
      · rw [hd]
        simp only [DataW.weights, Try.underlying73]
        exact DataW.weights_mem_each (j := 4) (t := 70) rfl rfl k hk
end
end Go.Proofs.Ythkfgjdbgnbjkaa
