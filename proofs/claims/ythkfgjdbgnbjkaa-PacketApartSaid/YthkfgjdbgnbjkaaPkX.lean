/- The walk of packet's own. (Printed by pkown.py.) -/
import Derived.Test.YthkfgjdbgnbjkaaPkW
import Derived.Test.YthkfgjdbgnbjkaaPkS
namespace Go.Proofs.Ythkfgjdbgnbjkaa
open Go.RowKit
set_option linter.unusedSimpArgs false
set_option linter.unusedVariables false

theorem below_of_grown {a b : World} (h : a.grownBy b none) : Below a.heap.size a b := ⟨h.os, h.tape, h.output, h.size, fun k hk => h.block k hk (by simp)⟩
theorem own_below {w w' : World} {B : Nat} {e : TypeId} {size : Nat} {v : Value} {n : Nat} {xs : List Value} (h : w.ownsRow B e size v n xs) (hb : Below w.heap.size w w') : w'.ownsRow B e size v n xs :=
  h.kept (row := none) ⟨hb.os, hb.tape, hb.output, hb.size, fun k hk _ => hb.block k hk⟩ (by cases v.ownBlock <;> simp)
/-- the cells of an exchange in an own row. -/
theorem own_six {w : World} {B c : Nat} {ad : Addr} {l : List Ex} {rs : List (Option Addr × Nat)} (h : w.ownsRow B 86 6 (.slice (some ad) l.length c) l.length (xcs l rs)) (h1 : rs.length = l.length) (i : Nat) (hi : i < l.length) :
    w.cell? (ad.add (i * 6)) = some (.int .i64 (l.getD i .zero).who) ∧ w.cell? ⟨(ad.add (i * 6)).block, (ad.add (i * 6)).off + 1, none⟩ = some (.int .u64 ((l.getD i .zero).old.e : Int)) ∧
    w.cell? ⟨(ad.add (i * 6)).block, (ad.add (i * 6)).off + 2, none⟩ = some (.int .i64 (l.getD i .zero).old.r) ∧ w.cell? ⟨(ad.add (i * 6)).block, (ad.add (i * 6)).off + 3, none⟩ = some (.slice (rs.getD i (none, 0)).1 (l.getD i .zero).cnt.length (rs.getD i (none, 0)).2) ∧
    w.cell? ⟨(ad.add (i * 6)).block, (ad.add (i * 6)).off + 4, none⟩ = some (.int .u64 ((l.getD i .zero).last.s : Int)) ∧ w.cell? ⟨(ad.add (i * 6)).block, (ad.add (i * 6)).off + 5, none⟩ = some (.int .i64 (l.getD i .zero).last.f) ∧
    w.frozen? ⟨(ad.add (i * 6)).block, (ad.add (i * 6)).off + 3, none⟩ = false ∧ ∃ g, ad = ⟨g, 0, none⟩ ∧ B ≤ g ∧ (⟨(ad.add (i * 6)).block, (ad.add (i * 6)).off + 3, none⟩ : Addr) = ⟨g, i * 6 + 3, none⟩ := by
  have h' := h
  rcases h.2 with ⟨he, hn⟩ | ⟨g, cap, cur, he, hbg, _⟩
  · omega
  · injection he with he _ hc
    injection he with he
    subst he
    have hg : ∀ r, r < 6 → ∀ u, (six (l.getD i .zero) (rs.getD i (none, 0)))[r]? = some u → w.cell? ((⟨g, 0, none⟩ : Addr).add (i * 6 + r)) = some u :=
      fun r hr u hu => World.ownsRow.cells h' rfl _ u (by rw [xcs_get _ _ _ _ h1 hi hr]; exact hu)
    have e : ∀ r, (⟨g, 0, none⟩ : Addr).add (i * 6 + (r + 1)) = ⟨((⟨g, 0, none⟩ : Addr).add (i * 6)).block, ((⟨g, 0, none⟩ : Addr).add (i * 6)).off + (r + 1), none⟩ := fun r => by rw [← Go.Deep.add_add]; rfl
    have e3 : (⟨((⟨g, 0, none⟩ : Addr).add (i * 6)).block, ((⟨g, 0, none⟩ : Addr).add (i * 6)).off + 3, none⟩ : Addr) = ⟨g, i * 6 + 3, none⟩ := by
      rw [← e 2]
      unfold Addr.add
      rw [if_neg (by omega)]
      simp
    exact ⟨hg 0 (by omega) _ rfl, (e 0) ▸ hg 1 (by omega) _ rfl, (e 1) ▸ hg 2 (by omega) _ rfl, (e 2) ▸ hg 3 (by omega) _ rfl, (e 3) ▸ hg 4 (by omega) _ rfl, (e 4) ▸ hg 5 (by omega) _ rfl,
      by rw [e3]; subst hc; exact World.ownsRow.frozenAt h' _, g, rfl, hbg, e3⟩
theorem getD_set_eq {α : Type} (l : List α) (i : Nat) (a d : α) (h : i < l.length) : (l.set i a).getD i d = a := by simp [List.getD, h]
theorem getD_set_ne {α : Type} (l : List α) (i j : Nat) (a d : α) (h : i ≠ j) : (l.set i a).getD j d = l.getD j d := by simp [List.getD, List.getElem?_set_ne h]

theorem PerU.nilw (w : World) (A : Option Addr) : PerU w A [] := fun w' _ i hi => by simp at hi
theorem PerX.nilw (w : World) (A : Option Addr) : PerX w A [] := fun i hi => by simp at hi
theorem own_row_low {w : World} {B B' K : Nat} {cs : Array Value} {e : TypeId} {size : Nat} {v : Value} {n : Nat} {xs : List Value} (h : w.ownsRow B e size v n xs) (hB : B' ≤ K ∧ K < B) : (w.setRow K cs).ownsRow B' e size v n xs :=
  own_low_any (h.kept (row := some K) ⟨rfl, rfl, rfl, by simp, fun q _ hq => setRow_other w K q cs (fun e => hq (by rw [e]))⟩ (by
    cases hq : v.ownBlock with
    | none => exact .inl rfl
    | some q => exact .inr (by have := own_base_any h hq; intro e; injection e with e; omega))) (by omega)
theorem xown_row_low {w : World} {B B' K : Nat} {cs : Array Value} {v : Value} {l : List Ex} (h : XOwn w B v l) (hB : B' ≤ K ∧ K < B) : XOwn (w.setRow K cs) B' v l := by
  obtain ⟨rs, h1, h2, h3⟩ := h
  exact ⟨rs, h1, own_row_low h2 hB, fun i hi => own_row_low (h3 i hi) hB⟩

theorem OwnV.row_low {w : World} {B B' K : Nat} {cs : Array Value} {p : Pk} {v : Value} (h : OwnV w B p v) (hB : B' ≤ K ∧ K < B) : OwnV (w.setRow K cs) B' p v := by
  obtain ⟨Am, cm, Ag, cg, Ax, cx, rfl, h1, h2, h3⟩ := h
  exact ⟨Am, cm, Ag, cg, Ax, cx, rfl, own_row_low h1 hB, own_row_low h2 hB, xown_row_low h3 hB⟩

set_option maxHeartbeats 3200000 in
set_option maxRecDepth 8000 in
theorem own_any (p : Pk) (Am : Option Addr) (cm : Nat) (Ag : Option Addr) (cg : Nat) (Ax : Option Addr) (cx : Nat) (w : World)
    (hm : PerU w Am p.m.deps) (hg : PerU w Ag p.got) (hx : PerX w Ax p.x) (h1 : p.m.deps.length ≤ 35184372088832) (h2 : p.got.length ≤ 35184372088832) (h3 : p.x.length ≤ 1000000) (h4 : ∀ e ∈ p.x, e.cnt.length ≤ 35184372088832) :
    Calls Try.prog 76 #[pkV p Am cm Ag cg Ax cx] w fun e w' => (∃ v, e = .returned v ∧ OwnV w' w.heap.size p v) ∧ Below w.heap.size w w' := by
  have HP := Lib.hid (rfl : p = p)
  obtain ⟨kind, src, dst, ⟨ce, cr⟩, ⟨mf, ms, mt, mv, md, my⟩, stamp, sent, got, horizon, whom, seq, members, ⟨pe, pr⟩, epoch, x⟩ := p
  unfold pkV
  dsimp only at *
  obtain ⟨i0, hi, hz0, hz1, hz2⟩ := parts25
  obtain ⟨j0, ji, jz0, jz1, jz2⟩ := parts86
  obtain ⟨rs, hrl, hru, hrf⟩ := hx.flat
  have HM := Lib.hid hm
  have HG := Lib.hid hg
  have HX := Lib.hid hx
  have HRU := Lib.hid hru
  have HRF := Lib.hid hrf
  have H4 := Lib.hid h4
  have hb0 : Below w.heap.size w ((w.alloc (.cells #[.int .i64 kind, .int .i64 src, .int .i64 dst, .int .u64 (ce : Int), .int .i64 cr, .int .i64 mf, .int .u32 (ms : Int), .int .u64 (mt : Int), .int .i64 mv, .slice Am md.length cm, .string my, .int .u64 (stamp : Int), .int .u32 (sent : Int), .slice Ag got.length cg, .int .u64 (horizon : Int), .int .i64 whom, .int .u32 (seq : Int), .int .u64 (members : Int), .int .u64 (pe : Int), .int .i64 pr, .int .u64 (epoch : Int), .slice Ax x.length cx] 73)).alloc (.cells #[.int .i64 0, .int .i64 0, .int .i64 0, .int .u64 0, .int .i64 0, .int .i64 0, .int .u32 0, .int .u64 0, .int .i64 0, .slice none 0 0, .string ⟨#[]⟩, .int .u64 0, .int .u32 0, .slice none 0 0, .int .u64 0, .int .i64 0, .int .u32 0, .int .u64 0, .int .u64 0, .int .i64 0, .int .u64 0, .slice none 0 0] 73)) := below_alloc (below_alloc (Below.refl _ _) _) _
  have D0 : ((w.alloc (.cells #[.int .i64 kind, .int .i64 src, .int .i64 dst, .int .u64 (ce : Int), .int .i64 cr, .int .i64 mf, .int .u32 (ms : Int), .int .u64 (mt : Int), .int .i64 mv, .slice Am md.length cm, .string my, .int .u64 (stamp : Int), .int .u32 (sent : Int), .slice Ag got.length cg, .int .u64 (horizon : Int), .int .i64 whom, .int .u32 (seq : Int), .int .u64 (members : Int), .int .u64 (pe : Int), .int .i64 pr, .int .u64 (epoch : Int), .slice Ax x.length cx] 73)).alloc (.cells #[.int .i64 0, .int .i64 0, .int .i64 0, .int .u64 0, .int .i64 0, .int .i64 0, .int .u32 0, .int .u64 0, .int .i64 0, .slice none 0 0, .string ⟨#[]⟩, .int .u64 0, .int .u32 0, .slice none 0 0, .int .u64 0, .int .i64 0, .int .u32 0, .int .u64 0, .int .u64 0, .int .i64 0, .int .u64 0, .slice none 0 0] 73)).heap[w.heap.size]? = some (.cells #[.int .i64 kind, .int .i64 src, .int .i64 dst, .int .u64 (ce : Int), .int .i64 cr, .int .i64 mf, .int .u32 (ms : Int), .int .u64 (mt : Int), .int .i64 mv, .slice Am md.length cm, .string my, .int .u64 (stamp : Int), .int .u32 (sent : Int), .slice Ag got.length cg, .int .u64 (horizon : Int), .int .i64 whom, .int .u32 (seq : Int), .int .u64 (members : Int), .int .u64 (pe : Int), .int .i64 pr, .int .u64 (epoch : Int), .slice Ax x.length cx] 73 (0, 0)) := (Below.heap_alloc _ _ _ (by simp)).trans (heap_alloc_new w _)
  have HZ0 : Hid (((w.alloc (.cells #[.int .i64 kind, .int .i64 src, .int .i64 dst, .int .u64 (ce : Int), .int .i64 cr, .int .i64 mf, .int .u32 (ms : Int), .int .u64 (mt : Int), .int .i64 mv, .slice Am md.length cm, .string my, .int .u64 (stamp : Int), .int .u32 (sent : Int), .slice Ag got.length cg, .int .u64 (horizon : Int), .int .i64 whom, .int .u32 (seq : Int), .int .u64 (members : Int), .int .u64 (pe : Int), .int .i64 pr, .int .u64 (epoch : Int), .slice Ax x.length cx] 73)).alloc (.cells #[.int .i64 0, .int .i64 0, .int .i64 0, .int .u64 0, .int .i64 0, .int .i64 0, .int .u32 0, .int .u64 0, .int .i64 0, .slice none 0 0, .string ⟨#[]⟩, .int .u64 0, .int .u32 0, .slice none 0 0, .int .u64 0, .int .i64 0, .int .u32 0, .int .u64 0, .int .u64 0, .int .i64 0, .int .u64 0, .slice none 0 0] 73)).heap[w.heap.size + 1]? = some (.cells #[.int .i64 0, .int .i64 0, .int .i64 0, .int .u64 0, .int .i64 0, .int .i64 0, .int .u32 0, .int .u64 0, .int .i64 0, .slice none 0 0, .string ⟨#[]⟩, .int .u64 0, .int .u32 0, .slice none 0 0, .int .u64 0, .int .i64 0, .int .u32 0, .int .u64 0, .int .u64 0, .int .i64 0, .int .u64 0, .slice none 0 0] 73 (0, 0))) := by
    show ((w.alloc (.cells #[.int .i64 kind, .int .i64 src, .int .i64 dst, .int .u64 (ce : Int), .int .i64 cr, .int .i64 mf, .int .u32 (ms : Int), .int .u64 (mt : Int), .int .i64 mv, .slice Am md.length cm, .string my, .int .u64 (stamp : Int), .int .u32 (sent : Int), .slice Ag got.length cg, .int .u64 (horizon : Int), .int .i64 whom, .int .u32 (seq : Int), .int .u64 (members : Int), .int .u64 (pe : Int), .int .i64 pr, .int .u64 (epoch : Int), .slice Ax x.length cx] 73)).alloc (.cells #[.int .i64 0, .int .i64 0, .int .i64 0, .int .u64 0, .int .i64 0, .int .i64 0, .int .u32 0, .int .u64 0, .int .i64 0, .slice none 0 0, .string ⟨#[]⟩, .int .u64 0, .int .u32 0, .slice none 0 0, .int .u64 0, .int .i64 0, .int .u32 0, .int .u64 0, .int .u64 0, .int .i64 0, .int .u64 0, .slice none 0 0] 73)).heap[w.heap.size + 1]? = _
    rw [show w.heap.size + 1 = (w.alloc (.cells #[.int .i64 kind, .int .i64 src, .int .i64 dst, .int .u64 (ce : Int), .int .i64 cr, .int .i64 mf, .int .u32 (ms : Int), .int .u64 (mt : Int), .int .i64 mv, .slice Am md.length cm, .string my, .int .u64 (stamp : Int), .int .u32 (sent : Int), .slice Ag got.length cg, .int .u64 (horizon : Int), .int .i64 whom, .int .u32 (seq : Int), .int .u64 (members : Int), .int .u64 (pe : Int), .int .i64 pr, .int .u64 (epoch : Int), .slice Ax x.length cx] 73)).heap.size by simp]
    exact heap_alloc_new _ _
  have k13 : ((w.alloc (.cells #[.int .i64 kind, .int .i64 src, .int .i64 dst, .int .u64 (ce : Int), .int .i64 cr, .int .i64 mf, .int .u32 (ms : Int), .int .u64 (mt : Int), .int .i64 mv, .slice Am md.length cm, .string my, .int .u64 (stamp : Int), .int .u32 (sent : Int), .slice Ag got.length cg, .int .u64 (horizon : Int), .int .i64 whom, .int .u32 (seq : Int), .int .u64 (members : Int), .int .u64 (pe : Int), .int .i64 pr, .int .u64 (epoch : Int), .slice Ax x.length cx] 73)).alloc (.cells #[.int .i64 0, .int .i64 0, .int .i64 0, .int .u64 0, .int .i64 0, .int .i64 0, .int .u32 0, .int .u64 0, .int .i64 0, .slice none 0 0, .string ⟨#[]⟩, .int .u64 0, .int .u32 0, .slice none 0 0, .int .u64 0, .int .i64 0, .int .u32 0, .int .u64 0, .int .u64 0, .int .i64 0, .int .u64 0, .slice none 0 0] 73)).cell? ⟨w.heap.size, 13, none⟩ = some (.slice Ag got.length cg) := cell_of_row _ _ 13 _ _ _ D0
  have HD0 := Lib.hid D0
  have hs0 : ((w.alloc (.cells #[.int .i64 kind, .int .i64 src, .int .i64 dst, .int .u64 (ce : Int), .int .i64 cr, .int .i64 mf, .int .u32 (ms : Int), .int .u64 (mt : Int), .int .i64 mv, .slice Am md.length cm, .string my, .int .u64 (stamp : Int), .int .u32 (sent : Int), .slice Ag got.length cg, .int .u64 (horizon : Int), .int .i64 whom, .int .u32 (seq : Int), .int .u64 (members : Int), .int .u64 (pe : Int), .int .i64 pr, .int .u64 (epoch : Int), .slice Ax x.length cx] 73)).alloc (.cells #[.int .i64 0, .int .i64 0, .int .i64 0, .int .u64 0, .int .i64 0, .int .i64 0, .int .u32 0, .int .u64 0, .int .i64 0, .slice none 0 0, .string ⟨#[]⟩, .int .u64 0, .int .u32 0, .slice none 0 0, .int .u64 0, .int .i64 0, .int .u32 0, .int .u64 0, .int .u64 0, .int .i64 0, .int .u64 0, .slice none 0 0] 73)).heap.size = w.heap.size + 2 := by simp
  clear D0 hm hg hx hru hrf h4
  go_enter Try.func76, Try.ntmps76
  go_wp2_with (at_builtin; refine wpList_append_copy _ rfl (.tmp 6) 68 rfl (w.heap.size + 2) 25 i0 (.int .u32 0) 1 4 Try.underlying68 hi hz0 hz1 hz2 rfl (by decide) Ag got.length cg (uvals got) rfl ?c1x6 (uvals_length _) ?c2x6 (uvals_one _) ?c3x6 ?c4x6 ?c5x6 ?_)
  case c1x6 => rintro rfl; first | exact (HG.out _ hb0).none | exact List.eq_nil_of_length_eq_zero ((HG.out _ hb0).none)
  case c2x6 => exact (HG.out _ hb0).flat
  try (case c3x6 => unfold maxLen; omega)
  try (case c4x6 => omega)
  try (case c5x6 => omega)
  intro v1 w1 ho hgr
  obtain ⟨Ag1, cg1, rfl⟩ := own_form_any ho
  have hbn := below_of_grown hgr
  have D1 := (hbn.block (w.heap.size) (by omega)).trans HD0.out
  have Z1 := (hbn.block (w.heap.size + 1) (by omega)).trans HZ0.out
  have hbw := below_step hb0 hbn
  have hsn : w.heap.size + 2 ≤ w1.heap.size := Nat.le_trans (by omega) hbn.size
  have k13 : w1.cell? ⟨w.heap.size, 13, none⟩ = some (.slice Ag got.length cg) := cell_of_row _ _ 13 _ _ _ D1
  have f13 : w1.frozen? ⟨w.heap.size, 13, none⟩ = false := by simp [World.frozen?, D1]
  have HD1 : Hid ((w1.setCell ⟨w.heap.size, 13, none⟩ (.slice Ag1 got.length cg1)).heap[w.heap.size]? = some (.cells #[.int .i64 kind, .int .i64 src, .int .i64 dst, .int .u64 (ce : Int), .int .i64 cr, .int .i64 mf, .int .u32 (ms : Int), .int .u64 (mt : Int), .int .i64 mv, .slice Am md.length cm, .string my, .int .u64 (stamp : Int), .int .u32 (sent : Int), .slice Ag1 got.length cg1, .int .u64 (horizon : Int), .int .i64 whom, .int .u32 (seq : Int), .int .u64 (members : Int), .int .u64 (pe : Int), .int .i64 pr, .int .u64 (epoch : Int), .slice Ax x.length cx] 73 (0, 0))) := blk_setj D1 13 (.slice Ag1 got.length cg1)
  have HZ1 := Lib.hid ((Below.heap_setCell w1 ⟨w.heap.size, 13, none⟩ (.slice Ag1 got.length cg1) (w.heap.size + 1) (by simp)).trans Z1)
  have hb1 := hbw.setCell (p := ⟨w.heap.size, 13, none⟩) (Nat.le_refl _) (.slice Ag1 got.length cg1)
  have hs1 : w.heap.size + 2 ≤ (w1.setCell ⟨w.heap.size, 13, none⟩ (.slice Ag1 got.length cg1)).heap.size := by simpa using hsn
  have HO1 := Lib.hid (own_keep_set ho (P := w.heap.size) (by omega) 13 (.slice Ag1 got.length cg1))
  have k9 : (w1.setCell ⟨w.heap.size, 13, none⟩ (.slice Ag1 got.length cg1)).cell? ⟨w.heap.size, 9, none⟩ = some (.slice Am md.length cm) := cell_of_row _ _ 9 _ _ _ HD1.out
  clear D1 Z1 HD0 HZ0 hb0 hbn hgr ho hbw hs0
  go_wp2_with (at_builtin; refine wpList_append_copy _ rfl (.tmp 11) 68 rfl (w.heap.size + 2) 25 i0 (.int .u32 0) 1 4 Try.underlying68 hi hz0 hz1 hz2 rfl (by decide) Am md.length cm (uvals md) rfl ?c1x11 (uvals_length _) ?c2x11 (uvals_one _) ?c3x11 ?c4x11 ?c5x11 ?_)
  case c1x11 => rintro rfl; first | exact (HM.out _ hb1).none | exact List.eq_nil_of_length_eq_zero ((HM.out _ hb1).none)
  case c2x11 => exact (HM.out _ hb1).flat
  try (case c3x11 => unfold maxLen; omega)
  try (case c4x11 => omega)
  try (case c5x11 => omega)
  intro v2 w2 ho hgr
  obtain ⟨Am1, cm1, rfl⟩ := own_form_any ho
  have hbn := below_of_grown hgr
  have D2 := (hbn.block (w.heap.size) (by omega)).trans HD1.out
  have Z2 := (hbn.block (w.heap.size + 1) (by omega)).trans HZ1.out
  have hbw := below_step hb1 hbn
  have hsn : w.heap.size + 2 ≤ w2.heap.size := Nat.le_trans (by omega) hbn.size
  have k9 : w2.cell? ⟨w.heap.size, 9, none⟩ = some (.slice Am md.length cm) := cell_of_row _ _ 9 _ _ _ D2
  have f9 : w2.frozen? ⟨w.heap.size, 9, none⟩ = false := by simp [World.frozen?, D2]
  have HD2 : Hid ((w2.setCell ⟨w.heap.size, 9, none⟩ (.slice Am1 md.length cm1)).heap[w.heap.size]? = some (.cells #[.int .i64 kind, .int .i64 src, .int .i64 dst, .int .u64 (ce : Int), .int .i64 cr, .int .i64 mf, .int .u32 (ms : Int), .int .u64 (mt : Int), .int .i64 mv, .slice Am1 md.length cm1, .string my, .int .u64 (stamp : Int), .int .u32 (sent : Int), .slice Ag1 got.length cg1, .int .u64 (horizon : Int), .int .i64 whom, .int .u32 (seq : Int), .int .u64 (members : Int), .int .u64 (pe : Int), .int .i64 pr, .int .u64 (epoch : Int), .slice Ax x.length cx] 73 (0, 0))) := blk_setj D2 9 (.slice Am1 md.length cm1)
  have HZ2 := Lib.hid ((Below.heap_setCell w2 ⟨w.heap.size, 9, none⟩ (.slice Am1 md.length cm1) (w.heap.size + 1) (by simp)).trans Z2)
  have hb2 := hbw.setCell (p := ⟨w.heap.size, 9, none⟩) (Nat.le_refl _) (.slice Am1 md.length cm1)
  have hs2 : w.heap.size + 2 ≤ (w2.setCell ⟨w.heap.size, 9, none⟩ (.slice Am1 md.length cm1)).heap.size := by simpa using hsn
  have HO2 := Lib.hid (own_keep_set ho (P := w.heap.size) (by omega) 9 (.slice Am1 md.length cm1))
  have HO1n := Lib.hid (own_keep_set (own_below HO1.out hbn) (P := w.heap.size) (by omega) 9 (.slice Am1 md.length cm1))
  clear HO1
  have HO1 := HO1n
  clear HO1n
  have k21 : (w2.setCell ⟨w.heap.size, 9, none⟩ (.slice Am1 md.length cm1)).cell? ⟨w.heap.size, 21, none⟩ = some (.slice Ax x.length cx) := cell_of_row _ _ 21 _ _ _ HD2.out
  clear D2 Z2 HD1 HZ1 hb1 hbn hgr ho hbw hs1
  go_wp2_with (at_builtin; refine wpList_append_copy _ rfl (.tmp 16) 71 rfl (w.heap.size + 2) 86 j0 (.agg #[.int .i64 0, .int .u64 0, .int .i64 0, .slice none 0 0, .int .u64 0, .int .i64 0]) 6 64 Try.underlying71 ji jz0 jz1 jz2 rfl (by decide) Ax x.length cx (xcs x rs) rfl ?c1x16 (xcs_length _ _ hrl) ?c2x16 (xcs_one _ _) ?c3x16 ?c4x16 ?c5x16 ?_)
  case c1x16 => rintro rfl; first | exact HX.out.none | exact List.eq_nil_of_length_eq_zero (HX.out.none)
  case c2x16 => exact HRF.out _ hb2
  try (case c3x16 => unfold maxLen; omega)
  try (case c4x16 => omega)
  try (case c5x16 => omega)
  intro v3 w3 ho hgr
  obtain ⟨Ax1, cx1, rfl⟩ := own_form_any ho
  have hbn := below_of_grown hgr
  have D3 := (hbn.block (w.heap.size) (by omega)).trans HD2.out
  have Z3 := (hbn.block (w.heap.size + 1) (by omega)).trans HZ2.out
  have hbw := below_step hb2 hbn
  have hsn : w.heap.size + 2 ≤ w3.heap.size := Nat.le_trans (by omega) hbn.size
  have k21 : w3.cell? ⟨w.heap.size, 21, none⟩ = some (.slice Ax x.length cx) := cell_of_row _ _ 21 _ _ _ D3
  have f21 : w3.frozen? ⟨w.heap.size, 21, none⟩ = false := by simp [World.frozen?, D3]
  have HD3 : Hid ((w3.setCell ⟨w.heap.size, 21, none⟩ (.slice Ax1 x.length cx1)).heap[w.heap.size]? = some (.cells #[.int .i64 kind, .int .i64 src, .int .i64 dst, .int .u64 (ce : Int), .int .i64 cr, .int .i64 mf, .int .u32 (ms : Int), .int .u64 (mt : Int), .int .i64 mv, .slice Am1 md.length cm1, .string my, .int .u64 (stamp : Int), .int .u32 (sent : Int), .slice Ag1 got.length cg1, .int .u64 (horizon : Int), .int .i64 whom, .int .u32 (seq : Int), .int .u64 (members : Int), .int .u64 (pe : Int), .int .i64 pr, .int .u64 (epoch : Int), .slice Ax1 x.length cx1] 73 (0, 0))) := blk_setj D3 21 (.slice Ax1 x.length cx1)
  have HZ3 := Lib.hid ((Below.heap_setCell w3 ⟨w.heap.size, 21, none⟩ (.slice Ax1 x.length cx1) (w.heap.size + 1) (by simp)).trans Z3)
  have hb3 := hbw.setCell (p := ⟨w.heap.size, 21, none⟩) (Nat.le_refl _) (.slice Ax1 x.length cx1)
  have hs3 : w.heap.size + 2 ≤ (w3.setCell ⟨w.heap.size, 21, none⟩ (.slice Ax1 x.length cx1)).heap.size := by simpa using hsn
  have HO3 := Lib.hid (own_keep_set ho (P := w.heap.size) (by omega) 21 (.slice Ax1 x.length cx1))
  have HO1n := Lib.hid (own_keep_set (own_below HO1.out hbn) (P := w.heap.size) (by omega) 21 (.slice Ax1 x.length cx1))
  clear HO1
  have HO1 := HO1n
  clear HO1n
  have HO2n := Lib.hid (own_keep_set (own_below HO2.out hbn) (P := w.heap.size) (by omega) 21 (.slice Ax1 x.length cx1))
  clear HO2
  have HO2 := HO2n
  clear HO2n
  have k21 : (w3.setCell ⟨w.heap.size, 21, none⟩ (.slice Ax1 x.length cx1)).cell? ⟨w.heap.size, 21, none⟩ = some (.slice Ax1 x.length cx1) := cell_of_row _ _ 21 _ _ _ HD3.out
  clear D3 Z3 HD2 HZ2 hb2 hbn hgr ho hbw hs2
  generalize hnn : x.length = n at *
  have HN := Lib.hid hnn
  clear hnn
  go_wp2_with fail
  clear k13 k9 k21 f13 f9 f21
  generalize (w3.setCell ⟨w.heap.size, 21, none⟩ (.slice Ax1 n cx1)) = w4 at *
  go_loopw [22] (fun i wr => ∃ (k : Nat) (qs : List (Option Addr × Nat)), k ≤ n ∧ i = .int .i64 k ∧ qs.length = n ∧ Hid (wr.ownsRow (w.heap.size + 2) 86 6 (.slice Ax1 n cx1) n (xcs x qs)) ∧ Hid (∀ i, i < k → wr.ownsRow (w.heap.size + 2) 25 1 (.slice (qs.getD i (none, 0)).1 (x.getD i .zero).cnt.length (qs.getD i (none, 0)).2) (x.getD i .zero).cnt.length (uvals (x.getD i .zero).cnt)) ∧ Hid (∀ i, k ≤ i → qs.getD i (none, 0) = rs.getD i (none, 0)) ∧ Hid (wr.ownsRow (w.heap.size + 2) 25 1 (.slice Ag1 got.length cg1) got.length (uvals got)) ∧ Hid (wr.ownsRow (w.heap.size + 2) 25 1 (.slice Am1 md.length cm1) md.length (uvals md)) ∧ Hid (wr.heap[w.heap.size]? = some (.cells #[.int .i64 kind, .int .i64 src, .int .i64 dst, .int .u64 (ce : Int), .int .i64 cr, .int .i64 mf, .int .u32 (ms : Int), .int .u64 (mt : Int), .int .i64 mv, .slice Am1 md.length cm1, .string my, .int .u64 (stamp : Int), .int .u32 (sent : Int), .slice Ag1 got.length cg1, .int .u64 (horizon : Int), .int .i64 whom, .int .u32 (seq : Int), .int .u64 (members : Int), .int .u64 (pe : Int), .int .i64 pr, .int .u64 (epoch : Int), .slice Ax1 n cx1] 73 (0, 0))) ∧ Hid (wr.heap[w.heap.size + 1]? = some (.cells #[.int .i64 0, .int .i64 0, .int .i64 0, .int .u64 0, .int .i64 0, .int .i64 0, .int .u32 0, .int .u64 0, .int .i64 0, .slice none 0 0, .string ⟨#[]⟩, .int .u64 0, .int .u32 0, .slice none 0 0, .int .u64 0, .int .i64 0, .int .u32 0, .int .u64 0, .int .u64 0, .int .i64 0, .int .u64 0, .slice none 0 0] 73 (0, 0))) ∧ Hid (Below w.heap.size w wr) ∧ w.heap.size + 2 ≤ wr.heap.size) (fun i _ => n - (intOf i).toNat)
  case atStart => exact ⟨0, rs, by omega, rfl, hrl, HO3, fun i hi => absurd hi (by omega), fun i _ => rfl, HO1, HO2, HD3, HZ3, hb3, hs3⟩
  case round =>
    clear HO1 HO2 HO3 HD3 HZ3 hb3 hs3
    obtain ⟨k, qs, hk, rfl, hql, HW, HR, HE, HO1, HO2, HD, HZ, HB, hsz⟩ := hrel
    by_cases hlt : k < n
    · have hkx : k < x.length := by rw [HN.out]; exact hlt
      have hw' := HW.out
      rw [← HN.out] at hw'
      obtain ⟨ad, rfl⟩ : ∃ ad, Ax1 = some ad := by
        rcases hw'.2 with ⟨_, hn⟩ | ⟨q, cap, cur, he, _⟩
        · omega
        · injection he with he; exact ⟨_, he⟩
      obtain ⟨q0, q1, q2, q3, q4, q5, q6, gx, had, hgx, hadr⟩ := own_six hw' (hql.trans HN.out.symm) k hkx
      have HAD := Lib.hid had
      have HADR := Lib.hid hadr
      have hmem : x.getD k .zero ∈ x := by
        simp only [List.getD, List.getElem?_eq_getElem hkx, Option.getD_some]
        exact List.getElem_mem _
      have hcl := H4.out _ hmem
      have hrk := HE.out k (Nat.le_refl _)
      have hpu := HRU.out k hlt
      rw [← hrk] at hpu
      have HPU := Lib.hid hpu
      have HXK := Lib.hid (rfl : x.getD k .zero = x.getD k .zero)
      have HQK := Lib.hid (rfl : qs.getD k (none, 0) = qs.getD k (none, 0))
      clear hw' had hadr hmem hrk hpu
      generalize hxk : x.getD k .zero = y at *
      generalize hqk : qs.getD k (none, 0) = q at *
      have HXK2 := Lib.hid hxk
      have HQK2 := Lib.hid hqk
      clear hxk hqk
      obtain ⟨xw, ⟨xe, xr⟩, xc, ⟨ks, kf⟩⟩ := y
      obtain ⟨Ac, cc⟩ := q
      dsimp only at *
      go_wp2_with fail
      have hbA := below_alloc (Below.refl wr.heap.size wr) (.cells #[.int .i64 xw, .int .u64 (xe : Int), .int .i64 xr, .slice Ac xc.length cc, .int .u64 (ks : Int), .int .i64 kf] 86)
      have hAA : (wr.alloc (.cells #[.int .i64 xw, .int .u64 (xe : Int), .int .i64 xr, .slice Ac xc.length cc, .int .u64 (ks : Int), .int .i64 kf] 86)).heap[wr.heap.size]? = some (.cells #[.int .i64 xw, .int .u64 (xe : Int), .int .i64 xr, .slice Ac xc.length cc, .int .u64 (ks : Int), .int .i64 kf] 86 (0, 0)) := heap_alloc_new wr _
      have hKA : (wr.alloc (.cells #[.int .i64 xw, .int .u64 (xe : Int), .int .i64 xr, .slice Ac xc.length cc, .int .u64 (ks : Int), .int .i64 kf] 86)).heap[w.heap.size]? = _ := (hbA.block (w.heap.size) (by omega)).trans HD.out
      have gne : gx ≠ wr.heap.size := by
        intro e
        have hlt := (HW.out.lt gx (by rw [HAD.out]; rfl)).2
        omega
      refine wp_region_held_drew (S := fun w' => w'.cell? ⟨w.heap.size, 21, none⟩ = some (.slice (some ad) n cx1) ∧ w'.cell? ⟨wr.heap.size, 3, none⟩ = some (.slice Ac xc.length cc)) (by kernel_rfl) ?_ (fun hHeld => ?_)
      · exact ⟨cell_of_row _ _ 21 _ _ _ hKA, cell_of_row _ _ 3 _ _ _ hAA⟩
      have HW5 : Hid ((wr.alloc (.cells #[.int .i64 xw, .int .u64 (xe : Int), .int .i64 xr, .slice Ac xc.length cc, .int .u64 (ks : Int), .int .i64 kf] 86)).drew.ownsRow (w.heap.size + 2) 86 6 (.slice (some ad) n cx1) n (xcs x qs)) := own_below HW.out hbA.drew
      have HR5 : Hid (∀ i, i < k → (wr.alloc (.cells #[.int .i64 xw, .int .u64 (xe : Int), .int .i64 xr, .slice Ac xc.length cc, .int .u64 (ks : Int), .int .i64 kf] 86)).drew.ownsRow (w.heap.size + 2) 25 1 (.slice (qs.getD i (none, 0)).1 (x.getD i .zero).cnt.length (qs.getD i (none, 0)).2) (x.getD i .zero).cnt.length (uvals (x.getD i .zero).cnt)) := fun i hi => own_below (HR.out i hi) hbA.drew
      have HO15 : Hid ((wr.alloc (.cells #[.int .i64 xw, .int .u64 (xe : Int), .int .i64 xr, .slice Ac xc.length cc, .int .u64 (ks : Int), .int .i64 kf] 86)).drew.ownsRow (w.heap.size + 2) 25 1 (.slice Ag1 got.length cg1) got.length (uvals got)) := own_below HO1.out hbA.drew
      have HO25 : Hid ((wr.alloc (.cells #[.int .i64 xw, .int .u64 (xe : Int), .int .i64 xr, .slice Ac xc.length cc, .int .u64 (ks : Int), .int .i64 kf] 86)).drew.ownsRow (w.heap.size + 2) 25 1 (.slice Am1 md.length cm1) md.length (uvals md)) := own_below HO2.out hbA.drew
      have HD5 : Hid ((wr.alloc (.cells #[.int .i64 xw, .int .u64 (xe : Int), .int .i64 xr, .slice Ac xc.length cc, .int .u64 (ks : Int), .int .i64 kf] 86)).drew.heap[w.heap.size]? = some (.cells #[.int .i64 kind, .int .i64 src, .int .i64 dst, .int .u64 (ce : Int), .int .i64 cr, .int .i64 mf, .int .u32 (ms : Int), .int .u64 (mt : Int), .int .i64 mv, .slice Am1 md.length cm1, .string my, .int .u64 (stamp : Int), .int .u32 (sent : Int), .slice Ag1 got.length cg1, .int .u64 (horizon : Int), .int .i64 whom, .int .u32 (seq : Int), .int .u64 (members : Int), .int .u64 (pe : Int), .int .i64 pr, .int .u64 (epoch : Int), .slice (some ad) n cx1] 73 (0, 0))) := hKA
      have HZ5 : Hid ((wr.alloc (.cells #[.int .i64 xw, .int .u64 (xe : Int), .int .i64 xr, .slice Ac xc.length cc, .int .u64 (ks : Int), .int .i64 kf] 86)).drew.heap[w.heap.size + 1]? = some (.cells #[.int .i64 0, .int .i64 0, .int .i64 0, .int .u64 0, .int .i64 0, .int .i64 0, .int .u32 0, .int .u64 0, .int .i64 0, .slice none 0 0, .string ⟨#[]⟩, .int .u64 0, .int .u32 0, .slice none 0 0, .int .u64 0, .int .i64 0, .int .u32 0, .int .u64 0, .int .u64 0, .int .i64 0, .int .u64 0, .slice none 0 0] 73 (0, 0))) := (hbA.block (w.heap.size + 1) (by omega)).trans HZ.out
      have HA5 : Hid ((wr.alloc (.cells #[.int .i64 xw, .int .u64 (xe : Int), .int .i64 xr, .slice Ac xc.length cc, .int .u64 (ks : Int), .int .i64 kf] 86)).drew.heap[wr.heap.size]? = some (.cells #[.int .i64 xw, .int .u64 (xe : Int), .int .i64 xr, .slice Ac xc.length cc, .int .u64 (ks : Int), .int .i64 kf] 86 (0, 0))) := hAA
      have HB5 : Hid (Below w.heap.size w (wr.alloc (.cells #[.int .i64 xw, .int .u64 (xe : Int), .int .i64 xr, .slice Ac xc.length cc, .int .u64 (ks : Int), .int .i64 kf] 86)).drew) := below_drew (below_step HB.out hbA)
      have hsz5 : w.heap.size + 2 ≤ (wr.alloc (.cells #[.int .i64 xw, .int .u64 (xe : Int), .int .i64 xr, .slice Ac xc.length cc, .int .u64 (ks : Int), .int .i64 kf] 86)).drew.heap.size := by show _ ≤ (wr.alloc (.cells #[.int .i64 xw, .int .u64 (xe : Int), .int .i64 xr, .slice Ac xc.length cc, .int .u64 (ks : Int), .int .i64 kf] 86)).heap.size; simp; omega
      have Kx0 : w.heap.size + 2 ≤ wr.heap.size := hsz
      clear q0 q1 q2 q3 q4 q5 q6 hbA hAA hKA HW HR HO1 HO2 HD HZ HB hsz
      generalize wr.heap.size = Kx at *
      generalize (wr.alloc (.cells #[.int .i64 xw, .int .u64 (xe : Int), .int .i64 xr, .slice Ac xc.length cc, .int .u64 (ks : Int), .int .i64 kf] 86)).drew = w5 at *
      refine wpAnyH_take (i := 0) (v := .pointer (some ⟨w.heap.size, 21, none⟩)) rfl (by kernel_rfl) (by kernel_rfl) (by kernel_rfl) (fun _ _ _ h => h) (Or.inl ⟨by rfl, ?_⟩) (by assumption) ?_
      · intro w hSw; (try dsimp only at hSw); go_simp
      simp only [Act.put, List.setIfInBounds_toArray, List.set_cons_zero, List.set_cons_succ]
      refine wpAnyH_take (i := 1) (v := .slice (some ad) n cx1) rfl (by kernel_rfl) (by kernel_rfl) (by kernel_rfl) (fun _ _ _ h => h) (Or.inl ⟨by rfl, ?_⟩) (by assumption) ?_
      · intro w hSw; (try dsimp only at hSw); go_simp
      simp only [Act.put, List.setIfInBounds_toArray, List.set_cons_zero, List.set_cons_succ]
      refine wpAnyH_take (i := 2) (v := .int .i64 (k : Int)) rfl (by kernel_rfl) (by kernel_rfl) (by kernel_rfl) (fun _ _ _ h => h) (Or.inl ⟨by rfl, ?_⟩) (by assumption) ?_
      · intro w hSw; (try dsimp only at hSw); go_simp
      simp only [Act.put, List.setIfInBounds_toArray, List.set_cons_zero, List.set_cons_succ]
      refine wpAnyH_take (i := 3) (v := .pointer (some ⟨Kx, 3, none⟩)) rfl (by kernel_rfl) (by kernel_rfl) (by kernel_rfl) (fun _ _ _ h => h) (Or.inl ⟨by rfl, ?_⟩) (by assumption) ?_
      · intro w hSw; (try dsimp only at hSw); go_simp
      simp only [Act.put, List.setIfInBounds_toArray, List.set_cons_zero, List.set_cons_succ]
      refine wpAnyH_take (i := 4) (v := .slice Ac xc.length cc) rfl (by kernel_rfl) (by kernel_rfl) (by kernel_rfl) (fun _ _ _ h => h) (Or.inl ⟨by rfl, ?_⟩) (by assumption) ?_
      · intro w hSw; (try dsimp only at hSw); go_simp
      simp only [Act.put, List.setIfInBounds_toArray, List.set_cons_zero, List.set_cons_succ]
      refine wpAnyH_ready (rs := [5]) (by kernel_rfl) (by simp) ?_
      refine AllReadyH.cons rfl (fun K hK => ?_) AllReadyH.nil
      rw [if_pos (by rfl)]
      refine wp_append_copy _ (.tmp 31) 68 rfl (w.heap.size + 2) 25 i0 (.int .u32 0) 1 4 Try.underlying68 hi hz0 hz1 hz2 rfl (by decide) Ac xc.length cc (uvals xc) rfl ?e1 (uvals_length _) ?e2 (uvals_one _) ?e3 ?e4 ?e5 ?_
      case e1 => rintro rfl; exact (HPU.out _ HB5.out).none
      case e2 => exact (HPU.out _ HB5.out).flat
      case e3 => unfold maxLen; omega
      case e4 => omega
      case e5 => omega
      intro v9 w6 ho hgr
      obtain ⟨An, cn, rfl⟩ := own_form_any ho
      have hbn := below_of_grown hgr
      have HN6 := Lib.hid ho
      have HW6 := Lib.hid (own_below HW5.out hbn)
      have HR6 := Lib.hid (fun i hi => own_below (HR5.out i hi) hbn)
      have HO16 := Lib.hid (own_below HO15.out hbn)
      have HO26 := Lib.hid (own_below HO25.out hbn)
      have HD6 := Lib.hid ((hbn.block (w.heap.size) (by omega)).trans HD5.out)
      have HZ6 := Lib.hid ((hbn.block (w.heap.size + 1) (by omega)).trans HZ5.out)
      have HA6 := Lib.hid ((hbn.block Kx (blk_lt HA5.out)).trans HA5.out)
      have HB6 := Lib.hid (below_step HB5.out hbn)
      have hsz6 : w.heap.size + 2 ≤ w6.heap.size := Nat.le_trans hsz5 hbn.size
      clear ho hgr hbn HW5 HR5 HO15 HO25 HD5 HZ5 HA5 HB5 hsz5 hHeld
      refine hK.out _ _ ⟨cell_of_row _ _ 21 _ _ _ HD6.out, cell_of_row _ _ 3 _ _ _ HA6.out⟩ (fun hHeld => ?_)
      clear hK K
      refine wpAnyH_take (i := 6) (v := .pointer (some (ad.add (k * 6)))) rfl (by kernel_rfl) (by kernel_rfl) (by kernel_rfl) (fun _ _ _ h => h) (Or.inl ⟨by rfl, ?_⟩) (by assumption) ?_
      · intro w hSw; (try dsimp only at hSw); go_simp
      simp only [Act.put, List.setIfInBounds_toArray, List.set_cons_zero, List.set_cons_succ]
      refine wpAnyH_take (i := 7) (v := .pointer (some ⟨(ad.add (k * 6)).block, (ad.add (k * 6)).off + 3, none⟩)) rfl (by kernel_rfl) (by kernel_rfl) (by kernel_rfl) (fun _ _ _ h => h) (Or.inl ⟨by rfl, ?_⟩) (by assumption) ?_
      · intro w hSw; (try dsimp only at hSw); go_simp
      simp only [Act.put, List.setIfInBounds_toArray, List.set_cons_zero, List.set_cons_succ]
      have hw6 := HW6.out
      rw [← HN.out] at hw6
      obtain ⟨-, -, -, q3, -, -, q6, -⟩ := own_six hw6 (hql.trans HN.out.symm) k hkx
      rw [HXK2.out, HQK2.out] at q3
      dsimp only at q3
      clear hw6
      refine wpAnyH_ready (rs := [8]) (by kernel_rfl) (by simp) ?_
      refine AllReadyH.cons rfl (fun K hK => ?_) AllReadyH.nil
      go_simp
      clear hHeld q3 q6
      rw [HADR.out]
      have n1 : gx ≠ w.heap.size := by omega
      have n2 : gx ≠ w.heap.size + 1 := by omega
      have hwf := HW6.out
      rw [HAD.out] at hwf
      obtain ⟨hst, hsg⟩ := World.ownsRow.stored hwf (k * 6 + 3) (.slice An xc.length cn)
      have hset := xcs_set x qs k (An, cn) (hql.trans HN.out.symm) hkx
      rw [HXK2.out] at hset
      dsimp only at hset
      rw [hset, ← HAD.out] at hst
      have hkey : ∀ {v : Value} {m : Nat} {xs : List Value}, w6.ownsRow (w.heap.size + 2) 25 1 v m xs → (w6.setCell ⟨gx, k * 6 + 3, none⟩ (.slice An xc.length cn)).ownsRow (w.heap.size + 2) 25 1 v m xs := fun h => own_set_any h (by
        rcases own_kinds h hwf (by decide) with e | e
        · rw [e]; simp
        · exact e) _ _
      have HW7 := Lib.hid hst
      have HR7 : Hid (∀ i, i < k + 1 → (w6.setCell ⟨gx, k * 6 + 3, none⟩ (.slice An xc.length cn)).ownsRow (w.heap.size + 2) 25 1 (.slice ((qs.set k (An, cn)).getD i (none, 0)).1 (x.getD i .zero).cnt.length ((qs.set k (An, cn)).getD i (none, 0)).2) (x.getD i .zero).cnt.length (uvals (x.getD i .zero).cnt)) := by
        intro i hi
        by_cases hik : i = k
        · subst hik
          rw [getD_set_eq _ _ _ _ (by omega), HXK2.out]
          exact hkey HN6.out
        · rw [getD_set_ne _ _ _ _ _ (fun e => hik e.symm)]
          exact hkey (HR6.out i (by omega))
      have HE7 : Hid (∀ i, k + 1 ≤ i → (qs.set k (An, cn)).getD i (none, 0) = rs.getD i (none, 0)) := by
        intro i hi
        rw [getD_set_ne _ _ _ _ _ (by omega)]
        exact HE.out i (by omega)
      have HO17 := Lib.hid (hkey HO16.out)
      have HO27 := Lib.hid (hkey HO26.out)
      have HD7 := Lib.hid ((Below.heap_setCell w6 ⟨gx, k * 6 + 3, none⟩ (.slice An xc.length cn) (w.heap.size) (by simp; omega)).trans HD6.out)
      have HZ7 := Lib.hid ((Below.heap_setCell w6 ⟨gx, k * 6 + 3, none⟩ (.slice An xc.length cn) (w.heap.size + 1) (by simp; omega)).trans HZ6.out)
      have HA7 := Lib.hid ((Below.heap_setCell w6 ⟨gx, k * 6 + 3, none⟩ (.slice An xc.length cn) Kx (by simp; omega)).trans HA6.out)
      have HB7 := Lib.hid (HB6.out.setCell (p := ⟨gx, k * 6 + 3, none⟩) (by simp; omega) (.slice An xc.length cn))
      have hsz7 : w.heap.size + 2 ≤ (w6.setCell ⟨gx, k * 6 + 3, none⟩ (.slice An xc.length cn)).heap.size := by simpa using hsz6
      clear hkey hst hsg hwf hset HW6 HR6 HN6 HO16 HO26 HD6 HZ6 HA6 HB6 hsz6
      generalize w6.setCell ⟨gx, k * 6 + 3, none⟩ (.slice An xc.length cn) = w7 at *
      refine hK.out _ _ ⟨cell_of_row _ _ 21 _ _ _ HD7.out, cell_of_row _ _ 3 _ _ _ HA7.out⟩ (fun hHeld => ?_)
      clear hK K hHeld
      refine wpAnyH_done (by kernel_rfl) ?_ _
      go_wp2_with fail
      go_roundw
      case rel => exact ⟨k + 1, qs.set k (An, cn), by omega, by go_num, by simp [hql], HW7, HR7, HE7, HO17, HO27, HD7, HZ7, HB7, hsz7⟩
      case measure => simp [intOf]; omega
    · obtain rfl : k = n := by omega
      have hd := HD.out
      have hz := HZ.out
      have hone : (#[.int .i64 kind, .int .i64 src, .int .i64 dst, .int .u64 (ce : Int), .int .i64 cr, .int .i64 mf, .int .u32 (ms : Int), .int .u64 (mt : Int), .int .i64 mv, .slice Am1 md.length cm1, .string my, .int .u64 (stamp : Int), .int .u32 (sent : Int), .slice Ag1 got.length cg1, .int .u64 (horizon : Int), .int .i64 whom, .int .u32 (seq : Int), .int .u64 (members : Int), .int .u64 (pe : Int), .int .i64 pr, .int .u64 (epoch : Int), .slice Ax1 k cx1] : Array Value).all (·.oneCell') = true := by kernel_rfl
      go_wp2_with (first | refine wpList_load_row rfl 73 (.tmp 1) rfl (w.heap.size) (by simp [Act.eval]) 73 _ (0, 0) _ hd Try.underlying73 rfl info73 ?_ | refine wpList_store_row rfl 73 (.tmp 2) (.tmp 36) rfl (w.heap.size + 1) #[.int .i64 kind, .int .i64 src, .int .i64 dst, .int .u64 (ce : Int), .int .i64 cr, .int .i64 mf, .int .u32 (ms : Int), .int .u64 (mt : Int), .int .i64 mv, .slice Am1 md.length cm1, .string my, .int .u64 (stamp : Int), .int .u32 (sent : Int), .slice Ag1 got.length cg1, .int .u64 (horizon : Int), .int .i64 whom, .int .u32 (seq : Int), .int .u64 (members : Int), .int .u64 (pe : Int), .int .i64 pr, .int .u64 (epoch : Int), .slice Ax1 k cx1] (by simp [Act.eval, Act.put]) (by simp [Act.eval, Act.put]) 73 #[.int .i64 0, .int .i64 0, .int .i64 0, .int .u64 0, .int .i64 0, .int .i64 0, .int .u32 0, .int .u64 0, .int .i64 0, .slice none 0 0, .string ⟨#[]⟩, .int .u64 0, .int .u32 0, .slice none 0 0, .int .u64 0, .int .i64 0, .int .u32 0, .int .u64 0, .int .u64 0, .int .i64 0, .int .u64 0, .slice none 0 0] hz info73 rfl hone ?_)
      have hr := setRow_heap wr (w.heap.size + 1) #[.int .i64 0, .int .i64 0, .int .i64 0, .int .u64 0, .int .i64 0, .int .i64 0, .int .u32 0, .int .u64 0, .int .i64 0, .slice none 0 0, .string ⟨#[]⟩, .int .u64 0, .int .u32 0, .slice none 0 0, .int .u64 0, .int .i64 0, .int .u32 0, .int .u64 0, .int .u64 0, .int .i64 0, .int .u64 0, .slice none 0 0] #[.int .i64 kind, .int .i64 src, .int .i64 dst, .int .u64 (ce : Int), .int .i64 cr, .int .i64 mf, .int .u32 (ms : Int), .int .u64 (mt : Int), .int .i64 mv, .slice Am1 md.length cm1, .string my, .int .u64 (stamp : Int), .int .u32 (sent : Int), .slice Ag1 got.length cg1, .int .u64 (horizon : Int), .int .i64 whom, .int .u32 (seq : Int), .int .u64 (members : Int), .int .u64 (pe : Int), .int .i64 pr, .int .u64 (epoch : Int), .slice Ax1 k cx1] 73 (0, 0) hz
      refine bodyPost_ret (results_cell_row Try.results76 _ _ _ _ _ _ _ rfl hr Try.underlying73 rfl info73) rfl ?_
      have hk1 : ∀ {e : TypeId} {s m : Nat} {v : Value} {xs : List Value}, wr.ownsRow (w.heap.size + 2) e s v m xs → (wr.setRow (w.heap.size + 1) #[.int .i64 kind, .int .i64 src, .int .i64 dst, .int .u64 (ce : Int), .int .i64 cr, .int .i64 mf, .int .u32 (ms : Int), .int .u64 (mt : Int), .int .i64 mv, .slice Am1 md.length cm1, .string my, .int .u64 (stamp : Int), .int .u32 (sent : Int), .slice Ag1 got.length cg1, .int .u64 (horizon : Int), .int .i64 whom, .int .u32 (seq : Int), .int .u64 (members : Int), .int .u64 (pe : Int), .int .i64 pr, .int .u64 (epoch : Int), .slice Ax1 k cx1]).ownsRow w.heap.size e s v m xs := fun h => own_low_any (h.kept (row := some (w.heap.size + 1)) ⟨rfl, rfl, rfl, by simp, fun q _ hq => setRow_other wr (w.heap.size + 1) q _ (fun e => hq (by rw [e]))⟩ (by
        cases hq : Value.ownBlock _ with
        | none => exact .inl rfl
        | some q => exact .inr (by have := own_base_any h hq; intro e; injection e with e; omega))) (by omega)
      refine ⟨⟨_, rfl, Am1, cm1, Ag1, cg1, Ax1, cx1, ?_, hk1 HO2.out, hk1 HO1.out, qs, ?_, ?_, ?_⟩, below_setRow HB.out (by omega) _⟩
      · unfold pkV
        rw [HN.out]
      · rw [hql, HN.out]
      · rw [HN.out]
        exact hk1 HW.out
      · intro i hi
        rw [HN.out] at hi
        exact hk1 (HR.out i hi)
end Go.Proofs.Ythkfgjdbgnbjkaa
