/- The walk of packet's Parse. (Printed by pkparse.py.) -/
import Derived.Test.YthkfgjdbgnbjkaaPkR
import Derived.Laws.CopyOwn
namespace Go.Proofs.Ythkfgjdbgnbjkaa
open Go.RowKit
set_option linter.unusedSimpArgs false
set_option linter.unusedVariables false

/-- a packet that is parsed, or why not. -/
def parseP (s : ByteArray) : Pk × Int :=
  if (parseF s).e ≠ 0 then (.zero, (parseF s).e)
  else match bodyP (parseF s).k (parseF s).f (parseF s).t (parseF s).b.data.toList with
    | .error c => (.zero, c)
    | .ok p => (p, 0)
/-- a packet's value whose rows lie from B on. -/
def OwnV (w : World) (B : Nat) (p : Pk) (v : Value) : Prop :=
  ∃ Am cm Ag cg Ax cx, v = pkV p Am cm Ag cg Ax cx ∧ w.ownsRow B 25 1 (.slice Am p.m.deps.length cm) p.m.deps.length (uvals p.m.deps) ∧
    w.ownsRow B 25 1 (.slice Ag p.got.length cg) p.got.length (uvals p.got) ∧ XOwn w B (.slice Ax p.x.length cx) p.x
theorem OwnV.zero (w : World) (B : Nat) : OwnV w B .zero (.agg zpk) := ⟨none, 0, none, 0, none, 0, rfl, World.ownsRow_nil _ _ _ _, World.ownsRow_nil _ _ _ _, XOwn.nil _ _⟩
theorem Pk.zero_fits : Pk.zero.fits := ⟨z64, zms, z64, z32, znil, z64, z32, z64, z64, z64, zex⟩
theorem results44 (p q : Nat) (cs : Array Value) (e : Value) (tmps : Array Value) (w : World) (h2 : tmps.getD 2 undef = .pointer (some ⟨p, 0, none⟩)) (h3 : tmps.getD 3 undef = .pointer (some ⟨q, 0, none⟩))
    (hp : w.heap[p]? = some (.cells cs 73 (0, 0))) (hs : cs.size = 22) (hq : w.cell? ⟨q, 0, none⟩ = some e) : (results Try.f44 tmps).run Try.prog w = .ok (.tuple #[.agg cs, e]) w := by
  have h2' : tmps[2]?.getD undef = .pointer (some ⟨p, 0, none⟩) := by simpa using h2
  have h3' : tmps[3]?.getD undef = .pointer (some ⟨q, 0, none⟩) := by simpa using h3
  have hl := run_loadVar_row (P := Try.prog) w p 73 73 cs (0, 0) _ hp Try.underlying73 rfl (by rw [hs]; exact info73)
  have hl2 : (loadVar 38 ⟨q, 0, none⟩).run Try.prog w = .ok e w := by simp [go_sem, hq]
  simp [results, Try.results44, h2', h3', asAddr, hl, hl2]

theorem Two.below {g P B : Nat} {a w w' : World} (k : Two g P w w') (h : Below B a w) (hB : B ≤ w.heap.size) (hg : B ≤ g) (hP : B ≤ P) : Below B a w' :=
  ⟨k.os.trans h.os, k.tape.trans h.tape, k.output.trans h.output, Nat.le_trans h.size k.size, fun i hi => (k.block i (Nat.lt_of_lt_of_le hi hB) (by omega) (by omega)).trans (h.block i hi)⟩
theorem XOwn.low {w : World} {B B' : Nat} {v : Value} {l : List Ex} (h : XOwn w B v l) (hB : B' ≤ B) : XOwn w B' v l := by
  obtain ⟨rs, h1, h2, h3⟩ := h
  exact ⟨rs, h1, own_low_any h2 hB, fun i hi => own_low_any (h3 i hi) hB⟩
theorem parseF_kind {s : ByteArray} (he : (parseF s).e = 0) : 1 ≤ (parseF s).k ∧ (parseF s).k ≤ 11 := by
  rcases parseF_cases s with ⟨e, h, hne⟩ | ⟨h1, h2, _⟩
  · rw [h] at he
    exact absurd he hne
  · exact (printE_zero h2).1

set_option maxHeartbeats 3200000 in
set_option maxRecDepth 8000 in
theorem rparse_no (s : ByteArray) (w : World) (hs : s.size ≤ 1000004) (he : (parseF s).e ≠ 0) :
    Calls Try.prog 44 #[.string s] w fun e w' => e = .returned (.tuple #[.agg zpk, .int .i64 (parseF s).e]) ∧ Below w.heap.size w w' := by
  have hb0 : Below w.heap.size w ((w.alloc (.cells #[.int .i64 0, .int .i64 0, .int .i64 0, .int .u64 0, .int .i64 0, .int .i64 0, .int .u32 0, .int .u64 0, .int .i64 0, .slice none 0 0, .string ⟨#[]⟩, .int .u64 0, .int .u32 0, .slice none 0 0, .int .u64 0, .int .i64 0, .int .u32 0, .int .u64 0, .int .u64 0, .int .i64 0, .int .u64 0, .slice none 0 0] 73)).alloc (.cells #[.int .i64 0] 38)) := below_alloc (below_alloc (Below.refl _ _) _) _
  have A0 : Hid (((w.alloc (.cells #[.int .i64 0, .int .i64 0, .int .i64 0, .int .u64 0, .int .i64 0, .int .i64 0, .int .u32 0, .int .u64 0, .int .i64 0, .slice none 0 0, .string ⟨#[]⟩, .int .u64 0, .int .u32 0, .slice none 0 0, .int .u64 0, .int .i64 0, .int .u32 0, .int .u64 0, .int .u64 0, .int .i64 0, .int .u64 0, .slice none 0 0] 73)).alloc (.cells #[.int .i64 0] 38)).heap[w.heap.size]? = some (.cells #[.int .i64 0, .int .i64 0, .int .i64 0, .int .u64 0, .int .i64 0, .int .i64 0, .int .u32 0, .int .u64 0, .int .i64 0, .slice none 0 0, .string ⟨#[]⟩, .int .u64 0, .int .u32 0, .slice none 0 0, .int .u64 0, .int .i64 0, .int .u32 0, .int .u64 0, .int .u64 0, .int .i64 0, .int .u64 0, .slice none 0 0] 73 (0, 0))) := (Below.heap_alloc _ _ _ (by simp)).trans (heap_alloc_new w _)
  have A1 : Hid (((w.alloc (.cells #[.int .i64 0, .int .i64 0, .int .i64 0, .int .u64 0, .int .i64 0, .int .i64 0, .int .u32 0, .int .u64 0, .int .i64 0, .slice none 0 0, .string ⟨#[]⟩, .int .u64 0, .int .u32 0, .slice none 0 0, .int .u64 0, .int .i64 0, .int .u32 0, .int .u64 0, .int .u64 0, .int .i64 0, .int .u64 0, .slice none 0 0] 73)).alloc (.cells #[.int .i64 0] 38)).heap[w.heap.size + 1]? = some (.cells #[.int .i64 0] 38 (0, 0))) := by
    show ((w.alloc (.cells #[.int .i64 0, .int .i64 0, .int .i64 0, .int .u64 0, .int .i64 0, .int .i64 0, .int .u32 0, .int .u64 0, .int .i64 0, .slice none 0 0, .string ⟨#[]⟩, .int .u64 0, .int .u32 0, .slice none 0 0, .int .u64 0, .int .i64 0, .int .u32 0, .int .u64 0, .int .u64 0, .int .i64 0, .int .u64 0, .slice none 0 0] 73)).alloc (.cells #[.int .i64 0] 38)).heap[w.heap.size + 1]? = _
    rw [show w.heap.size + 1 = (w.alloc (.cells #[.int .i64 0, .int .i64 0, .int .i64 0, .int .u64 0, .int .i64 0, .int .i64 0, .int .u32 0, .int .u64 0, .int .i64 0, .slice none 0 0, .string ⟨#[]⟩, .int .u64 0, .int .u32 0, .slice none 0 0, .int .u64 0, .int .i64 0, .int .u32 0, .int .u64 0, .int .u64 0, .int .i64 0, .int .u64 0, .slice none 0 0] 73)).heap.size by simp]
    exact heap_alloc_new _ _
  have HP := Lib.hid (parse_any s ((w.alloc (.cells #[.int .i64 0, .int .i64 0, .int .i64 0, .int .u64 0, .int .i64 0, .int .i64 0, .int .u32 0, .int .u64 0, .int .i64 0, .slice none 0 0, .string ⟨#[]⟩, .int .u64 0, .int .u32 0, .slice none 0 0, .int .u64 0, .int .i64 0, .int .u32 0, .int .u64 0, .int .u64 0, .int .i64 0, .int .u64 0, .slice none 0 0] 73)).alloc (.cells #[.int .i64 0] 38)) hs)
  unfold FR.vals at HP
  generalize parseF s = fr at *
  obtain ⟨k, f, t, b, c⟩ := fr
  have hc : c ≠ 0 := he
  have hdc : decide (c = 0) = false := by simpa using hc
  clear he
  go_enter_defers Try.func44, Try.ntmps44
  go_wp2_with fail
  refine HP.out.mono ?_
  rintro e w1 ⟨rfl, hb1⟩
  have B0 := Lib.hid ((hb1.block w.heap.size (by simp; omega)).trans A0.out)
  have B1 := (hb1.block (w.heap.size + 1) (by simp)).trans A1.out
  have hbl1 := below_step hb0 hb1
  have hsz1 : w.heap.size + 2 ≤ w1.heap.size := by have := hb1.size; simpa using this
  have C1 := (Below.heap_alloc w1 (.cells #[.int .i64 k, .int .i64 f, .int .i64 t, .string b] 37) (w.heap.size + 1) (by omega)).trans B1
  have s1 := blk_cell C1
  have s2 := blk_frozen C1
  have n1 : w1.heap.size ≠ w.heap.size + 1 := by omega
  have n2 : w.heap.size + 1 ≠ w1.heap.size := by omega
  have n3 : w.heap.size ≠ w1.heap.size := by omega
  have hbl2 := below_alloc hbl1 (.cells #[.int .i64 k, .int .i64 f, .int .i64 t, .string b] 37)
  have C0 := Lib.hid ((Below.heap_alloc w1 (.cells #[.int .i64 k, .int .i64 f, .int .i64 t, .string b] 37) (w.heap.size) (by omega)).trans B0.out)
  clear hb0 hb1 A0 A1 HP B1 B0
  go_wp2_with fail
  have D0 : Hid (((w1.alloc (.cells #[.int .i64 k, .int .i64 f, .int .i64 t, .string b] 37)).setCell ⟨w.heap.size + 1, 0, none⟩ (.int .i64 c)).drew.heap[w.heap.size]? = some (.cells #[.int .i64 0, .int .i64 0, .int .i64 0, .int .u64 0, .int .i64 0, .int .i64 0, .int .u32 0, .int .u64 0, .int .i64 0, .slice none 0 0, .string ⟨#[]⟩, .int .u64 0, .int .u32 0, .slice none 0 0, .int .u64 0, .int .i64 0, .int .u32 0, .int .u64 0, .int .u64 0, .int .i64 0, .int .u64 0, .slice none 0 0] 73 (0, 0))) := (Below.heap_setCell _ ⟨w.heap.size + 1, 0, none⟩ (.int .i64 c) (w.heap.size) (by simp)).trans C0.out
  have D1 := Lib.hid (blk_set C1 (.int .i64 c))
  have hbl3 := below_drew (hbl2.setCell (p := ⟨w.heap.size + 1, 0, none⟩) (by simp) (.int .i64 c))
  refine wp_region_noPanic ?_
  refine wp_region_held_drew (S := fun w' => w'.cell? ⟨w.heap.size + 1, 0, none⟩ = some (.int .i64 c)) (by kernel_rfl) ?_ (fun hHeld => ?_)
  · exact blk_cell D1.out
  have D1d : Hid (((w1.alloc (.cells #[.int .i64 k, .int .i64 f, .int .i64 t, .string b] 37)).setCell ⟨w.heap.size + 1, 0, none⟩ (.int .i64 c)).drew.heap[w.heap.size + 1]? = some (.cells #[.int .i64 c] 38 (0, 0))) := D1
  clear D1 s1 s2 C1 hbl2 C0
  generalize ((w1.alloc (.cells #[.int .i64 k, .int .i64 f, .int .i64 t, .string b] 37)).setCell ⟨w.heap.size + 1, 0, none⟩ (.int .i64 c)).drew = w3 at *
  refine wpAnyH_take (i := 0) (v := .agg #[.int .i64 0, .int .i64 0, .int .i64 0, .int .u64 0, .int .i64 0, .int .i64 0, .int .u32 0, .int .u64 0, .int .i64 0, .slice none 0 0, .string ⟨#[]⟩, .int .u64 0, .int .u32 0, .slice none 0 0, .int .u64 0, .int .i64 0, .int .u32 0, .int .u64 0, .int .u64 0, .int .i64 0, .int .u64 0, .slice none 0 0]) rfl (by kernel_rfl) (by kernel_rfl) (by kernel_rfl) (fun _ _ _ h => h) (Or.inl ⟨by rfl, ?_⟩) (by assumption) ?_
  · intro w hSw; (try dsimp only at hSw); go_simp
  simp only [Act.put, List.setIfInBounds_toArray, List.set_cons_zero, List.set_cons_succ]
  refine wpAnyH_take (i := 1) (v := .int .i64 c) rfl (by kernel_rfl) (by kernel_rfl) (by kernel_rfl) (fun _ _ _ h => h) (Or.inl ⟨by rfl, ?_⟩) (by assumption) ?_
  · intro w hSw; (try dsimp only at hSw); go_simp
  simp only [Act.put, List.setIfInBounds_toArray, List.set_cons_zero, List.set_cons_succ]
  refine wpAnyH_ready (rs := [2]) (by kernel_rfl) (by simp) ?_
  refine AllReadyH.cons rfl (fun K hK => ?_) AllReadyH.nil
  rw [if_pos (by rfl)]
  refine wp_store_row 73 (.tmp 2) (.tmp 12) rfl (w.heap.size) #[.int .i64 0, .int .i64 0, .int .i64 0, .int .u64 0, .int .i64 0, .int .i64 0, .int .u32 0, .int .u64 0, .int .i64 0, .slice none 0 0, .string ⟨#[]⟩, .int .u64 0, .int .u32 0, .slice none 0 0, .int .u64 0, .int .i64 0, .int .u32 0, .int .u64 0, .int .u64 0, .int .i64 0, .int .u64 0, .slice none 0 0] rfl rfl 73 #[.int .i64 0, .int .i64 0, .int .i64 0, .int .u64 0, .int .i64 0, .int .i64 0, .int .u32 0, .int .u64 0, .int .i64 0, .slice none 0 0, .string ⟨#[]⟩, .int .u64 0, .int .u32 0, .slice none 0 0, .int .u64 0, .int .i64 0, .int .u32 0, .int .u64 0, .int .u64 0, .int .i64 0, .int .u64 0, .slice none 0 0] D0.out info73 rfl zpk_one ?_
  have E0 := Lib.hid (setRow_heap w3 (w.heap.size) #[.int .i64 0, .int .i64 0, .int .i64 0, .int .u64 0, .int .i64 0, .int .i64 0, .int .u32 0, .int .u64 0, .int .i64 0, .slice none 0 0, .string ⟨#[]⟩, .int .u64 0, .int .u32 0, .slice none 0 0, .int .u64 0, .int .i64 0, .int .u32 0, .int .u64 0, .int .u64 0, .int .i64 0, .int .u64 0, .slice none 0 0] #[.int .i64 0, .int .i64 0, .int .i64 0, .int .u64 0, .int .i64 0, .int .i64 0, .int .u32 0, .int .u64 0, .int .i64 0, .slice none 0 0, .string ⟨#[]⟩, .int .u64 0, .int .u32 0, .slice none 0 0, .int .u64 0, .int .i64 0, .int .u32 0, .int .u64 0, .int .u64 0, .int .i64 0, .int .u64 0, .slice none 0 0] 73 (0, 0) D0.out)
  have E1 := Lib.hid ((setRow_other w3 (w.heap.size) (w.heap.size + 1) #[.int .i64 0, .int .i64 0, .int .i64 0, .int .u64 0, .int .i64 0, .int .i64 0, .int .u32 0, .int .u64 0, .int .i64 0, .slice none 0 0, .string ⟨#[]⟩, .int .u64 0, .int .u32 0, .slice none 0 0, .int .u64 0, .int .i64 0, .int .u32 0, .int .u64 0, .int .u64 0, .int .i64 0, .int .u64 0, .slice none 0 0] (by simp)).trans D1d.out)
  have hbl4 := below_setRow hbl3 (Nat.le_refl _) #[.int .i64 0, .int .i64 0, .int .i64 0, .int .u64 0, .int .i64 0, .int .i64 0, .int .u32 0, .int .u64 0, .int .i64 0, .slice none 0 0, .string ⟨#[]⟩, .int .u64 0, .int .u32 0, .slice none 0 0, .int .u64 0, .int .i64 0, .int .u32 0, .int .u64 0, .int .u64 0, .int .i64 0, .int .u64 0, .slice none 0 0]
  clear D0 D1d hbl3 hHeld
  refine hK.out _ _ (blk_cell E1.out) (fun hHeld => ?_)
  clear hK K
  generalize w3.setRow (w.heap.size) #[.int .i64 0, .int .i64 0, .int .i64 0, .int .u64 0, .int .i64 0, .int .i64 0, .int .u32 0, .int .u64 0, .int .i64 0, .slice none 0 0, .string ⟨#[]⟩, .int .u64 0, .int .u32 0, .slice none 0 0, .int .u64 0, .int .i64 0, .int .u32 0, .int .u64 0, .int .u64 0, .int .i64 0, .int .u64 0, .slice none 0 0] = w4 at *
  have u1 := blk_cell E1.out
  have u2 := blk_frozen E1.out
  refine wpAnyH_ready (rs := [3]) (by kernel_rfl) (by simp) ?_
  refine AllReadyH.cons rfl (fun K hK => ?_) AllReadyH.nil
  go_simp
  refine hK.out _ _ (World.cell?_setCell_same _ _ _ u1) (fun hHeld => ?_)
  clear hK K
  refine wpAnyH_done (by kernel_rfl) ?_ _
  refine NoPanic.normal ?_
  go_wp2_with fail
  have z1 := World.cell?_setCell_same w4 ⟨w.heap.size + 1, 0, none⟩ (.int .i64 c) u1
  have z2 := (Below.heap_setCell w4 ⟨w.heap.size + 1, 0, none⟩ (.int .i64 c) (w.heap.size) (by simp)).trans E0.out
  simp only [bodyPostD, Leaves, settle]
  rw [results44 _ _ _ _ _ _ rfl rfl z2 rfl z1]
  exact ⟨_, rfl, rfl, hbl4.setCell (p := ⟨w.heap.size + 1, 0, none⟩) (by simp) _⟩

set_option maxHeartbeats 3200000 in
set_option maxRecDepth 8000 in
theorem rparse_err (s : ByteArray) (w : World) (hs : s.size ≤ 1000004) (he : (parseF s).e = 0) (c : Int) (hbb : bodyP (parseF s).k (parseF s).f (parseF s).t (parseF s).b.data.toList = .error c) :
    Calls Try.prog 44 #[.string s] w fun e w' => e = .returned (.tuple #[.agg zpk, .int .i64 c]) ∧ Below w.heap.size w w' := by
  have hmf : ∀ (fn : Fn) (first cap : Array Value) (w : World), (Instr.makeFunc fn first cap).run Try.prog w = .ok (.func fn first cap) w := fun _ _ _ _ => rfl
  have hb0 : Below w.heap.size w ((w.alloc (.cells #[.int .i64 0, .int .i64 0, .int .i64 0, .int .u64 0, .int .i64 0, .int .i64 0, .int .u32 0, .int .u64 0, .int .i64 0, .slice none 0 0, .string ⟨#[]⟩, .int .u64 0, .int .u32 0, .slice none 0 0, .int .u64 0, .int .i64 0, .int .u32 0, .int .u64 0, .int .u64 0, .int .i64 0, .int .u64 0, .slice none 0 0] 73)).alloc (.cells #[.int .i64 0] 38)) := below_alloc (below_alloc (Below.refl _ _) _) _
  have A0 : Hid (((w.alloc (.cells #[.int .i64 0, .int .i64 0, .int .i64 0, .int .u64 0, .int .i64 0, .int .i64 0, .int .u32 0, .int .u64 0, .int .i64 0, .slice none 0 0, .string ⟨#[]⟩, .int .u64 0, .int .u32 0, .slice none 0 0, .int .u64 0, .int .i64 0, .int .u32 0, .int .u64 0, .int .u64 0, .int .i64 0, .int .u64 0, .slice none 0 0] 73)).alloc (.cells #[.int .i64 0] 38)).heap[w.heap.size]? = some (.cells #[.int .i64 0, .int .i64 0, .int .i64 0, .int .u64 0, .int .i64 0, .int .i64 0, .int .u32 0, .int .u64 0, .int .i64 0, .slice none 0 0, .string ⟨#[]⟩, .int .u64 0, .int .u32 0, .slice none 0 0, .int .u64 0, .int .i64 0, .int .u32 0, .int .u64 0, .int .u64 0, .int .i64 0, .int .u64 0, .slice none 0 0] 73 (0, 0))) := (Below.heap_alloc _ _ _ (by simp)).trans (heap_alloc_new w _)
  have A1 : Hid (((w.alloc (.cells #[.int .i64 0, .int .i64 0, .int .i64 0, .int .u64 0, .int .i64 0, .int .i64 0, .int .u32 0, .int .u64 0, .int .i64 0, .slice none 0 0, .string ⟨#[]⟩, .int .u64 0, .int .u32 0, .slice none 0 0, .int .u64 0, .int .i64 0, .int .u32 0, .int .u64 0, .int .u64 0, .int .i64 0, .int .u64 0, .slice none 0 0] 73)).alloc (.cells #[.int .i64 0] 38)).heap[w.heap.size + 1]? = some (.cells #[.int .i64 0] 38 (0, 0))) := by
    show ((w.alloc (.cells #[.int .i64 0, .int .i64 0, .int .i64 0, .int .u64 0, .int .i64 0, .int .i64 0, .int .u32 0, .int .u64 0, .int .i64 0, .slice none 0 0, .string ⟨#[]⟩, .int .u64 0, .int .u32 0, .slice none 0 0, .int .u64 0, .int .i64 0, .int .u32 0, .int .u64 0, .int .u64 0, .int .i64 0, .int .u64 0, .slice none 0 0] 73)).alloc (.cells #[.int .i64 0] 38)).heap[w.heap.size + 1]? = _
    rw [show w.heap.size + 1 = (w.alloc (.cells #[.int .i64 0, .int .i64 0, .int .i64 0, .int .u64 0, .int .i64 0, .int .i64 0, .int .u32 0, .int .u64 0, .int .i64 0, .slice none 0 0, .string ⟨#[]⟩, .int .u64 0, .int .u32 0, .slice none 0 0, .int .u64 0, .int .i64 0, .int .u32 0, .int .u64 0, .int .u64 0, .int .i64 0, .int .u64 0, .slice none 0 0] 73)).heap.size by simp]
    exact heap_alloc_new _ _
  have HP := Lib.hid (parse_any s ((w.alloc (.cells #[.int .i64 0, .int .i64 0, .int .i64 0, .int .u64 0, .int .i64 0, .int .i64 0, .int .u32 0, .int .u64 0, .int .i64 0, .slice none 0 0, .string ⟨#[]⟩, .int .u64 0, .int .u32 0, .slice none 0 0, .int .u64 0, .int .i64 0, .int .u32 0, .int .u64 0, .int .u64 0, .int .i64 0, .int .u64 0, .slice none 0 0] 73)).alloc (.cells #[.int .i64 0] 38)) hs)
  have hkk : 1 ≤ (parseF s).k ∧ (parseF s).k ≤ 11 := parseF_kind he
  have hbs := parseF_size s
  unfold FR.vals at HP
  generalize parseF s = fr at *
  obtain ⟨k, f, t, b, c⟩ := fr
  obtain rfl : c = 0 := he
  dsimp only at hbb hkk hbs
  go_enter_defers Try.func44, Try.ntmps44
  go_wp2_with fail
  refine HP.out.mono ?_
  rintro e w1 ⟨rfl, hb1⟩
  have B0 := Lib.hid ((hb1.block w.heap.size (by simp; omega)).trans A0.out)
  have B1 := (hb1.block (w.heap.size + 1) (by simp)).trans A1.out
  have hbl1 := below_step hb0 hb1
  have hsz1 : w.heap.size + 2 ≤ w1.heap.size := by have := hb1.size; simpa using this
  have C1 := (Below.heap_alloc w1 (.cells #[.int .i64 k, .int .i64 f, .int .i64 t, .string b] 37) (w.heap.size + 1) (by omega)).trans B1
  have s1 := blk_cell C1
  have s2 := blk_frozen C1
  have n1 : w1.heap.size ≠ w.heap.size + 1 := by omega
  have n2 : w.heap.size + 1 ≠ w1.heap.size := by omega
  have n3 : w.heap.size ≠ w1.heap.size := by omega
  have hbl2 := below_alloc hbl1 (.cells #[.int .i64 k, .int .i64 f, .int .i64 t, .string b] 37)
  have C0 := Lib.hid ((Below.heap_alloc w1 (.cells #[.int .i64 k, .int .i64 f, .int .i64 t, .string b] 37) (w.heap.size) (by omega)).trans B0.out)
  have D0 : ((w1.alloc (.cells #[.int .i64 k, .int .i64 f, .int .i64 t, .string b] 37)).setCell ⟨w.heap.size + 1, 0, none⟩ (.int .i64 0)).heap[w.heap.size]? = some (.cells #[.int .i64 0, .int .i64 0, .int .i64 0, .int .u64 0, .int .i64 0, .int .i64 0, .int .u32 0, .int .u64 0, .int .i64 0, .slice none 0 0, .string ⟨#[]⟩, .int .u64 0, .int .u32 0, .slice none 0 0, .int .u64 0, .int .i64 0, .int .u32 0, .int .u64 0, .int .u64 0, .int .i64 0, .int .u64 0, .slice none 0 0] 73 (0, 0)) := (Below.heap_setCell _ ⟨w.heap.size + 1, 0, none⟩ (.int .i64 0) (w.heap.size) (by simp)).trans C0.out
  have D2 : ((w1.alloc (.cells #[.int .i64 k, .int .i64 f, .int .i64 t, .string b] 37)).setCell ⟨w.heap.size + 1, 0, none⟩ (.int .i64 0)).heap[w1.heap.size]? = some (.cells #[.int .i64 k, .int .i64 f, .int .i64 t, .string b] 37 (0, 0)) := (Below.heap_setCell _ ⟨w.heap.size + 1, 0, none⟩ (.int .i64 0) w1.heap.size (by simp; omega)).trans (heap_alloc_new w1 _)
  have m0 := cell_of_row _ _ 0 _ _ _ D2
  have m1 := cell_of_row _ _ 1 _ _ _ D2
  have m2 := cell_of_row _ _ 2 _ _ _ D2
  simp at m0 m1 m2
  have D1 := Lib.hid (blk_set C1 (.int .i64 0))
  have hbl3 := hbl2.setCell (p := ⟨w.heap.size + 1, 0, none⟩) (by simp) (.int .i64 0)
  have E2 := (setRow_other ((w1.alloc (.cells #[.int .i64 k, .int .i64 f, .int .i64 t, .string b] 37)).setCell ⟨w.heap.size + 1, 0, none⟩ (.int .i64 0)) (w.heap.size) w1.heap.size #[.int .i64 k, .int .i64 f, .int .i64 t, .int .u64 0, .int .i64 0, .int .i64 0, .int .u32 0, .int .u64 0, .int .i64 0, .slice none 0 0, .string ⟨#[]⟩, .int .u64 0, .int .u32 0, .slice none 0 0, .int .u64 0, .int .i64 0, .int .u32 0, .int .u64 0, .int .u64 0, .int .i64 0, .int .u64 0, .slice none 0 0] (by omega)).trans D2
  have E0 := Lib.hid (setRow_heap ((w1.alloc (.cells #[.int .i64 k, .int .i64 f, .int .i64 t, .string b] 37)).setCell ⟨w.heap.size + 1, 0, none⟩ (.int .i64 0)) (w.heap.size) #[.int .i64 0, .int .i64 0, .int .i64 0, .int .u64 0, .int .i64 0, .int .i64 0, .int .u32 0, .int .u64 0, .int .i64 0, .slice none 0 0, .string ⟨#[]⟩, .int .u64 0, .int .u32 0, .slice none 0 0, .int .u64 0, .int .i64 0, .int .u32 0, .int .u64 0, .int .u64 0, .int .i64 0, .int .u64 0, .slice none 0 0] #[.int .i64 k, .int .i64 f, .int .i64 t, .int .u64 0, .int .i64 0, .int .i64 0, .int .u32 0, .int .u64 0, .int .i64 0, .slice none 0 0, .string ⟨#[]⟩, .int .u64 0, .int .u32 0, .slice none 0 0, .int .u64 0, .int .i64 0, .int .u32 0, .int .u64 0, .int .u64 0, .int .i64 0, .int .u64 0, .slice none 0 0] 73 (0, 0) D0)
  have E1 := Lib.hid ((setRow_other ((w1.alloc (.cells #[.int .i64 k, .int .i64 f, .int .i64 t, .string b] 37)).setCell ⟨w.heap.size + 1, 0, none⟩ (.int .i64 0)) (w.heap.size) (w.heap.size + 1) #[.int .i64 k, .int .i64 f, .int .i64 t, .int .u64 0, .int .i64 0, .int .i64 0, .int .u32 0, .int .u64 0, .int .i64 0, .slice none 0 0, .string ⟨#[]⟩, .int .u64 0, .int .u32 0, .slice none 0 0, .int .u64 0, .int .i64 0, .int .u32 0, .int .u64 0, .int .u64 0, .int .i64 0, .int .u64 0, .slice none 0 0] (by simp)).trans D1.out)
  have hbl4 := below_setRow hbl3 (Nat.le_refl _) #[.int .i64 k, .int .i64 f, .int .i64 t, .int .u64 0, .int .i64 0, .int .i64 0, .int .u32 0, .int .u64 0, .int .i64 0, .slice none 0 0, .string ⟨#[]⟩, .int .u64 0, .int .u32 0, .slice none 0 0, .int .u64 0, .int .i64 0, .int .u32 0, .int .u64 0, .int .u64 0, .int .i64 0, .int .u64 0, .slice none 0 0]
  have hsz4 : w.heap.size + 2 ≤ (((w1.alloc (.cells #[.int .i64 k, .int .i64 f, .int .i64 t, .string b] 37)).setCell ⟨w.heap.size + 1, 0, none⟩ (.int .i64 0)).setRow (w.heap.size) #[.int .i64 k, .int .i64 f, .int .i64 t, .int .u64 0, .int .i64 0, .int .i64 0, .int .u32 0, .int .u64 0, .int .i64 0, .slice none 0 0, .string ⟨#[]⟩, .int .u64 0, .int .u32 0, .slice none 0 0, .int .u64 0, .int .i64 0, .int .u32 0, .int .u64 0, .int .u64 0, .int .i64 0, .int .u64 0, .slice none 0 0]).heap.size := by simp; omega
  have m3 : (((w1.alloc (.cells #[.int .i64 k, .int .i64 f, .int .i64 t, .string b] 37)).setCell ⟨w.heap.size + 1, 0, none⟩ (.int .i64 0)).setRow (w.heap.size) #[.int .i64 k, .int .i64 f, .int .i64 t, .int .u64 0, .int .i64 0, .int .i64 0, .int .u32 0, .int .u64 0, .int .i64 0, .slice none 0 0, .string ⟨#[]⟩, .int .u64 0, .int .u32 0, .slice none 0 0, .int .u64 0, .int .i64 0, .int .u32 0, .int .u64 0, .int .u64 0, .int .i64 0, .int .u64 0, .slice none 0 0]).cell? ⟨w1.heap.size, 3, none⟩ = some (.string b) := cell_of_row _ _ 3 _ _ _ E2
  clear hb0 hb1 A0 A1 HP B1 B0 C0 D1 D2 hbl2 hbl1 E2
  go_wp2_with (refine wpList_store_row rfl 73 (.tmp 2) (.tmp 21) rfl (w.heap.size) #[.int .i64 k, .int .i64 f, .int .i64 t, .int .u64 0, .int .i64 0, .int .i64 0, .int .u32 0, .int .u64 0, .int .i64 0, .slice none 0 0, .string ⟨#[]⟩, .int .u64 0, .int .u32 0, .slice none 0 0, .int .u64 0, .int .i64 0, .int .u32 0, .int .u64 0, .int .u64 0, .int .i64 0, .int .u64 0, .slice none 0 0] (by simp [Act.eval]) (by simp [Act.eval]) 73 #[.int .i64 0, .int .i64 0, .int .i64 0, .int .u64 0, .int .i64 0, .int .i64 0, .int .u32 0, .int .u64 0, .int .i64 0, .slice none 0 0, .string ⟨#[]⟩, .int .u64 0, .int .u32 0, .slice none 0 0, .int .u64 0, .int .i64 0, .int .u32 0, .int .u64 0, .int .u64 0, .int .i64 0, .int .u64 0, .slice none 0 0] D0 info73 rfl (by kernel_rfl) ?_)
  clear m0 m1 m2 m3 s1 s2 D0 C1 hbl3
  generalize ((w1.alloc (.cells #[.int .i64 k, .int .i64 f, .int .i64 t, .string b] 37)).setCell ⟨w.heap.size + 1, 0, none⟩ (.int .i64 0)).setRow (w.heap.size) #[.int .i64 k, .int .i64 f, .int .i64 t, .int .u64 0, .int .i64 0, .int .i64 0, .int .u32 0, .int .u64 0, .int .i64 0, .slice none 0 0, .string ⟨#[]⟩, .int .u64 0, .int .u32 0, .slice none 0 0, .int .u64 0, .int .i64 0, .int .u32 0, .int .u64 0, .int .u64 0, .int .i64 0, .int .u64 0, .slice none 0 0] = w4 at *
  refine (new_any b w4).mono ?_
  rintro e w5 ⟨rfl, hrd, hb5⟩
  have F0 := Lib.hid ((hb5.block (w.heap.size) (by omega)).trans E0.out)
  have F1 := Lib.hid ((hb5.block (w.heap.size + 1) (by omega)).trans E1.out)
  have hbl5 := below_step hbl4 hb5
  have hrl : RdL w5 w4.heap.size b b.data.toList := ⟨0, Nat.zero_le _, rfl, hrd⟩
  have hsz5 := hb5.size
  clear E0 E1 hb5 hrd hbl4
  generalize w4.heap.size = g at *
  have HF := Lib.hid (fields_any g (w.heap.size) b b.data.toList k f t w5 hrl (by omega) hkk F0.out (by omega))
  have hgE : w.heap.size + 1 ≠ g := by omega
  rw [hbb] at HF
  clear hrl
  go_wp2_with fail
  refine HF.out.mono ?_
  rintro e w6 ⟨rfl, htw, old, G0, hold⟩
  have G1 := (htw.block (w.heap.size + 1) (blk_lt F1.out) hgE (by simp)).trans F1.out
  have hbl6 := htw.below hbl5 (by omega) (by omega) (by omega)
  clear HF F0 F1 htw
  go_wp2_with fail
  refine leaves_cons (f := 68) (args := #[.pointer (some ⟨w.heap.size, 0, none⟩), .pointer (some ⟨w.heap.size + 1, 0, none⟩)]) (by simp) (by simp [go_sem]) ?_
  refine (rcatch_panicking (w.heap.size) (w.heap.size + 1) old 0 c [] w6 G0 hold (blk_cell G1) (blk_frozen G1) (by simp)).mono ?_
  rintro e u' w'' ⟨rfl, rfl, rfl⟩
  have E0 := setRow_heap w6 (w.heap.size) old zpk 73 (0, 0) G0
  have E1 := (setRow_other w6 (w.heap.size) (w.heap.size + 1) zpk (by simp)).trans G1
  have z1 := World.cell?_setCell_same (w6.setRow (w.heap.size) zpk) ⟨w.heap.size + 1, 0, none⟩ (.int .i64 c) (blk_cell E1)
  have z2 := (Below.heap_setCell (w6.setRow (w.heap.size) zpk) ⟨w.heap.size + 1, 0, none⟩ (.int .i64 c) (w.heap.size) (by simp)).trans E0
  exact ⟨_, results44 _ _ _ _ _ _ rfl rfl z2 rfl z1, rfl, (below_setRow hbl6 (Nat.le_refl _) zpk).setCell (p := ⟨w.heap.size + 1, 0, none⟩) (by simp) _⟩

set_option maxHeartbeats 3200000 in
set_option maxRecDepth 8000 in
theorem rparse_ok (s : ByteArray) (w : World) (hs : s.size ≤ 1000004) (he : (parseF s).e = 0) (p : Pk) (hbb : bodyP (parseF s).k (parseF s).f (parseF s).t (parseF s).b.data.toList = .ok p) :
    Calls Try.prog 44 #[.string s] w fun e w' => (∃ v, e = .returned (.tuple #[v, .int .i64 0]) ∧ OwnV w' w.heap.size p v) ∧ p.fits ∧ Below w.heap.size w w' := by
  have hmf : ∀ (fn : Fn) (first cap : Array Value) (w : World), (Instr.makeFunc fn first cap).run Try.prog w = .ok (.func fn first cap) w := fun _ _ _ _ => rfl
  have hb0 : Below w.heap.size w ((w.alloc (.cells #[.int .i64 0, .int .i64 0, .int .i64 0, .int .u64 0, .int .i64 0, .int .i64 0, .int .u32 0, .int .u64 0, .int .i64 0, .slice none 0 0, .string ⟨#[]⟩, .int .u64 0, .int .u32 0, .slice none 0 0, .int .u64 0, .int .i64 0, .int .u32 0, .int .u64 0, .int .u64 0, .int .i64 0, .int .u64 0, .slice none 0 0] 73)).alloc (.cells #[.int .i64 0] 38)) := below_alloc (below_alloc (Below.refl _ _) _) _
  have A0 : Hid (((w.alloc (.cells #[.int .i64 0, .int .i64 0, .int .i64 0, .int .u64 0, .int .i64 0, .int .i64 0, .int .u32 0, .int .u64 0, .int .i64 0, .slice none 0 0, .string ⟨#[]⟩, .int .u64 0, .int .u32 0, .slice none 0 0, .int .u64 0, .int .i64 0, .int .u32 0, .int .u64 0, .int .u64 0, .int .i64 0, .int .u64 0, .slice none 0 0] 73)).alloc (.cells #[.int .i64 0] 38)).heap[w.heap.size]? = some (.cells #[.int .i64 0, .int .i64 0, .int .i64 0, .int .u64 0, .int .i64 0, .int .i64 0, .int .u32 0, .int .u64 0, .int .i64 0, .slice none 0 0, .string ⟨#[]⟩, .int .u64 0, .int .u32 0, .slice none 0 0, .int .u64 0, .int .i64 0, .int .u32 0, .int .u64 0, .int .u64 0, .int .i64 0, .int .u64 0, .slice none 0 0] 73 (0, 0))) := (Below.heap_alloc _ _ _ (by simp)).trans (heap_alloc_new w _)
  have A1 : Hid (((w.alloc (.cells #[.int .i64 0, .int .i64 0, .int .i64 0, .int .u64 0, .int .i64 0, .int .i64 0, .int .u32 0, .int .u64 0, .int .i64 0, .slice none 0 0, .string ⟨#[]⟩, .int .u64 0, .int .u32 0, .slice none 0 0, .int .u64 0, .int .i64 0, .int .u32 0, .int .u64 0, .int .u64 0, .int .i64 0, .int .u64 0, .slice none 0 0] 73)).alloc (.cells #[.int .i64 0] 38)).heap[w.heap.size + 1]? = some (.cells #[.int .i64 0] 38 (0, 0))) := by
    show ((w.alloc (.cells #[.int .i64 0, .int .i64 0, .int .i64 0, .int .u64 0, .int .i64 0, .int .i64 0, .int .u32 0, .int .u64 0, .int .i64 0, .slice none 0 0, .string ⟨#[]⟩, .int .u64 0, .int .u32 0, .slice none 0 0, .int .u64 0, .int .i64 0, .int .u32 0, .int .u64 0, .int .u64 0, .int .i64 0, .int .u64 0, .slice none 0 0] 73)).alloc (.cells #[.int .i64 0] 38)).heap[w.heap.size + 1]? = _
    rw [show w.heap.size + 1 = (w.alloc (.cells #[.int .i64 0, .int .i64 0, .int .i64 0, .int .u64 0, .int .i64 0, .int .i64 0, .int .u32 0, .int .u64 0, .int .i64 0, .slice none 0 0, .string ⟨#[]⟩, .int .u64 0, .int .u32 0, .slice none 0 0, .int .u64 0, .int .i64 0, .int .u32 0, .int .u64 0, .int .u64 0, .int .i64 0, .int .u64 0, .slice none 0 0] 73)).heap.size by simp]
    exact heap_alloc_new _ _
  have HP := Lib.hid (parse_any s ((w.alloc (.cells #[.int .i64 0, .int .i64 0, .int .i64 0, .int .u64 0, .int .i64 0, .int .i64 0, .int .u32 0, .int .u64 0, .int .i64 0, .slice none 0 0, .string ⟨#[]⟩, .int .u64 0, .int .u32 0, .slice none 0 0, .int .u64 0, .int .i64 0, .int .u32 0, .int .u64 0, .int .u64 0, .int .i64 0, .int .u64 0, .slice none 0 0] 73)).alloc (.cells #[.int .i64 0] 38)) hs)
  have hkk : 1 ≤ (parseF s).k ∧ (parseF s).k ≤ 11 := parseF_kind he
  have hbs := parseF_size s
  unfold FR.vals at HP
  generalize parseF s = fr at *
  obtain ⟨k, f, t, b, c⟩ := fr
  obtain rfl : c = 0 := he
  dsimp only at hbb hkk hbs
  go_enter_defers Try.func44, Try.ntmps44
  go_wp2_with fail
  refine HP.out.mono ?_
  rintro e w1 ⟨rfl, hb1⟩
  have B0 := Lib.hid ((hb1.block w.heap.size (by simp; omega)).trans A0.out)
  have B1 := (hb1.block (w.heap.size + 1) (by simp)).trans A1.out
  have hbl1 := below_step hb0 hb1
  have hsz1 : w.heap.size + 2 ≤ w1.heap.size := by have := hb1.size; simpa using this
  have C1 := (Below.heap_alloc w1 (.cells #[.int .i64 k, .int .i64 f, .int .i64 t, .string b] 37) (w.heap.size + 1) (by omega)).trans B1
  have s1 := blk_cell C1
  have s2 := blk_frozen C1
  have n1 : w1.heap.size ≠ w.heap.size + 1 := by omega
  have n2 : w.heap.size + 1 ≠ w1.heap.size := by omega
  have n3 : w.heap.size ≠ w1.heap.size := by omega
  have hbl2 := below_alloc hbl1 (.cells #[.int .i64 k, .int .i64 f, .int .i64 t, .string b] 37)
  have C0 := Lib.hid ((Below.heap_alloc w1 (.cells #[.int .i64 k, .int .i64 f, .int .i64 t, .string b] 37) (w.heap.size) (by omega)).trans B0.out)
  have D0 : ((w1.alloc (.cells #[.int .i64 k, .int .i64 f, .int .i64 t, .string b] 37)).setCell ⟨w.heap.size + 1, 0, none⟩ (.int .i64 0)).heap[w.heap.size]? = some (.cells #[.int .i64 0, .int .i64 0, .int .i64 0, .int .u64 0, .int .i64 0, .int .i64 0, .int .u32 0, .int .u64 0, .int .i64 0, .slice none 0 0, .string ⟨#[]⟩, .int .u64 0, .int .u32 0, .slice none 0 0, .int .u64 0, .int .i64 0, .int .u32 0, .int .u64 0, .int .u64 0, .int .i64 0, .int .u64 0, .slice none 0 0] 73 (0, 0)) := (Below.heap_setCell _ ⟨w.heap.size + 1, 0, none⟩ (.int .i64 0) (w.heap.size) (by simp)).trans C0.out
  have D2 : ((w1.alloc (.cells #[.int .i64 k, .int .i64 f, .int .i64 t, .string b] 37)).setCell ⟨w.heap.size + 1, 0, none⟩ (.int .i64 0)).heap[w1.heap.size]? = some (.cells #[.int .i64 k, .int .i64 f, .int .i64 t, .string b] 37 (0, 0)) := (Below.heap_setCell _ ⟨w.heap.size + 1, 0, none⟩ (.int .i64 0) w1.heap.size (by simp; omega)).trans (heap_alloc_new w1 _)
  have m0 := cell_of_row _ _ 0 _ _ _ D2
  have m1 := cell_of_row _ _ 1 _ _ _ D2
  have m2 := cell_of_row _ _ 2 _ _ _ D2
  simp at m0 m1 m2
  have D1 := Lib.hid (blk_set C1 (.int .i64 0))
  have hbl3 := hbl2.setCell (p := ⟨w.heap.size + 1, 0, none⟩) (by simp) (.int .i64 0)
  have E2 := (setRow_other ((w1.alloc (.cells #[.int .i64 k, .int .i64 f, .int .i64 t, .string b] 37)).setCell ⟨w.heap.size + 1, 0, none⟩ (.int .i64 0)) (w.heap.size) w1.heap.size #[.int .i64 k, .int .i64 f, .int .i64 t, .int .u64 0, .int .i64 0, .int .i64 0, .int .u32 0, .int .u64 0, .int .i64 0, .slice none 0 0, .string ⟨#[]⟩, .int .u64 0, .int .u32 0, .slice none 0 0, .int .u64 0, .int .i64 0, .int .u32 0, .int .u64 0, .int .u64 0, .int .i64 0, .int .u64 0, .slice none 0 0] (by omega)).trans D2
  have E0 := Lib.hid (setRow_heap ((w1.alloc (.cells #[.int .i64 k, .int .i64 f, .int .i64 t, .string b] 37)).setCell ⟨w.heap.size + 1, 0, none⟩ (.int .i64 0)) (w.heap.size) #[.int .i64 0, .int .i64 0, .int .i64 0, .int .u64 0, .int .i64 0, .int .i64 0, .int .u32 0, .int .u64 0, .int .i64 0, .slice none 0 0, .string ⟨#[]⟩, .int .u64 0, .int .u32 0, .slice none 0 0, .int .u64 0, .int .i64 0, .int .u32 0, .int .u64 0, .int .u64 0, .int .i64 0, .int .u64 0, .slice none 0 0] #[.int .i64 k, .int .i64 f, .int .i64 t, .int .u64 0, .int .i64 0, .int .i64 0, .int .u32 0, .int .u64 0, .int .i64 0, .slice none 0 0, .string ⟨#[]⟩, .int .u64 0, .int .u32 0, .slice none 0 0, .int .u64 0, .int .i64 0, .int .u32 0, .int .u64 0, .int .u64 0, .int .i64 0, .int .u64 0, .slice none 0 0] 73 (0, 0) D0)
  have E1 := Lib.hid ((setRow_other ((w1.alloc (.cells #[.int .i64 k, .int .i64 f, .int .i64 t, .string b] 37)).setCell ⟨w.heap.size + 1, 0, none⟩ (.int .i64 0)) (w.heap.size) (w.heap.size + 1) #[.int .i64 k, .int .i64 f, .int .i64 t, .int .u64 0, .int .i64 0, .int .i64 0, .int .u32 0, .int .u64 0, .int .i64 0, .slice none 0 0, .string ⟨#[]⟩, .int .u64 0, .int .u32 0, .slice none 0 0, .int .u64 0, .int .i64 0, .int .u32 0, .int .u64 0, .int .u64 0, .int .i64 0, .int .u64 0, .slice none 0 0] (by simp)).trans D1.out)
  have hbl4 := below_setRow hbl3 (Nat.le_refl _) #[.int .i64 k, .int .i64 f, .int .i64 t, .int .u64 0, .int .i64 0, .int .i64 0, .int .u32 0, .int .u64 0, .int .i64 0, .slice none 0 0, .string ⟨#[]⟩, .int .u64 0, .int .u32 0, .slice none 0 0, .int .u64 0, .int .i64 0, .int .u32 0, .int .u64 0, .int .u64 0, .int .i64 0, .int .u64 0, .slice none 0 0]
  have hsz4 : w.heap.size + 2 ≤ (((w1.alloc (.cells #[.int .i64 k, .int .i64 f, .int .i64 t, .string b] 37)).setCell ⟨w.heap.size + 1, 0, none⟩ (.int .i64 0)).setRow (w.heap.size) #[.int .i64 k, .int .i64 f, .int .i64 t, .int .u64 0, .int .i64 0, .int .i64 0, .int .u32 0, .int .u64 0, .int .i64 0, .slice none 0 0, .string ⟨#[]⟩, .int .u64 0, .int .u32 0, .slice none 0 0, .int .u64 0, .int .i64 0, .int .u32 0, .int .u64 0, .int .u64 0, .int .i64 0, .int .u64 0, .slice none 0 0]).heap.size := by simp; omega
  have m3 : (((w1.alloc (.cells #[.int .i64 k, .int .i64 f, .int .i64 t, .string b] 37)).setCell ⟨w.heap.size + 1, 0, none⟩ (.int .i64 0)).setRow (w.heap.size) #[.int .i64 k, .int .i64 f, .int .i64 t, .int .u64 0, .int .i64 0, .int .i64 0, .int .u32 0, .int .u64 0, .int .i64 0, .slice none 0 0, .string ⟨#[]⟩, .int .u64 0, .int .u32 0, .slice none 0 0, .int .u64 0, .int .i64 0, .int .u32 0, .int .u64 0, .int .u64 0, .int .i64 0, .int .u64 0, .slice none 0 0]).cell? ⟨w1.heap.size, 3, none⟩ = some (.string b) := cell_of_row _ _ 3 _ _ _ E2
  clear hb0 hb1 A0 A1 HP B1 B0 C0 D1 D2 hbl2 hbl1 E2
  go_wp2_with (refine wpList_store_row rfl 73 (.tmp 2) (.tmp 21) rfl (w.heap.size) #[.int .i64 k, .int .i64 f, .int .i64 t, .int .u64 0, .int .i64 0, .int .i64 0, .int .u32 0, .int .u64 0, .int .i64 0, .slice none 0 0, .string ⟨#[]⟩, .int .u64 0, .int .u32 0, .slice none 0 0, .int .u64 0, .int .i64 0, .int .u32 0, .int .u64 0, .int .u64 0, .int .i64 0, .int .u64 0, .slice none 0 0] (by simp [Act.eval]) (by simp [Act.eval]) 73 #[.int .i64 0, .int .i64 0, .int .i64 0, .int .u64 0, .int .i64 0, .int .i64 0, .int .u32 0, .int .u64 0, .int .i64 0, .slice none 0 0, .string ⟨#[]⟩, .int .u64 0, .int .u32 0, .slice none 0 0, .int .u64 0, .int .i64 0, .int .u32 0, .int .u64 0, .int .u64 0, .int .i64 0, .int .u64 0, .slice none 0 0] D0 info73 rfl (by kernel_rfl) ?_)
  clear m0 m1 m2 m3 s1 s2 D0 C1 hbl3
  generalize ((w1.alloc (.cells #[.int .i64 k, .int .i64 f, .int .i64 t, .string b] 37)).setCell ⟨w.heap.size + 1, 0, none⟩ (.int .i64 0)).setRow (w.heap.size) #[.int .i64 k, .int .i64 f, .int .i64 t, .int .u64 0, .int .i64 0, .int .i64 0, .int .u32 0, .int .u64 0, .int .i64 0, .slice none 0 0, .string ⟨#[]⟩, .int .u64 0, .int .u32 0, .slice none 0 0, .int .u64 0, .int .i64 0, .int .u32 0, .int .u64 0, .int .u64 0, .int .i64 0, .int .u64 0, .slice none 0 0] = w4 at *
  refine (new_any b w4).mono ?_
  rintro e w5 ⟨rfl, hrd, hb5⟩
  have F0 := Lib.hid ((hb5.block (w.heap.size) (by omega)).trans E0.out)
  have F1 := Lib.hid ((hb5.block (w.heap.size + 1) (by omega)).trans E1.out)
  have hbl5 := below_step hbl4 hb5
  have hrl : RdL w5 w4.heap.size b b.data.toList := ⟨0, Nat.zero_le _, rfl, hrd⟩
  have hsz5 := hb5.size
  clear E0 E1 hb5 hrd hbl4
  generalize w4.heap.size = g at *
  have HF := Lib.hid (fields_any g (w.heap.size) b b.data.toList k f t w5 hrl (by omega) hkk F0.out (by omega))
  have hgE : w.heap.size + 1 ≠ g := by omega
  rw [hbb] at HF
  clear hrl
  go_wp2_with fail
  refine HF.out.mono ?_
  rintro e w6 ⟨rfl, ⟨Am, cm, Ag, cg, Ax, cx, G0, hm, hgg, hx⟩, hpf, htw⟩
  have G1 := (htw.block (w.heap.size + 1) (blk_lt F1.out) hgE (by simp)).trans F1.out
  have hbl6 := htw.below hbl5 (by omega) (by omega) (by omega)
  have hsz6 := htw.size
  have h5 : w.heap.size + 2 ≤ w5.heap.size := by omega
  have HM := Lib.hid (own_low_any hm (B' := w.heap.size + 2) h5)
  have HG := Lib.hid (own_low_any hgg (B' := w.heap.size + 2) h5)
  have HX := Lib.hid (hx.low (B' := w.heap.size + 2) h5)
  clear HF F0 F1 htw hm hgg hx
  have HPK := Lib.hid G0
  generalize hpc : pkC p Am cm Ag cg Ax cx = C at *
  have hcs : C.size = 22 := by subst hpc; kernel_rfl
  have hone : C.all (·.oneCell') = true := by subst hpc; kernel_rfl
  have i1 : (Try.prog.info? 73).map (·.size) = some C.size := by rw [hcs]; exact info73
  have hself := setRow_self w6 (w.heap.size) C 73 (0, 0) G0
  have s1 := blk_cell G1
  have s2 := blk_frozen G1
  go_wp2_with (first | refine wpList_load_row rfl 73 (.tmp 2) rfl (w.heap.size) (by simp [Act.eval]) 73 C (0, 0) _ G0 Try.underlying73 rfl i1 ?_ | (refine wpList_store_row rfl 73 (.tmp 2) (.tmp 27) rfl (w.heap.size) C (by simp [Act.eval, Act.put]) (by simp [Act.eval, Act.put]) 73 C G0 i1 rfl hone ?_; rw [hself]))
  refine leaves_cons (f := 68) (args := #[.pointer (some ⟨w.heap.size, 0, none⟩), .pointer (some ⟨w.heap.size + 1, 0, none⟩)]) (by simp) (by simp [go_sem]) ?_
  refine (rcatch_idle _ _ _).mono ?_
  rintro e u' w'' ⟨rfl, rfl, rfl⟩
  have z1 := World.cell?_setCell_same w6 ⟨w.heap.size + 1, 0, none⟩ (.int .i64 0) s1
  have z2 := (Below.heap_setCell w6 ⟨w.heap.size + 1, 0, none⟩ (.int .i64 0) (w.heap.size) (by simp)).trans G0
  refine ⟨_, results44 _ _ _ _ _ _ rfl rfl z2 hcs z1, ⟨_, rfl, ?_⟩, hpf, hbl6.setCell (p := ⟨w.heap.size + 1, 0, none⟩) (by simp) _⟩
  subst hpc
  exact ⟨Am, cm, Ag, cg, Ax, cx, rfl, own_low_any (own_keep_set HM.out (by omega) 0 _) (by omega), own_low_any (own_keep_set HG.out (by omega) 0 _) (by omega), (HX.out.keep_set (by omega) 0 _).low (by omega)⟩
theorem rparse_whole (s : ByteArray) (w : World) (hs : s.size ≤ 1000004) :
    Calls Try.prog 44 #[.string s] w fun e w' => (∃ v, e = .returned (.tuple #[v, .int .i64 (parseP s).2]) ∧ OwnV w' w.heap.size (parseP s).1 v) ∧ (parseP s).1.fits ∧ Below w.heap.size w w' := by
  unfold parseP
  by_cases he : (parseF s).e = 0
  · rw [if_neg (by simpa using he)]
    cases hb : bodyP (parseF s).k (parseF s).f (parseF s).t (parseF s).b.data.toList with
    | error c =>
      refine (rparse_err s w hs he c hb).mono ?_
      rintro e w' ⟨rfl, h⟩
      exact ⟨⟨_, rfl, OwnV.zero _ _⟩, Pk.zero_fits, h⟩
    | ok p => exact rparse_ok s w hs he p hb
  · rw [if_pos he]
    refine (rparse_no s w hs he).mono ?_
    rintro e w' ⟨rfl, h⟩
    exact ⟨⟨_, rfl, OwnV.zero _ _⟩, Pk.zero_fits, h⟩
end Go.Proofs.Ythkfgjdbgnbjkaa
