/- The walks of the reference's taker: process, conf (values free behind an error). -/
import Derived.Test.YthkfgjdbgnbjkaaPkTk
namespace Go.Proofs.Ythkfgjdbgnbjkaa
open Go.RowKit Go.Sort
set_option linter.unusedSimpArgs false
set_option linter.unusedVariables false

/-- P from a state whose error sticks. -/
def via {α : Type} (P : List UInt8 → In α) : St → In α
  | .ok l => P l
  | .error c => .error c
/-- a value that is left at a state. -/
def ret {α : Type} (v : α) : St → In α := via (fun l => .ok (v, l))
theorem via_and {α β : Type} {P : List UInt8 → In α} {Q : α → List UInt8 → In β} {st st' : St} {v : α} (h : via P st = ret v st') : via (fun l => andP (P l) Q) st = via (Q v) st' := by
  cases st with
  | ok l =>
    show andP (P l) Q = _
    rw [show P l = ret v st' from h]
    cases st' <;> rfl
  | error c => cases st' with
    | ok l => cases h
    | error d => cases h; rfl
theorem via_bad {β : Type} {Q : List UInt8 → In β} {c : Int} {b : Bool} (st : St) : via (fun l => if b then .error c else Q l) st = via Q (badT c b st) := by
  cases st with
  | ok l => cases b <;> rfl
  | error d => rfl
theorem via_num (n : Nat) (st : St) : via (numP n) st = ret (numV n st) (numS n st) := by
  cases st with
  | error c => rfl
  | ok l =>
    show numP n l = _
    simp only [numV, numS]
    cases numP n l with
    | error c => rfl
    | ok x => rfl
theorem ret_ok {α : Type} {v a : α} {st : St} {l : List UInt8} (h : ret v st = .ok (a, l)) : a = v ∧ st = .ok l := by
  cases st with
  | ok k => cases h; exact ⟨rfl, rfl⟩
  | error c => cases h
theorem ret_err {α : Type} {v : α} {st : St} {c : Int} (h : ret v st = .error c) : st = .error c := by
  cases st with
  | ok k => cases h
  | error c => cases h; rfl

theorem tnum (g : Nat) (s : ByteArray) (m n : Nat) (st : St) (w : World) (h : Tk w g s m st) (hs : s.size ≤ 1000000) (hm : m ≤ 2000000) (h1 : 1 ≤ n) (h8 : n ≤ 8) :
    Calls Try.prog 94 #[.pointer (some ⟨g, 0, none⟩), .int .i64 (n : Int)] w fun e w' => ∃ (v : Nat) (st' : St), e = .returned (.int .u64 (v : Int)) ∧ v < 256 ^ n ∧ via (numP n) st = ret v st' ∧ Tk w' g s (m + 8) st' ∧ Only g w w' := by
  refine (tnum_any g s m n st w h hs hm h1 h8).mono ?_
  rintro e w' ⟨rfl, hT, ho⟩
  exact ⟨_, _, rfl, numV_lt n st, via_num n st, hT, ho⟩

set_option maxHeartbeats 1600000 in
theorem tproc (g : Nat) (s : ByteArray) (m : Nat) (st : St) (w : World) (h : Tk w g s m st) (hs : s.size ≤ 1000000) (hm : m ≤ 2000000) :
    Calls Try.prog 96 #[.pointer (some ⟨g, 0, none⟩)] w fun e w' => ∃ (p : Nat) (st' : St), e = .returned (.int .i64 (p : Int)) ∧ p < 256 ∧ via procP st = ret (p : Int) st' ∧ Tk w' g s (m + 8) st' ∧ Only g w w' := by
  have HN := Lib.hid (tnum g s m 1 st w h hs hm (by omega) (by omega))
  clear h
  go_enter Try.func96, Try.ntmps96
  go_wp2_with fail
  refine HN.out.mono ?_
  rintro e w1 ⟨v, st1, rfl, hv, hvia, hT, ho⟩
  have HV := Lib.hid hvia
  have HO := Lib.hid ho
  have ew : IntKind.i64.wrap (v : Int) = (v : Int) := IntWalk.i64_in _ (by omega)
  have HB := Lib.hid (tbad_any g s (m + 8) st1 1 (decide (63 < (v : Int))) w1 hT (by decide))
  clear hvia HN ho hT
  go_wp2_with fail
  refine HB.out.mono ?_
  rintro e w2 ⟨rfl, hT2, ho2⟩
  have HT := Lib.hid hT2
  have HO2 := Lib.hid (HO.out.trans ho2)
  clear HB hT2 ho2 HO
  go_wp2_with fail
  go_ret
  refine ⟨v, _, rfl, by omega, ?_, HT.out, HO2.out⟩
  rw [show procP = (fun l => andP (numP 1 l) fun v r => if 64 ≤ v then .error 1 else .ok ((v : Int), r)) from rfl, via_and HV.out]
  rw [show (fun r => if 64 ≤ v then (.error 1 : In Int) else .ok ((v : Int), r)) = (fun r => if decide (63 < (v : Int)) then (.error 1 : In Int) else .ok ((v : Int), r)) from funext fun r => by
    by_cases hh : 64 ≤ v
    · have h2 : decide (63 < (v : Int)) = true := by simp; omega
      rw [if_pos hh, h2]
      rfl
    · have h2 : decide (63 < (v : Int)) = false := by simp; omega
      rw [if_neg hh, h2]
      rfl]
  exact via_bad st1

set_option maxHeartbeats 1600000 in
theorem tconf (g : Nat) (s : ByteArray) (m : Nat) (st : St) (w : World) (h : Tk w g s m st) (hs : s.size ≤ 1000000) (hm : m ≤ 1900000) :
    Calls Try.prog 92 #[.pointer (some ⟨g, 0, none⟩)] w fun e w' => ∃ (c : Cf) (st' : St), e = .returned (.agg #[.int .u64 c.e, .int .i64 c.r]) ∧ via confP st = ret c st' ∧ Tk w' g s (m + 16) st' ∧ Only g w w' := by
  have n1 : w.heap.size ≠ g := by have := h.lt; omega
  have n1' : some w.heap.size ≠ some g := by simpa using n1
  have hb0 : Below w.heap.size w (w.alloc (.cells #[.int .u64 0, .int .i64 0] 67)) := below_alloc (Below.refl _ _) _
  have ho0 := Lib.hid (Only.of_below (g := g) hb0)
  have HA := heap_alloc_new w (.cells #[.int .u64 0, .int .i64 0] 67)
  have HN := Lib.hid (tnum g s m 8 st _ (h.kept hb0) hs (by omega) (by omega) (by omega))
  clear h hb0
  go_enter Try.func92, Try.ntmps92
  go_wp2_with fail
  refine HN.out.mono ?_
  rintro e w1 ⟨v, st1, rfl, hv, hvia, hT, ho⟩
  have HV := Lib.hid hvia
  have HA1 := (ho.block w.heap.size (by simp) n1').trans HA
  have HO := Lib.hid (ho0.out.trans ho)
  have HP := Lib.hid (tproc g s (m + 8) st1 w1 hT hs (by omega))
  clear hvia HN ho hT HA ho0
  go_wp2_with fail
  refine HP.out.mono ?_
  rintro e w2 ⟨p, st2, rfl, hp, hvia2, hT2, ho2⟩
  have HA2 := (ho2.block w.heap.size (blk_lt HA1) n1').trans HA1
  have HV2 := Lib.hid hvia2
  have t0 := cell_of_row _ _ 0 _ _ _ HA2
  have t1 := cell_of_row _ _ 1 _ _ _ HA2
  simp at t0 t1
  have f0 : w2.frozen? ⟨w.heap.size, 0, none⟩ = false := by simp [World.frozen?, HA2]
  have f1 : w2.frozen? ⟨w.heap.size, 1, none⟩ = false := by simp [World.frozen?, HA2]
  have HT := Lib.hid ((hT2.set (K := w.heap.size) n1 0 (.int .u64 (v : Int))).set (K := w.heap.size) n1 1 (.int .i64 (p : Int)))
  have HO2 := Lib.hid (((HO.out.trans ho2).fresh (Nat.le_refl _) 0 (.int .u64 (v : Int))).fresh (Nat.le_refl _) 1 (.int .i64 (p : Int)))
  have z0 := World.cell?_setCell_same _ _ (.int .u64 (v : Int)) t0
  have z1 : (w2.setCell ⟨w.heap.size, 0, none⟩ (.int .u64 (v : Int))).cell? ⟨w.heap.size, 1, none⟩ = some (.int .i64 0) := (World.cell?_setCell_other _ _ _ _ (by simp)).trans t1
  have z2 := World.cell?_setCell_same _ _ (.int .i64 (p : Int)) z1
  have z3 : ((w2.setCell ⟨w.heap.size, 0, none⟩ (.int .u64 (v : Int))).setCell ⟨w.heap.size, 1, none⟩ (.int .i64 (p : Int))).cell? ⟨w.heap.size, 0, none⟩ = some (.int .u64 (v : Int)) := (World.cell?_setCell_other _ _ _ _ (by simp)).trans z0
  clear HA1 HA2 hT2 ho2 hvia2 HO HP
  go_wp2_with fail
  refine bodyPost_ret (v := .agg #[.int .u64 (v : Int), .int .i64 (p : Int)]) (by simp [results, Try.results92, go_sem, z0, z1, z2, z3]) rfl ⟨⟨v, (p : Int)⟩, st2, rfl, ?_, HT.out, HO2.out⟩
  rw [show confP = (fun l => andP (numP 8 l) fun e r => andP (procP r) fun p r => .ok (⟨e, p⟩, r)) from rfl, via_and HV.out]
  exact via_and (P := procP) (Q := fun p r => (.ok ((⟨v, p⟩ : Cf), r) : In Cf)) HV2.out
end Go.Proofs.Ythkfgjdbgnbjkaa
