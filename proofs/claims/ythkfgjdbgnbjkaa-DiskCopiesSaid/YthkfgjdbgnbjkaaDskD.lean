/- The walks of consortref08: whole, newest. -/
import Derived.Test.YthkfgjdbgnbjkaaDskB
import Derived.BigRegion
namespace Go.Proofs.Ythkfgjdbgnbjkaa
open Go.RowKit
set_option linter.unusedSimpArgs false
set_option linter.unusedVariables false

/-- the reference's whole: number and record. -/
def vN (s : ByteArray) : Nat := if wOk s then wN s else 0
def vR (s : ByteArray) : ByteArray := if wOk s then wR s else ⟨#[]⟩

set_option maxHeartbeats 400000 in
theorem rwhole_short (s : ByteArray) (w : World) (hm : s.size ≤ 1000004) (ho : wOpen s = false) :
    Calls Try.prog 85 #[.string s] w fun e w' => e = .returned (.tuple #[.int .u64 (vN s : Int), .string (vR s), .bool (wOk s)]) ∧ Below w.heap.size w w' := by
  have h3 : wOk s = false := by unfold wOk; rw [ho]; rfl
  have h1 : vN s = 0 := by unfold vN; rw [h3]; rfl
  have h2 : vR s = ⟨#[]⟩ := by unfold vR; rw [h3]; rfl
  rw [h1, h2, h3]
  clear h1 h2 h3
  cases hok : openOk s with
  | false =>
    go_enter Try.func85, Try.ntmps85
    go_wp2_with fail
    refine (ropen_any _ _ hm).mono ?_
    rw [hok]
    rintro e w1 ⟨rfl, hb1⟩
    go_wp2_with fail
    go_ret3
    exact ⟨rfl, hb1⟩
  | true =>
    have hsz : (openB s).size < 10 := by
      unfold wOpen at ho
      rw [hok] at ho
      simpa using ho
    have hd : decide (((openB s).size : Int) < 10) = true := by simp; omega
    clear ho
    go_enter Try.func85, Try.ntmps85
    go_wp2_with fail
    refine (ropen_any _ _ hm).mono ?_
    rw [hok]
    rintro e w1 ⟨rfl, hb1⟩
    go_wp2_with fail
    go_ret3
    exact ⟨rfl, hb1⟩

set_option maxHeartbeats 800000 in
theorem rwhole_open (b : Bool) (s : ByteArray) (w : World) (hm : s.size ≤ 1000004) (ho : wOpen s = true) (hb : decide ((openB s).size = 10 + wLen s) = b) :
    Calls Try.prog 85 #[.string s] w fun e w' => e = .returned (.tuple #[.int .u64 (vN s : Int), .string (vR s), .bool (wOk s)]) ∧ Below w.heap.size w w' := by
  have h3 : wOk s = b := by unfold wOk; rw [ho, hb]; rfl
  have h1 : vN s = if b then NumM.val (((openB s).data.toList.drop 0).take 8) else 0 := by unfold vN wN; rw [h3, ho]; rfl
  have h2 : vR s = if b then (openB s).extract 10 (openB s).size else ⟨#[]⟩ := by unfold vR wR; rw [h3, ho]; rfl
  have h4 : wLen s = NumM.val (((openB s).data.toList.drop 8).take 2) := rfl
  have ho' := ho
  unfold wOpen at ho'
  rw [Bool.and_eq_true, decide_eq_true_iff] at ho'
  obtain ⟨hok, h10⟩ := ho'
  have hts := openB_size s hok
  rw [h1, h2, h3]
  rw [h4] at hb
  clear h1 h2 h3 h4 ho
  have hn : NumM.val (((openB s).data.toList.drop 8).take 2) < 65536 := NumM.val_take_lt _ 2 (by rw [List.length_take]; omega)
  have hnum1 := fun W => get_ok (openB s) 0 8 W (by omega) (by omega) (by omega) (by omega)
  have hnum2 := fun W => get_ok (openB s) 8 2 W (by omega) (by omega) (by omega) (by omega)
  have hd : decide (((openB s).size : Int) < 10) = false := by simp; omega
  have hop := fun W => ropen_any s W hm
  rw [hok] at hop
  clear hok
  generalize hT : openB s = t at *
  clear hT
  generalize NumM.val ((t.data.toList.drop 0).take 8) = a at *
  generalize NumM.val ((t.data.toList.drop 8).take 2) = n at *
  have H1 := Lib.hid hnum1
  have H2 := Lib.hid hnum2
  have HO := Lib.hid hop
  have ew : IntKind.u64.wrap ((n : Int) + 10) = (n : Int) + 10 := by rw [IntKind.wrap_u64]; omega
  have ew2 : IntKind.u64.wrap (t.size : Int) = (t.size : Int) := by rw [IntKind.wrap_u64]; omega
  have hfin : ((t.size : Int) == (n : Int) + 10) = b := by
    rw [← hb, Bool.eq_iff_iff]; simp; omega
  clear hnum1 hnum2 hb hop
  cases b with
  | false =>
    go_enter Try.func85, Try.ntmps85
    go_wp2_with fail
    refine (HO.out _).mono ?_
    rintro e w1 ⟨rfl, hb1⟩
    go_wp2_with fail
    refine (H1.out _).mono ?_
    rintro e w2 ⟨rfl, rfl⟩
    go_wp2_with fail
    refine (H2.out _).mono ?_
    rintro e w2 ⟨rfl, rfl⟩
    go_wp2_with fail
    go_ret3
    exact ⟨rfl, hb1⟩
  | true =>
    go_enter Try.func85, Try.ntmps85
    go_wp2_with fail
    refine (HO.out _).mono ?_
    rintro e w1 ⟨rfl, hb1⟩
    go_wp2_with fail
    refine (H1.out _).mono ?_
    rintro e w2 ⟨rfl, rfl⟩
    go_wp2_with fail
    refine (H2.out _).mono ?_
    rintro e w2 ⟨rfl, rfl⟩
    go_wp2_with fail
    have hle : 10 ≤ t.size := h10
    go_region
    go_wp2_with fail
    go_ret3
    exact ⟨rfl, below_drew hb1⟩

theorem rwhole_any (s : ByteArray) (w : World) (hm : s.size ≤ 1000004) :
    Calls Try.prog 85 #[.string s] w fun e w' => e = .returned (.tuple #[.int .u64 (vN s : Int), .string (vR s), .bool (wOk s)]) ∧ Below w.heap.size w w' := by
  cases ho : wOpen s with
  | false => exact rwhole_short s w hm ho
  | true => exact rwhole_open _ s w hm ho rfl
end Go.Proofs.Ythkfgjdbgnbjkaa
