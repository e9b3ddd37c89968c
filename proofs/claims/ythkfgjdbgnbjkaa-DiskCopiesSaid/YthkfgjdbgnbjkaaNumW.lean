/- The walks of package num: sizes, value, readers. -/
import Derived.Test.YthkfgjdbgnbjkaaNumM
import Derived.Test.YthkfgjdbgnbjkaaCrcV
import Derived.Lib.QuietBelow
namespace Go.Proofs.Ythkfgjdbgnbjkaa
open Go.RowKit
set_option linter.unusedSimpArgs false
set_option linter.unusedVariables false

set_option maxHeartbeats 400000 in
theorem size_any (n : Int) (w : World) (h0 : 0 ≤ n) (h8 : n ≤ 8) :
    Calls Try.prog 80 #[.int .i64 n] w fun e w' => e = .returned (.int .i64 n) ∧ w = w' := by
  go_enter Try.func80, Try.ntmps80
  go_wp2
  · go_ret
    exact ⟨rfl, rfl⟩
  · obtain rfl : n = 0 := by omega
    go_ret
    exact ⟨rfl, rfl⟩

set_option maxHeartbeats 400000 in
theorem rsize_any (n : Int) (w : World) (h0 : 0 ≤ n) (h8 : n ≤ 8) :
    Calls Try.prog 81 #[.int .i64 n] w fun e w' => e = .returned (.int .i64 n) ∧ w = w' := by
  have hd1 : decide (n < 0) = false := by simp; omega
  have hd2 : decide (8 < n) = false := by simp; omega
  go_enter Try.func81, Try.ntmps81
  go_wp2
  go_ret
  exact ⟨rfl, rfl⟩

theorem or_u64 (y : Nat) (x : UInt8) (h : y < 72057594037927936) : bits .or .u64 ((y : Int) * 256) (x.toNat : Int) = ((y * 256 + x.toNat : Nat) : Int) := by
  have hx := x.toNat_lt
  have h1 := u64_or_nat (y * 256) x.toNat (by omega) (by omega)
  rw [NumM.or_byte y x.toNat hx] at h1
  rw [← h1]
  congr 1

set_option maxHeartbeats 400000 in
theorem value_any (s : ByteArray) (w : World) (hs : s.size ≤ 8) :
    Calls Try.prog 82 #[.string s] w fun e w' => e = .returned (.int .u64 (NumM.val s.data.toList : Int)) ∧ Below w.heap.size w w' := by
  have hcv := fun W => Lib.run_convert_string_bytes (P := Try.prog) W 9 30 5 s Try.underlying9 Try.underlying30 Try.underlying5
  go_enter Try.func82, Try.ntmps82
  go_wp2
  have hbl := below_bytes w s
  have hB := bytesAt_new w s
  generalize Lib.bytesWorld w 5 s = W0 at *
  generalize hKK : w.heap.size = K at *
  have HK := Lib.hid hKK
  clear hKK
  generalize grownCap w s.size 0 5 = C
  have hlen := size_data s
  generalize hll : s.data.toList = l at *
  have HLL := Lib.hid hll
  clear hll
  generalize s.size = n at *
  clear hcv
  have HB := Lib.hid hB
  have HL := Lib.hid hlen
  clear hB hlen
  go_loop [3, 9] (fun x i => ∃ k : Nat, k ≤ n ∧ i = .int .i64 k ∧ x = .int .u64 (NumM.val (l.take k) : Int)) (fun _ i => n - (intOf i).toNat)
  case atStart => exact ⟨0, by omega, rfl, rfl⟩
  case round =>
    obtain ⟨k, hk, rfl, rfl⟩ := hrel
    by_cases hlt : k < n
    · obtain ⟨hc, hf⟩ := HB.out.2 k (by rw [HL.out]; exact hlt)
      have hsn : NumM.val (l.take (k + 1)) = NumM.val (l.take k) * 256 + (l.getD k 0).toNat := by
        have hkl : k < l.length := by rw [HL.out]; exact hlt
        rw [List.take_succ_eq_append_getElem hkl, NumM.val_snoc]
        simp [List.getD, List.getElem?_eq_getElem hkl]
      have hv := NumM.val_take_lt (l.take k) 7 (by rw [List.length_take, HL.out]; omega)
      have hv' : NumM.val (l.take k) < 72057594037927936 := hv
      generalize hx : l.getD k 0 = x at *
      generalize hy : NumM.val (l.take k) = y at *
      have hor := or_u64 y x hv'
      have HOR := Lib.hid hor
      have HSN := Lib.hid hsn
      have hxl := x.toNat_lt
      clear hx hy hv hsn hor hf
      go_wp2
      go_round
      case rel => exact ⟨k + 1, by omega, by go_num, by rw [HSN.out, HOR.out]⟩
      case measure => simp [intOf]; omega
    · obtain rfl : k = n := by omega
      have HE := Lib.hid (show l.take k = l from List.take_of_length_le (by rw [HL.out]; omega))
      go_wp2
      go_ret
      exact ⟨by rw [HLL.out, HE.out]; rfl, by rw [HK.out]; exact hbl⟩
/-- a reader: its bytes, and its place. -/
def RdAt (w : World) (g : Nat) (s : ByteArray) (p : Nat) : Prop :=
  w.cell? ⟨g, 0, none⟩ = some (.string s) ∧ w.cell? ⟨g, 1, none⟩ = some (.int .i64 (p : Int)) ∧ w.frozen? ⟨g, 1, none⟩ = false
theorem RdAt.kept {w w' : World} {g : Nat} {s : ByteArray} {p : Nat} (h : RdAt w g s p) (hb : Below w.heap.size w w') : RdAt w' g s p := by
  have hl := World.block_lt_of_cell? w _ h.1
  exact ⟨(hb.cell (p := ⟨g, 0, none⟩) hl).trans h.1, (hb.cell (p := ⟨g, 1, none⟩) hl).trans h.2.1, (hb.frozen (p := ⟨g, 1, none⟩) hl).trans h.2.2⟩
theorem RdAt.drewN {w : World} {g : Nat} {s : ByteArray} {p : Nat} (h : RdAt w g s p) (n : Nat) : RdAt (w.drewN n) g s p := h
theorem RdAt.set {w : World} {g : Nat} {s : ByteArray} {p : Nat} (h : RdAt w g s p) (q : Nat) : RdAt (w.setCell ⟨g, 1, none⟩ (.int .i64 (q : Int))) g s q :=
  ⟨(World.cell?_setCell_other w ⟨g, 1, none⟩ ⟨g, 0, none⟩ _ (by simp)).trans h.1, World.cell?_setCell_same _ _ _ h.2.1, by rw [World.frozen?_setCell]; exact h.2.2⟩

/-- only block g may have turned, and blocks may have been laid. -/
def Only (g : Nat) (w w' : World) : Prop := w.grownBy w' (some g)
theorem Only.refl (g : Nat) (w : World) : Only g w w := ⟨rfl, rfl, rfl, Nat.le_refl _, fun _ _ _ => rfl⟩
theorem Only.trans {g : Nat} {a b c : World} (h : Only g a b) (k : Only g b c) : Only g a c :=
  ⟨k.os.trans h.os, k.tape.trans h.tape, k.output.trans h.output, Nat.le_trans h.size k.size, fun i hi hne => (k.block i (Nat.lt_of_lt_of_le hi h.size) hne).trans (h.block i hi hne)⟩
theorem Only.of_below {g : Nat} {a b : World} (h : Below a.heap.size a b) : Only g a b := ⟨h.os, h.tape, h.output, h.size, fun i hi _ => h.block i hi⟩
theorem Only.drewN {g : Nat} {a b : World} (h : Only g a b) (n : Nat) : Only g a (b.drewN n) := ⟨h.os, h.tape, h.output, h.size, h.block⟩
theorem Only.drew {g : Nat} {a b : World} (h : Only g a b) : Only g a b.drew := ⟨h.os, h.tape, h.output, h.size, h.block⟩
theorem Only.set {g : Nat} {a b : World} (h : Only g a b) (j : Nat) (u : Value) : Only g a (b.setCell ⟨g, j, none⟩ u) :=
  ⟨h.os, h.tape, h.output, by simpa [World.setCell] using h.size, fun i hi hne => (Below.heap_setCell b ⟨g, j, none⟩ u i (by
    rintro rfl
    exact hne rfl)).trans (h.block i hi hne)⟩
theorem Only.below {g B : Nat} {a w w' : World} (h : Below B a w) (k : Only g w w') (hB : B ≤ w.heap.size) (hg : B ≤ g) : Below B a w' :=
  h.grown k hB (fun j hj => by cases hj; exact hg)

set_option maxHeartbeats 400000 in
theorem left_any (g : Nat) (s : ByteArray) (p : Nat) (w : World) (h : RdAt w g s p) (hs : s.size ≤ maxLen) (hp : p ≤ s.size) :
    Calls Try.prog 61 #[.pointer (some ⟨g, 0, none⟩)] w fun e w' => e = .returned (.int .i64 ((s.size - p : Nat) : Int)) ∧ ∃ n, w' = w.drewN n := by
  obtain ⟨h0, h1, h2⟩ := h
  have e : (s.size : Int) - (p : Int) = ((s.size - p : Nat) : Int) := by omega
  unfold maxLen at hs
  have ew : IntKind.i64.wrap ((s.size : Int) - (p : Int)) = ((s.size - p : Nat) : Int) := by rw [e]; exact IntWalk.i64_in _ (by omega)
  go_enter Try.func61, Try.ntmps61
  go_wp2
  go_quiet (fail)
  go_wp2
  go_ret
  exact ⟨rfl, _, rfl⟩

set_option maxHeartbeats 400000 in
theorem text_ok (g : Nat) (s : ByteArray) (p n : Nat) (w : World) (h : RdAt w g s p) (hs : s.size ≤ maxLen) (hp : p + n ≤ s.size) :
    Calls Try.prog 60 #[.pointer (some ⟨g, 0, none⟩), .int .i64 (n : Int)] w fun e w' => e = .returned (.string (s.extract p (p + n))) ∧ RdAt w' g s (p + n) ∧ Only g w w' := by
  have hL := fun n => left_any g s p (w.drewN n) (h.drewN n) hs (by omega)
  have hr := h
  obtain ⟨h0, h1, h2⟩ := h
  unfold maxLen at hs
  have hd : decide (((s.size - p : Nat) : Int) < (n : Int)) = false := by simp; omega
  go_enter Try.func60, Try.ntmps60
  go_wp2_with fail
  refine (left_any g s p w hr (by unfold maxLen; omega) (by omega)).mono ?_
  rintro e w' ⟨rfl, m, rfl⟩
  have ew : IntKind.i64.wrap ((p : Int) + (n : Int)) = (p : Int) + (n : Int) := IntWalk.i64_in _ (by omega)
  have et : ((p : Int) + (n : Int)).toNat = p + n := by omega
  have f1 : (0 : Int) ≤ (p : Int) := by omega
  have f2 : (p : Int) ≤ (p : Int) + (n : Int) := by omega
  have f3 : (p : Int) + (n : Int) ≤ (s.size : Int) := by omega
  go_wp2_with fail
  go_quiet (fail)
  go_wp2
  go_ret
  refine ⟨rfl, ?_, ?_⟩
  · exact (hr.drewN _).set (p + n)
  · exact ((Only.refl g w).drewN _).set _ _
theorem extract_size (s : ByteArray) (p n : Nat) (hp : p + n ≤ s.size) : (s.extract p (p + n)).size = n := by rw [ByteArray.size_extract]; omega

set_option maxHeartbeats 400000 in
theorem num_ok (g : Nat) (s : ByteArray) (p n : Nat) (w : World) (h : RdAt w g s p) (hs : s.size ≤ maxLen) (h8 : n ≤ 8) (hp : p + n ≤ s.size) :
    Calls Try.prog 59 #[.pointer (some ⟨g, 0, none⟩), .int .i64 (n : Int)] w fun e w' => e = .returned (.int .u64 (NumM.val ((s.data.toList.drop p).take n) : Int)) ∧ RdAt w' g s (p + n) ∧ Only g w w' := by
  have hx := extract_size s p n hp
  have ed : (s.extract p (p + n)).data.toList = (s.data.toList.drop p).take n := by rw [Lib.extract_data]; congr 1; omega
  have HX := Lib.hid hx
  have HE := Lib.hid ed
  clear hx ed
  go_enter Try.func59, Try.ntmps59
  go_wp2_with fail
  refine (size_any _ _ (by omega) (by omega)).mono ?_
  rintro e w1 ⟨rfl, rfl⟩
  go_wp2_with fail
  refine (text_ok g s p n _ h hs hp).mono ?_
  rintro e w2 ⟨rfl, hr, ho⟩
  go_wp2_with fail
  refine (value_any _ _ (by rw [HX.out]; exact h8)).mono ?_
  rw [HE.out]
  rintro e w3 ⟨rfl, hb⟩
  go_wp2_with fail
  go_ret
  exact ⟨rfl, hr.kept hb, ho.trans (Only.of_below hb)⟩

set_option maxHeartbeats 400000 in
theorem new_any (s : ByteArray) (w : World) :
    Calls Try.prog 58 #[.string s] w fun e w' => e = .returned (.pointer (some ⟨w.heap.size, 0, none⟩)) ∧ RdAt w' w.heap.size s 0 ∧ Below w.heap.size w w' := by
  go_enter Try.func58, Try.ntmps58
  go_wp2
  go_ret
  exact ⟨rfl, ⟨by simp, by simp, by simp⟩, below_alloc (Below.refl _ _) _⟩
end Go.Proofs.Ythkfgjdbgnbjkaa
