/- The walks of num.Put and of the reference's Put and Get. -/
import Derived.Test.YthkfgjdbgnbjkaaNumW
import Derived.OwnWalk
import Derived.Laws.MakeOwn
namespace Go.Proofs.Ythkfgjdbgnbjkaa
open Go.RowKit
set_option linter.unusedSimpArgs false
set_option linter.unusedVariables false

def bvals (l : List UInt8) : List Value := l.map fun b => .int .u8 (b.toNat : Int)
theorem bvals_length (l : List UInt8) : (bvals l).length = l.length := by simp [bvals]
theorem bvals_append (l m : List UInt8) : bvals (l ++ m) = bvals l ++ bvals m := by simp [bvals]
theorem bvals_one (l : List UInt8) : ∀ u ∈ bvals l, u.oneCell' = true := by
  intro u hu
  simp only [bvals, List.mem_map] at hu
  obtain ⟨b, _, rfl⟩ := hu
  rfl
/-- a slice of bytes that reads as a list, nil or not. -/
def RdB (w : World) (A : Option Addr) (c : Nat) (l : List UInt8) : Prop :=
  (A = none → l.length = 0 ∧ c = 0) ∧ ∀ ad, A = some ad → ∀ j u, (bvals l)[j]? = some u → w.cell? (ad.add j) = some u
theorem RdB.grown {w w' : World} {A : Option Addr} {c : Nat} {l : List UInt8} (h : RdB w A c l) (hg : w.grownBy w' none) : RdB w' A c l :=
  ⟨h.1, fun ad ha j u hu => hg.cell (h.2 ad ha j u hu) (by simp)⟩
theorem RdB.nil (w : World) : RdB w none 0 [] := ⟨fun _ => ⟨rfl, rfl⟩, fun ad h => by cases h⟩

theorem info5 : (Try.prog.info? 5).map (fun i => (i.zero, i.size, i.bytes)) = some (some (.int .u8 0), 1, 1) := by kernel_rfl

/-- a row of bytes of the call's own: its value, and what it holds. -/
def OwnB (w : World) (base : Nat) (g cap : Nat) (l : List UInt8) : Prop :=
  w.ownsRow base 5 1 (.slice (some ⟨g, 0, none⟩) l.length cap) l.length (bvals l)
theorem OwnB.cell {w : World} {base g cap : Nat} {l : List UInt8} (h : OwnB w base g cap l) (i : Nat) (hi : i < l.length) : w.cell? ⟨g, i, none⟩ = some (.int .u8 ((l.getD i 0).toNat : Int)) := by
  have h1 := World.ownsRow.cellAt h i (by omega)
  rw [h1]
  simp [bvals, List.getD, List.getElem?_eq_getElem hi]
theorem OwnB.rd {w : World} {base g cap : Nat} {l : List UInt8} (h : OwnB w base g cap l) : RdB w (some ⟨g, 0, none⟩) cap l :=
  And.intro (fun e => by cases e) (fun ad ha j u hu => by cases ha; exact World.ownsRow.cells h rfl j u hu)
theorem OwnB.convert {w : World} {base g cap : Nat} {l : List UInt8} (h : OwnB w base g cap l) :
    (convert 30 9 (.slice (some ⟨g, 0, none⟩) l.length cap)).run Try.prog w = .ok (.string ⟨l.toArray⟩) w := by
  have := run_convert_bytes_arg (P := Try.prog) w 30 5 Try.underlying30 Try.underlying5 g 0 l.length cap (l.map fun b => (b.toNat : Int)) (by simp) (fun i hi => by
    rw [Nat.zero_add, h.cell i hi]
    simp [List.getD, List.getElem?_eq_getElem hi]) 9 Try.underlying9
  rw [strOf_bytes] at this
  exact this

theorem shr_byte (v q : Nat) : (v : Int) / 2 ^ (8 * q) % 256 = ((UInt8.ofNat (v / 256 ^ q)).toNat : Int) := by
  rw [UInt8.toNat_ofNat']
  have e : (2 : Nat) ^ (8 * q) = 256 ^ q := by rw [Nat.pow_mul]
  have e2 : ((2 : Int) ^ (8 * q)) = ((256 ^ q : Nat) : Int) := by rw [← e, Int.natCast_pow]; rfl
  rw [e2, ← Int.natCast_ediv]
  omega

set_option maxRecDepth 100000 in
set_option maxHeartbeats 800000 in
theorem put_any (A : Option Addr) (c : Nat) (l : List UInt8) (v n : Nat) (w : World) (hR : RdB w A c l) (hl : l.length ≤ 1000000) (hv : v < 18446744073709551616) (hn : n ≤ 8) :
    Calls Try.prog 56 #[.slice A l.length c, .int .u64 (v : Int), .int .i64 (n : Int)] w fun e w' =>
      e = .returned (.slice (some ⟨w.heap.size, 0, none⟩) (l.length + n) (l.length + n)) ∧ OwnB w' w.heap.size w.heap.size (l.length + n) (l ++ NumM.be n v) ∧ Below w.heap.size w w' := by
  obtain ⟨i0, hi, hz0, hz1, hz2⟩ := info_parts info5
  generalize hL : l.length = L at *
  have HL := Lib.hid hL
  clear hL
  have HR := Lib.hid hR
  clear hR hv
  go_enter Try.func56, Try.ntmps56
  go_wp2_with fail
  refine (size_any _ _ (by omega) (by omega)).mono ?_
  rintro e w' ⟨rfl, rfl⟩
  go_wp2_with (at_make; refine wpList_make_own _ rfl _ _ 30 rfl w.heap.size 5 i0 (.int .u8 0) 1 Try.underlying30 hi hz0 hz1 _ _ _ (L + n) rfl rfl (by omega) ?b2 ?b3 (Nat.le_refl _) ?_)
  case b2 => rw [hz2]; omega
  case b3 => unfold maxLen; omega
  intro w0 hown0 hgrow0
  have HR0 := HR.out.grown hgrow0
  have hb0 := (Below.refl w.heap.size w).grown hgrow0 (Nat.le_refl _) (fun k h => by cases h)
  go_wp2_with (at_builtin; refine wpList_append_fits_any _ rfl (.tmp 15) (.tmp 16) 30 rfl w.heap.size 5 i0 1 Try.underlying30 hi hz1 w.heap.size 0 (L + n) _ rfl hown0 A L c (bvals l) rfl (by rw [bvals_length, HL.out]; omega) (by have := HR0.1; rw [HL.out] at this; exact this) HR0.2 (bvals_one l) (by omega) ?_; intro w1 hown1 hgrow1)
  have hb1 := hb0.grown hgrow1 hb0.size (fun k h => by cases h; exact Nat.le_refl _)
  have hown : OwnB w1 w.heap.size w.heap.size (L + n) (l ++ (NumM.be n v).take 0) := by
    unfold OwnB
    rw [List.take_zero, List.append_nil, HL.out]
    simpa using hown1
  clear hown0 hown1 hgrow0 hgrow1 HR0 hb0 HR
  have HO := Lib.hid hown
  clear hown
  go_loopw [7, 19] (fun o j wr => ∃ k : Nat, k ≤ n ∧ j = .int .i64 k ∧ o = .slice (some ⟨w.heap.size, 0, none⟩) (L + k) (L + n) ∧ Hid (OwnB wr w.heap.size w.heap.size (L + n) (l ++ (NumM.be n v).take k)) ∧ Below w.heap.size w wr) (fun _ j _ => n - (intOf j).toNat)
  case atStart => exact ⟨0, by omega, rfl, rfl, HO, hb1⟩
  case round =>
    obtain ⟨k, hk, rfl, rfl, HOk, hbk⟩ := hrel
    by_cases hlt : k < n
    · obtain ⟨q, hq⟩ : ∃ q, q = n - 1 - k := ⟨_, rfl⟩
      have e1 : (n : Int) - 1 - (k : Int) = (q : Int) := by omega
      have e2 : (8 * (q : Int)).toNat = 8 * q := by omega
      have e3 : min (8 * q) 64 = 8 * q := by omega
      have hq8 : q ≤ 7 := by omega
      have HS := Lib.hid (shr_byte v q)
      have HT := Lib.hid (NumM.be_take n v k hlt)
      have HQ := Lib.hid hq
      clear hq
      have hk0 : wr.ownsRow w.heap.size 5 1 (.slice (some ⟨w.heap.size, 0, none⟩) (L + k) (L + n)) (L + k) (bvals (l ++ (NumM.be n v).take k)) := by
        have h := HOk.out
        unfold OwnB at h
        rw [List.length_append, List.length_take, NumM.be_length, HL.out, Nat.min_eq_left hk] at h
        exact h
      have HK0 := Lib.hid hk0
      clear hk0 HOk
      go_wp2_with (at_builtin; refine wpList_append_fits _ rfl (.tmp 22) (.tmp 31) 30 rfl w.heap.size 5 i0 1 Try.underlying30 hi hz1 w.heap.size (L + k) (L + n) _ rfl (HK0.out.alloc _) ⟨wr.heap.size, 0, none⟩ 1 1 [.int .u8 ((v : Int) / 2 ^ (8 * q) % 256)] rfl rfl ?hc ?h1 (by omega) ?_; rotate_left; rotate_left; intro w2 hown2 hgrow2)
      case hc => exact cell_one_new _ _ _
      case h1 => intro u hu; simp at hu; subst hu; rfl
      go_roundw
      case rel =>
        have h : OwnB w2 w.heap.size w.heap.size (L + n) (l ++ (NumM.be n v).take (k + 1)) := by
          unfold OwnB
          rw [List.length_append, List.length_take, NumM.be_length, HL.out, Nat.min_eq_left (by omega), HT.out, ← HQ.out, ← List.append_assoc, bvals_append]
          rw [HS.out] at hown2
          exact hown2
        exact ⟨k + 1, by omega, by go_num, by rw [Nat.add_assoc], h, (hbk.alloc hbk.size _).grown hgrow2 (by simp; have := hbk.size; omega) (fun k h => by cases h; exact Nat.le_refl _)⟩
      case measure => simp [intOf]; omega
    · obtain rfl : k = n := by omega
      have h := HOk.out
      rw [NumM.be_take_all] at h
      go_wp2
      go_ret
      exact ⟨rfl, h, hbk⟩
end Go.Proofs.Ythkfgjdbgnbjkaa
