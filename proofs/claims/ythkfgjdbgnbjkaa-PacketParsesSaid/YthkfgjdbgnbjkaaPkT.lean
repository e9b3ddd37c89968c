/- The walk of the packets' awake: answers that the document fixes. -/
import Derived.Test.YthkfgjdbgnbjkaaPkS
import Derived.Test.YthkfgjdbgnbjkaaPkBase
namespace Go.Proofs.Ythkfgjdbgnbjkaa
open Go.RowKit
set_option linter.unusedSimpArgs false
set_option linter.unusedVariables false

def p10 : Pk := { Pk.zero with kind := 10, src := 1, dst := 2, conf := ⟨5, 1⟩ }
def p6 : Pk := { Pk.zero with kind := 6 }
def b10 : List UInt8 := [0, 0, 0, 0, 0, 0, 0, 5, 1]
theorem p10_body : bodyW p10 = .ok b10 := by rfl
theorem p10_e : printE 10 1 2 ⟨#[]⟩ = 0 := by decide +kernel
theorem p10_e2 : printE 10 1 2 ⟨b10.toArray⟩ = 0 := by decide +kernel
theorem p10_print : printP p10 = (frameB 10 1 2 ⟨b10.toArray⟩, 0) := by
  unfold printP
  rw [if_neg (by rw [show printE p10.kind p10.src p10.dst ⟨#[]⟩ = 0 from p10_e]; simp), p10_body]
  show (printS 10 1 2 ⟨b10.toArray⟩, printE 10 1 2 ⟨b10.toArray⟩) = _
  rw [printS_yes p10_e2, p10_e2]
theorem p6_print : printP p6 = (⟨#[]⟩, 10) ∨ printP p6 = (⟨#[]⟩, 1) := by
  right
  unfold printP
  have e : printE p6.kind p6.src p6.dst ⟨#[]⟩ = 0 := by decide +kernel
  rw [if_neg (by rw [e]; simp), show bodyW p6 = .error 1 from by rfl]
theorem p6_print1 : printP p6 = (⟨#[]⟩, 1) := by
  rcases p6_print with h | h
  · exfalso
    unfold printP at h
    have e : printE p6.kind p6.src p6.dst ⟨#[]⟩ = 0 := by decide +kernel
    rw [if_neg (by rw [e]; simp), show bodyW p6 = .error 1 from by rfl] at h
    simp at h
  · exact h
theorem p10_parse : parseP (frameB 10 1 2 ⟨b10.toArray⟩) = (p10, 0) := by
  unfold parseP
  rw [parse_print p10_e2]
  rfl
theorem p10_size : (frameB 10 1 2 ⟨b10.toArray⟩).size = 20 := by rw [frameB_size]; rfl
theorem p10_mid : (frameB 10 1 2 ⟨b10.toArray⟩).extract 7 16 = ⟨#[0, 0, 0, 0, 0, 0, 0, 5, 1]⟩ := frame_body 10 1 2 ⟨b10.toArray⟩
theorem PerU.nil (w : World) (A : Option Addr) : PerU w A [] := fun w' _ i hi => by simp at hi
theorem PerX.nil (w : World) (A : Option Addr) : PerX w A [] := fun i hi => by simp at hi
theorem pprint_nil (p : Pk) (hf : p.fits) (h1 : p.m.deps = []) (h2 : p.got = []) (h3 : p.x = []) (w : World) :
    Calls Try.prog 49 #[pkV p none 0 none 0 none 0] w fun e w' => e = .returned (.tuple #[.string (printP p).1, .int .i64 (printP p).2]) ∧ Below w.heap.size w w' :=
  pprint_whole p none 0 none 0 none 0 w hf (by rw [h1]; exact PerU.nil _ _) (by rw [h2]; exact PerU.nil _ _) (by rw [h3]; exact PerX.nil _ _)
theorem p10_fits : p10.fits := ⟨by unfold U64; decide, zms, z64, z32, znil, z64, z32, z64, z64, z64, zex⟩
theorem p6_fits : p6.fits := ⟨z64, zms, z64, z32, znil, z64, z32, z64, z64, z64, zex⟩

set_option maxHeartbeats 1600000 in
set_option maxRecDepth 8000 in
theorem awake06 (w : World) : Calls Try.prog 43 #[] w fun e w' => e = .returned (.bool true) ∧ Below w.heap.size w w' := by
  have H1 := Lib.hid (pprint_nil p10 p10_fits rfl rfl rfl)
  have H3 := Lib.hid (pprint_nil p6 p6_fits rfl rfl rfl)
  rw [p10_print] at H1
  rw [p6_print1] at H3
  have H2 := Lib.hid (fun W => rparse_whole (frameB 10 1 2 ⟨b10.toArray⟩) W (by rw [p10_size]; decide))
  rw [p10_parse] at H2
  have h20 := p10_size
  have hmid := p10_mid
  generalize frameB 10 1 2 ⟨b10.toArray⟩ = S at *
  have hd1 : decide ((S.size : Int) = 20) = true := by rw [h20]; decide
  have f1 : (0 : Int) ≤ 7 := by omega
  have f3 : (16 : Int) ≤ (S.size : Int) := by omega
  have f4 : (16 : Int) ≤ 20 := by omega
  go_enter Try.func43, Try.ntmps43
  go_wp2_with fail
  refine (H1.out _).mono ?_
  rintro e w1 ⟨rfl, hb1⟩
  go_wp2_with fail
  refine (H2.out _).mono ?_
  rintro e w2 ⟨⟨v, rfl, Am, cm, Ag, cg, Ax, cx, rfl, -, -, -⟩, -, hb2⟩
  have hbl2 := below_step hb1 hb2
  clear H1 H2 hb1 hb2
  rw [show pkV p10 Am cm Ag cg Ax cx = .agg #[.int .i64 10, .int .i64 1, .int .i64 2, .int .u64 5, .int .i64 1, .int .i64 0, .int .u32 0, .int .u64 0, .int .i64 0, .slice Am 0 cm, .string ⟨#[]⟩, .int .u64 0, .int .u32 0, .slice Ag 0 cg, .int .u64 0, .int .i64 0, .int .u32 0, .int .u64 0, .int .u64 0, .int .i64 0, .int .u64 0, .slice Ax 0 cx] from rfl]
  have D0 := heap_alloc_new w2 (.cells #[.int .i64 0, .int .i64 0, .int .i64 0, .int .u64 0, .int .i64 0, .int .i64 0, .int .u32 0, .int .u64 0, .int .i64 0, .slice none 0 0, .string ⟨#[]⟩, .int .u64 0, .int .u32 0, .slice none 0 0, .int .u64 0, .int .i64 0, .int .u32 0, .int .u64 0, .int .u64 0, .int .i64 0, .int .u64 0, .slice none 0 0] 73)
  have hbl3 := below_setRow (below_alloc hbl2 (.cells #[.int .i64 0, .int .i64 0, .int .i64 0, .int .u64 0, .int .i64 0, .int .i64 0, .int .u32 0, .int .u64 0, .int .i64 0, .slice none 0 0, .string ⟨#[]⟩, .int .u64 0, .int .u32 0, .slice none 0 0, .int .u64 0, .int .i64 0, .int .u32 0, .int .u64 0, .int .u64 0, .int .i64 0, .int .u64 0, .slice none 0 0] 73)) (g := w2.heap.size) hbl2.size #[.int .i64 10, .int .i64 1, .int .i64 2, .int .u64 5, .int .i64 1, .int .i64 0, .int .u32 0, .int .u64 0, .int .i64 0, .slice Am 0 cm, .string ⟨#[]⟩, .int .u64 0, .int .u32 0, .slice Ag 0 cg, .int .u64 0, .int .i64 0, .int .u32 0, .int .u64 0, .int .u64 0, .int .i64 0, .int .u64 0, .slice Ax 0 cx]
  have D1 := Lib.hid (setRow_heap (w2.alloc (.cells #[.int .i64 0, .int .i64 0, .int .i64 0, .int .u64 0, .int .i64 0, .int .i64 0, .int .u32 0, .int .u64 0, .int .i64 0, .slice none 0 0, .string ⟨#[]⟩, .int .u64 0, .int .u32 0, .slice none 0 0, .int .u64 0, .int .i64 0, .int .u32 0, .int .u64 0, .int .u64 0, .int .i64 0, .int .u64 0, .slice none 0 0] 73)) w2.heap.size #[.int .i64 0, .int .i64 0, .int .i64 0, .int .u64 0, .int .i64 0, .int .i64 0, .int .u32 0, .int .u64 0, .int .i64 0, .slice none 0 0, .string ⟨#[]⟩, .int .u64 0, .int .u32 0, .slice none 0 0, .int .u64 0, .int .i64 0, .int .u32 0, .int .u64 0, .int .u64 0, .int .i64 0, .int .u64 0, .slice none 0 0] #[.int .i64 10, .int .i64 1, .int .i64 2, .int .u64 5, .int .i64 1, .int .i64 0, .int .u32 0, .int .u64 0, .int .i64 0, .slice Am 0 cm, .string ⟨#[]⟩, .int .u64 0, .int .u32 0, .slice Ag 0 cg, .int .u64 0, .int .i64 0, .int .u32 0, .int .u64 0, .int .u64 0, .int .i64 0, .int .u64 0, .slice Ax 0 cx] 73 (0, 0) D0)
  have hlt : w2.heap.size < ((w2.alloc (.cells #[.int .i64 0, .int .i64 0, .int .i64 0, .int .u64 0, .int .i64 0, .int .i64 0, .int .u32 0, .int .u64 0, .int .i64 0, .slice none 0 0, .string ⟨#[]⟩, .int .u64 0, .int .u32 0, .slice none 0 0, .int .u64 0, .int .i64 0, .int .u32 0, .int .u64 0, .int .u64 0, .int .i64 0, .int .u64 0, .slice none 0 0] 73)).setRow w2.heap.size #[.int .i64 10, .int .i64 1, .int .i64 2, .int .u64 5, .int .i64 1, .int .i64 0, .int .u32 0, .int .u64 0, .int .i64 0, .slice Am 0 cm, .string ⟨#[]⟩, .int .u64 0, .int .u32 0, .slice Ag 0 cg, .int .u64 0, .int .i64 0, .int .u32 0, .int .u64 0, .int .u64 0, .int .i64 0, .int .u64 0, .slice Ax 0 cx]).heap.size := by simp
  go_wp2_with (refine wpList_store_row rfl 73 (.tmp 3) (.tmp 16) rfl w2.heap.size #[.int .i64 10, .int .i64 1, .int .i64 2, .int .u64 5, .int .i64 1, .int .i64 0, .int .u32 0, .int .u64 0, .int .i64 0, .slice Am 0 cm, .string ⟨#[]⟩, .int .u64 0, .int .u32 0, .slice Ag 0 cg, .int .u64 0, .int .i64 0, .int .u32 0, .int .u64 0, .int .u64 0, .int .i64 0, .int .u64 0, .slice Ax 0 cx] (by simp [Act.eval, Act.put]) (by simp [Act.eval, Act.put]) 73 #[.int .i64 0, .int .i64 0, .int .i64 0, .int .u64 0, .int .i64 0, .int .i64 0, .int .u32 0, .int .u64 0, .int .i64 0, .slice none 0 0, .string ⟨#[]⟩, .int .u64 0, .int .u32 0, .slice none 0 0, .int .u64 0, .int .i64 0, .int .u32 0, .int .u64 0, .int .u64 0, .int .i64 0, .int .u64 0, .slice none 0 0] D0 info73 rfl (by kernel_rfl) ?_)
  clear D0
  generalize (w2.alloc (.cells #[.int .i64 0, .int .i64 0, .int .i64 0, .int .u64 0, .int .i64 0, .int .i64 0, .int .u32 0, .int .u64 0, .int .i64 0, .slice none 0 0, .string ⟨#[]⟩, .int .u64 0, .int .u32 0, .slice none 0 0, .int .u64 0, .int .i64 0, .int .u32 0, .int .u64 0, .int .u64 0, .int .i64 0, .int .u64 0, .slice none 0 0] 73)).setRow w2.heap.size #[.int .i64 10, .int .i64 1, .int .i64 2, .int .u64 5, .int .i64 1, .int .i64 0, .int .u32 0, .int .u64 0, .int .i64 0, .slice Am 0 cm, .string ⟨#[]⟩, .int .u64 0, .int .u32 0, .slice Ag 0 cg, .int .u64 0, .int .i64 0, .int .u32 0, .int .u64 0, .int .u64 0, .int .i64 0, .int .u64 0, .slice Ax 0 cx] = w3 at *
  refine (H3.out _).mono ?_
  rintro e w4 ⟨rfl, hb4⟩
  have D2 := (hb4.block w2.heap.size hlt).trans D1.out
  have hbl4 := below_step hbl3 hb4
  clear H3 hb4 D1 hlt hbl2 hbl3
  have k0 := cell_of_row _ _ 0 _ _ _ D2
  have k3 := cell_of_row _ _ 3 _ _ _ D2
  have k4 := cell_of_row _ _ 4 _ _ _ D2
  simp at k0 k3 k4
  clear D2
  generalize w2.heap.size = K at *
  go_wp2_with fail
  go_ret
  exact ⟨rfl, hbl4⟩
end Go.Proofs.Ythkfgjdbgnbjkaa
