/- The walks of the reference's row and has. -/
import Derived.Test.YthkfgjdbgnbjkaaPkBase
namespace Go.Proofs.Ythkfgjdbgnbjkaa
open Go.RowKit
set_option linter.unusedSimpArgs false
set_option linter.unusedVariables false

set_option maxHeartbeats 800000 in
theorem has_is (s : ByteArray) (b : Nat) (r : Bool) (hs : s.size ≤ 1000) (hr : (s.data.toList.map (·.toNat)).contains b = r) (w : World) :
    Calls Try.prog 79 #[.string s, .int .u8 (b : Int)] w fun e w' => e = .returned (.bool r) ∧ w = w' := by
  have hlen := size_data s
  have HY := Lib.hid (fun (k : Nat) (hk : k < s.size) (h : (s.data.toList.getD k 0).toNat = b) => show r = true by
    rw [← hr, List.contains_iff_mem]
    have hk' : k < s.data.toList.length := by rw [hlen]; exact hk
    rw [← h, List.getD, List.getElem?_eq_getElem hk']
    exact List.mem_map.2 ⟨_, List.getElem_mem hk', rfl⟩)
  have HN := Lib.hid (fun (h : ∀ k, k < s.size → (s.data.toList.getD k 0).toNat ≠ b) => show r = false by
    rw [← hr]
    cases hc : (s.data.toList.map (·.toNat)).contains b with
    | false => rfl
    | true =>
      exfalso
      rw [List.contains_iff_mem] at hc
      obtain ⟨x, hx, hxb⟩ := List.mem_map.1 hc
      obtain ⟨k, hk, rfl⟩ := List.getElem_of_mem hx
      refine h k (by rw [← hlen]; exact hk) ?_
      rw [List.getD, List.getElem?_eq_getElem hk]
      exact hxb)
  clear hr hlen
  generalize hn : s.size = n at *
  have HS := Lib.hid hn
  go_enter Try.func79, Try.ntmps79
  go_wp2_with fail
  go_loop [5] (fun i => ∃ k : Nat, k ≤ n ∧ i = .int .i64 k ∧ Hid (∀ j, j < k → (s.data.toList.getD j 0).toNat ≠ b)) (fun i => n - (intOf i).toNat)
  case atStart => exact ⟨0, by omega, rfl, fun j hj => absurd hj (by omega)⟩
  case round =>
    obtain ⟨k, hk, rfl, HE⟩ := hrel
    by_cases hlt : k < n
    · have hks : k < s.size := by omega
      have hget : s.data.toList.getD k 0 = s[k] := by
        have hn : k < s.data.toList.length := by rw [size_data]; exact hks
        simp only [List.getD, List.getElem?_eq_getElem hn, Option.getD_some]
        rfl
      by_cases hb : (s[k]).toNat = b
      · have hd : (((s[k]).toNat : Int) == (b : Int)) = true := by simp; omega
        have hrt := Lib.hid (HY.out k hlt (by rw [hget]; exact hb))
        clear hb hget
        go_wp2_with fail
        go_ret
        rw [hrt.out]
        exact ⟨rfl, rfl⟩
      · have hd : (((s[k]).toNat : Int) == (b : Int)) = false := by simp; omega
        have hrel : Hid (∀ j, j < k + 1 → (s.data.toList.getD j 0).toNat ≠ b) := fun j hj => by
          by_cases hjk : j < k
          · exact HE.out j hjk
          · obtain rfl : j = k := by omega
            rw [hget]
            exact hb
        clear hb hget
        go_wp2_with fail
        go_round
        case rel => exact ⟨k + 1, by omega, by go_num, hrel⟩
        case measure => simp [intOf]; omega
    · obtain rfl : k = n := by omega
      have hrf := Lib.hid (HN.out HE.out)
      go_wp2_with fail
      go_ret
      rw [hrf.out]
      exact ⟨rfl, rfl⟩

set_option maxRecDepth 8000 in
theorem row1 (w : World) : Calls Try.prog 70 #[.int .i64 1] w fun e w' => e = .returned (.string ⟨#[99, 109]⟩) ∧ w = w' := by
  have hix : ∀ w : World, (Instr.index 140 (.agg #[.string ⟨#[]⟩, .string ⟨#[99, 109]⟩, .string ⟨#[99, 115, 110, 103, 104]⟩, .string ⟨#[99, 119, 113]⟩, .string ⟨#[99, 112, 101, 98]⟩, .string ⟨#[99, 98]⟩, .string ⟨#[99, 120]⟩, .string ⟨#[99, 98, 108]⟩, .string ⟨#[99, 119, 113]⟩, .string ⟨#[99, 119, 109]⟩, .string ⟨#[99]⟩, .string ⟨#[99]⟩]) (.int .i64 1)).run Try.prog w = .ok (.string ⟨#[99, 109]⟩) w := fun _ => by kernel_rfl
  go_enter Try.func70, Try.ntmps70
  go_wp2_with fail
  go_ret
  exact ⟨rfl, rfl⟩
set_option maxRecDepth 8000 in
theorem row2 (w : World) : Calls Try.prog 70 #[.int .i64 2] w fun e w' => e = .returned (.string ⟨#[99, 115, 110, 103, 104]⟩) ∧ w = w' := by
  have hix : ∀ w : World, (Instr.index 140 (.agg #[.string ⟨#[]⟩, .string ⟨#[99, 109]⟩, .string ⟨#[99, 115, 110, 103, 104]⟩, .string ⟨#[99, 119, 113]⟩, .string ⟨#[99, 112, 101, 98]⟩, .string ⟨#[99, 98]⟩, .string ⟨#[99, 120]⟩, .string ⟨#[99, 98, 108]⟩, .string ⟨#[99, 119, 113]⟩, .string ⟨#[99, 119, 109]⟩, .string ⟨#[99]⟩, .string ⟨#[99]⟩]) (.int .i64 2)).run Try.prog w = .ok (.string ⟨#[99, 115, 110, 103, 104]⟩) w := fun _ => by kernel_rfl
  go_enter Try.func70, Try.ntmps70
  go_wp2_with fail
  go_ret
  exact ⟨rfl, rfl⟩
set_option maxRecDepth 8000 in
theorem row3 (w : World) : Calls Try.prog 70 #[.int .i64 3] w fun e w' => e = .returned (.string ⟨#[99, 119, 113]⟩) ∧ w = w' := by
  have hix : ∀ w : World, (Instr.index 140 (.agg #[.string ⟨#[]⟩, .string ⟨#[99, 109]⟩, .string ⟨#[99, 115, 110, 103, 104]⟩, .string ⟨#[99, 119, 113]⟩, .string ⟨#[99, 112, 101, 98]⟩, .string ⟨#[99, 98]⟩, .string ⟨#[99, 120]⟩, .string ⟨#[99, 98, 108]⟩, .string ⟨#[99, 119, 113]⟩, .string ⟨#[99, 119, 109]⟩, .string ⟨#[99]⟩, .string ⟨#[99]⟩]) (.int .i64 3)).run Try.prog w = .ok (.string ⟨#[99, 119, 113]⟩) w := fun _ => by kernel_rfl
  go_enter Try.func70, Try.ntmps70
  go_wp2_with fail
  go_ret
  exact ⟨rfl, rfl⟩
set_option maxRecDepth 8000 in
theorem row4 (w : World) : Calls Try.prog 70 #[.int .i64 4] w fun e w' => e = .returned (.string ⟨#[99, 112, 101, 98]⟩) ∧ w = w' := by
  have hix : ∀ w : World, (Instr.index 140 (.agg #[.string ⟨#[]⟩, .string ⟨#[99, 109]⟩, .string ⟨#[99, 115, 110, 103, 104]⟩, .string ⟨#[99, 119, 113]⟩, .string ⟨#[99, 112, 101, 98]⟩, .string ⟨#[99, 98]⟩, .string ⟨#[99, 120]⟩, .string ⟨#[99, 98, 108]⟩, .string ⟨#[99, 119, 113]⟩, .string ⟨#[99, 119, 109]⟩, .string ⟨#[99]⟩, .string ⟨#[99]⟩]) (.int .i64 4)).run Try.prog w = .ok (.string ⟨#[99, 112, 101, 98]⟩) w := fun _ => by kernel_rfl
  go_enter Try.func70, Try.ntmps70
  go_wp2_with fail
  go_ret
  exact ⟨rfl, rfl⟩
set_option maxRecDepth 8000 in
theorem row5 (w : World) : Calls Try.prog 70 #[.int .i64 5] w fun e w' => e = .returned (.string ⟨#[99, 98]⟩) ∧ w = w' := by
  have hix : ∀ w : World, (Instr.index 140 (.agg #[.string ⟨#[]⟩, .string ⟨#[99, 109]⟩, .string ⟨#[99, 115, 110, 103, 104]⟩, .string ⟨#[99, 119, 113]⟩, .string ⟨#[99, 112, 101, 98]⟩, .string ⟨#[99, 98]⟩, .string ⟨#[99, 120]⟩, .string ⟨#[99, 98, 108]⟩, .string ⟨#[99, 119, 113]⟩, .string ⟨#[99, 119, 109]⟩, .string ⟨#[99]⟩, .string ⟨#[99]⟩]) (.int .i64 5)).run Try.prog w = .ok (.string ⟨#[99, 98]⟩) w := fun _ => by kernel_rfl
  go_enter Try.func70, Try.ntmps70
  go_wp2_with fail
  go_ret
  exact ⟨rfl, rfl⟩
set_option maxRecDepth 8000 in
theorem row6 (w : World) : Calls Try.prog 70 #[.int .i64 6] w fun e w' => e = .returned (.string ⟨#[99, 120]⟩) ∧ w = w' := by
  have hix : ∀ w : World, (Instr.index 140 (.agg #[.string ⟨#[]⟩, .string ⟨#[99, 109]⟩, .string ⟨#[99, 115, 110, 103, 104]⟩, .string ⟨#[99, 119, 113]⟩, .string ⟨#[99, 112, 101, 98]⟩, .string ⟨#[99, 98]⟩, .string ⟨#[99, 120]⟩, .string ⟨#[99, 98, 108]⟩, .string ⟨#[99, 119, 113]⟩, .string ⟨#[99, 119, 109]⟩, .string ⟨#[99]⟩, .string ⟨#[99]⟩]) (.int .i64 6)).run Try.prog w = .ok (.string ⟨#[99, 120]⟩) w := fun _ => by kernel_rfl
  go_enter Try.func70, Try.ntmps70
  go_wp2_with fail
  go_ret
  exact ⟨rfl, rfl⟩
set_option maxRecDepth 8000 in
theorem row7 (w : World) : Calls Try.prog 70 #[.int .i64 7] w fun e w' => e = .returned (.string ⟨#[99, 98, 108]⟩) ∧ w = w' := by
  have hix : ∀ w : World, (Instr.index 140 (.agg #[.string ⟨#[]⟩, .string ⟨#[99, 109]⟩, .string ⟨#[99, 115, 110, 103, 104]⟩, .string ⟨#[99, 119, 113]⟩, .string ⟨#[99, 112, 101, 98]⟩, .string ⟨#[99, 98]⟩, .string ⟨#[99, 120]⟩, .string ⟨#[99, 98, 108]⟩, .string ⟨#[99, 119, 113]⟩, .string ⟨#[99, 119, 109]⟩, .string ⟨#[99]⟩, .string ⟨#[99]⟩]) (.int .i64 7)).run Try.prog w = .ok (.string ⟨#[99, 98, 108]⟩) w := fun _ => by kernel_rfl
  go_enter Try.func70, Try.ntmps70
  go_wp2_with fail
  go_ret
  exact ⟨rfl, rfl⟩
set_option maxRecDepth 8000 in
theorem row8 (w : World) : Calls Try.prog 70 #[.int .i64 8] w fun e w' => e = .returned (.string ⟨#[99, 119, 113]⟩) ∧ w = w' := by
  have hix : ∀ w : World, (Instr.index 140 (.agg #[.string ⟨#[]⟩, .string ⟨#[99, 109]⟩, .string ⟨#[99, 115, 110, 103, 104]⟩, .string ⟨#[99, 119, 113]⟩, .string ⟨#[99, 112, 101, 98]⟩, .string ⟨#[99, 98]⟩, .string ⟨#[99, 120]⟩, .string ⟨#[99, 98, 108]⟩, .string ⟨#[99, 119, 113]⟩, .string ⟨#[99, 119, 109]⟩, .string ⟨#[99]⟩, .string ⟨#[99]⟩]) (.int .i64 8)).run Try.prog w = .ok (.string ⟨#[99, 119, 113]⟩) w := fun _ => by kernel_rfl
  go_enter Try.func70, Try.ntmps70
  go_wp2_with fail
  go_ret
  exact ⟨rfl, rfl⟩
set_option maxRecDepth 8000 in
theorem row9 (w : World) : Calls Try.prog 70 #[.int .i64 9] w fun e w' => e = .returned (.string ⟨#[99, 119, 109]⟩) ∧ w = w' := by
  have hix : ∀ w : World, (Instr.index 140 (.agg #[.string ⟨#[]⟩, .string ⟨#[99, 109]⟩, .string ⟨#[99, 115, 110, 103, 104]⟩, .string ⟨#[99, 119, 113]⟩, .string ⟨#[99, 112, 101, 98]⟩, .string ⟨#[99, 98]⟩, .string ⟨#[99, 120]⟩, .string ⟨#[99, 98, 108]⟩, .string ⟨#[99, 119, 113]⟩, .string ⟨#[99, 119, 109]⟩, .string ⟨#[99]⟩, .string ⟨#[99]⟩]) (.int .i64 9)).run Try.prog w = .ok (.string ⟨#[99, 119, 109]⟩) w := fun _ => by kernel_rfl
  go_enter Try.func70, Try.ntmps70
  go_wp2_with fail
  go_ret
  exact ⟨rfl, rfl⟩
set_option maxRecDepth 8000 in
theorem row10 (w : World) : Calls Try.prog 70 #[.int .i64 10] w fun e w' => e = .returned (.string ⟨#[99]⟩) ∧ w = w' := by
  have hix : ∀ w : World, (Instr.index 140 (.agg #[.string ⟨#[]⟩, .string ⟨#[99, 109]⟩, .string ⟨#[99, 115, 110, 103, 104]⟩, .string ⟨#[99, 119, 113]⟩, .string ⟨#[99, 112, 101, 98]⟩, .string ⟨#[99, 98]⟩, .string ⟨#[99, 120]⟩, .string ⟨#[99, 98, 108]⟩, .string ⟨#[99, 119, 113]⟩, .string ⟨#[99, 119, 109]⟩, .string ⟨#[99]⟩, .string ⟨#[99]⟩]) (.int .i64 10)).run Try.prog w = .ok (.string ⟨#[99]⟩) w := fun _ => by kernel_rfl
  go_enter Try.func70, Try.ntmps70
  go_wp2_with fail
  go_ret
  exact ⟨rfl, rfl⟩
set_option maxRecDepth 8000 in
theorem row11 (w : World) : Calls Try.prog 70 #[.int .i64 11] w fun e w' => e = .returned (.string ⟨#[99]⟩) ∧ w = w' := by
  have hix : ∀ w : World, (Instr.index 140 (.agg #[.string ⟨#[]⟩, .string ⟨#[99, 109]⟩, .string ⟨#[99, 115, 110, 103, 104]⟩, .string ⟨#[99, 119, 113]⟩, .string ⟨#[99, 112, 101, 98]⟩, .string ⟨#[99, 98]⟩, .string ⟨#[99, 120]⟩, .string ⟨#[99, 98, 108]⟩, .string ⟨#[99, 119, 113]⟩, .string ⟨#[99, 119, 109]⟩, .string ⟨#[99]⟩, .string ⟨#[99]⟩]) (.int .i64 11)).run Try.prog w = .ok (.string ⟨#[99]⟩) w := fun _ => by kernel_rfl
  go_enter Try.func70, Try.ntmps70
  go_wp2_with fail
  go_ret
  exact ⟨rfl, rfl⟩
end Go.Proofs.Ythkfgjdbgnbjkaa
