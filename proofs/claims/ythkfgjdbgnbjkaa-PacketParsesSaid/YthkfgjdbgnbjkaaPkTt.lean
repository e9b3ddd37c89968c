/- The walk of the reference's taker: field. (Printed by pktf.py.) -/
import Derived.Test.YthkfgjdbgnbjkaaPkTs
import Derived.StillTailTactics
namespace Go.Proofs.Ythkfgjdbgnbjkaa
open Go.RowKit Go.Sort
set_option linter.unusedSimpArgs false
set_option linter.unusedVariables false

set_option maxHeartbeats 3200000 in
set_option maxRecDepth 8000 in
theorem tfield_l (g : Nat) (s : ByteArray) (m : Nat) (st : St) (p : Pk) (Am : Option Addr) (cm : Nat) (Ag : Option Addr) (cg : Nat) (Ax : Option Addr) (cx : Nat) (B : Nat) (w : World) (h : Tk w g s m st) (hs : s.size ≤ 1000000) (hm : m ≤ 1600000)
    (hgB : g < B) (hB : B ≤ w.heap.size) (hr : PkRows w B p Am cm Ag cg Ax cx) (hx0 : p.x = []) (hA0 : Ax = none) (hc0 : cx = 0) :
    Calls Try.prog 71 #[.pointer (some ⟨g, 0, none⟩), .int .u8 108, pkV p Am cm Ag cg Ax cx] w (TF g s m st B (fieldP 108 p) none w) := by
  obtain ⟨kind, src, dst, ⟨ce, cr⟩, ⟨mf, ms, mt, mv, md, my⟩, stamp, sent, got, horizon, whom, seq, members, ⟨pe, pr⟩, epoch, x⟩ := p
  obtain ⟨hr1, hr2, hr3⟩ := hr
  dsimp only at *
  subst hx0
  subst hA0
  subst hc0
  obtain ⟨c, hc⟩ : ∃ c : Array Value, c = #[.int .i64 kind, .int .i64 src, .int .i64 dst, .int .u64 (ce : Int), .int .i64 cr, .int .i64 mf, .int .u32 (ms : Int), .int .u64 (mt : Int), .int .i64 mv, .slice Am md.length cm, .string my, .int .u64 (stamp : Int), .int .u32 (sent : Int), .slice Ag got.length cg, .int .u64 (horizon : Int), .int .i64 whom, .int .u32 (seq : Int), .int .u64 (members : Int), .int .u64 (pe : Int), .int .i64 pr, .int .u64 (epoch : Int), .slice none 0 0] := ⟨_, rfl⟩
  rw [show pkV (⟨kind, src, dst, ⟨ce, cr⟩, ⟨mf, ms, mt, mv, md, my⟩, stamp, sent, got, horizon, whom, seq, members, ⟨pe, pr⟩, epoch, []⟩ : Pk) Am cm Ag cg none 0 = .agg c from by rw [hc]; rfl]
  have HC := Lib.hid hc
  clear hc
  obtain ⟨w1, hw1⟩ : ∃ W, W = ((w.alloc (.cells c 73)).alloc (.cells #[.int .i64 0, .int .i64 0, .int .i64 0, .int .u64 0, .int .i64 0, .int .i64 0, .int .u32 0, .int .u64 0, .int .i64 0, .slice none 0 0, .string ⟨#[]⟩, .int .u64 0, .int .u32 0, .slice none 0 0, .int .u64 0, .int .i64 0, .int .u32 0, .int .u64 0, .int .u64 0, .int .i64 0, .int .u64 0, .slice none 0 0] 73)) := ⟨_, rfl⟩
  have hbel := below_alloc (below_alloc (Below.refl w.heap.size w) (.cells c 73)) (.cells #[.int .i64 0, .int .i64 0, .int .i64 0, .int .u64 0, .int .i64 0, .int .i64 0, .int .u32 0, .int .u64 0, .int .i64 0, .slice none 0 0, .string ⟨#[]⟩, .int .u64 0, .int .u32 0, .slice none 0 0, .int .u64 0, .int .i64 0, .int .u32 0, .int .u64 0, .int .u64 0, .int .i64 0, .int .u64 0, .slice none 0 0] 73)
  rw [← hw1] at hbel
  have hsz : w1.heap.size = w.heap.size + 1 + 1 := by rw [hw1]; simp
  have hg := h.lt
  have n0 : w.heap.size ≠ g := by omega
  have n1 : w.heap.size + 1 ≠ g := by omega
  have H0_1 : Hid (w1.heap[w.heap.size]? = some (.cells c 73 (0, 0))) := Lib.hid (by rw [hw1]; exact (Below.heap_alloc _ _ _ (by simp)).trans (heap_alloc_new w _))
  have H1_1 : Hid (w1.heap[w.heap.size + 1]? = some (.cells #[.int .i64 0, .int .i64 0, .int .i64 0, .int .u64 0, .int .i64 0, .int .i64 0, .int .u32 0, .int .u64 0, .int .i64 0, .slice none 0 0, .string ⟨#[]⟩, .int .u64 0, .int .u32 0, .slice none 0 0, .int .u64 0, .int .i64 0, .int .u32 0, .int .u64 0, .int .u64 0, .int .i64 0, .int .u64 0, .slice none 0 0] 73 (0, 0))) := Lib.hid (by rw [hw1, show w.heap.size + 1 = (w.alloc (.cells c 73)).heap.size by simp]; exact heap_alloc_new _ _)
  have HT1 := Lib.hid (h.kept hbel)
  have HO1 := Lib.hid (Only.of_below (g := g) hbel)
  have HW1 := Lib.hid hw1
  have R1 := Lib.hid hr1
  have R2 := Lib.hid hr2
  have R3 := Lib.hid hr3
  obtain ⟨mk, hmk⟩ : ∃ mk : List Ex → Pk, mk = fun z => (⟨kind, src, dst, ⟨ce, cr⟩, ⟨mf, ms, mt, mv, md, my⟩, stamp, sent, got, horizon, whom, seq, members, ⟨pe, pr⟩, epoch, z⟩ : Pk) := ⟨_, rfl⟩
  obtain ⟨R, hR⟩ : ∃ R, R = via (fieldP 108 (⟨kind, src, dst, ⟨ce, cr⟩, ⟨mf, ms, mt, mv, md, my⟩, stamp, sent, got, horizon, whom, seq, members, ⟨pe, pr⟩, epoch, []⟩ : Pk)) st := ⟨_, rfl⟩
  have HMK := Lib.hid hmk
  have HRR := Lib.hid hR
  obtain ⟨B1, hB1⟩ : ∃ B1, B1 = w1.heap.size := ⟨_, rfl⟩
  obtain ⟨i0, hi, hz0, hz1, hz2⟩ := parts86
  have HNM := Lib.hid (tnum g s m 1 st w1 HT1.out hs (by omega) (by omega) (by omega))
  clear h hr1 hr2 hr3 hw1 hbel hmk hR
  unfold TF
  rw [← HRR.out]
  go_enter Try.func71, Try.ntmps71
  go_wp2_with fail
  rw [← HW1.out]
  refine HNM.out.mono ?_
  rintro e w2 ⟨n, st1, rfl, hn, hvia, hT, ho⟩
  have ew : IntKind.i64.wrap (n : Int) = (n : Int) := IntWalk.i64_in _ (by omega)
  obtain ⟨b, hb⟩ : ∃ b, b = decide (64 < n) := ⟨_, rfl⟩
  have hdd : decide (64 < (n : Int)) = b := by
    rw [hb]
    by_cases hh : 64 < n <;> simp [hh] <;> omega
  have HV := Lib.hid (show R = via (fun l => andP (exsP n l) fun z r => .ok (mk ([] ++ z), r)) (badT 3 b st1) from by
    rw [HRR.out, hb, show fieldP 108 (⟨kind, src, dst, ⟨ce, cr⟩, ⟨mf, ms, mt, mv, md, my⟩, stamp, sent, got, horizon, whom, seq, members, ⟨pe, pr⟩, epoch, []⟩ : Pk) = (fun l => andP (numP 1 l) fun n r => if 64 < n then .error 3 else andP (exsP n r) fun z r => .ok (mk ([] ++ z), r)) from by rw [HMK.out]; rfl]
    rw [via_and hvia]
    exact via_test)
  have HSM := Lib.hid (show ∀ l, badT 3 b st1 = .ok l → n ≤ 64 from fun l hl => by
    have h1 := (badT_ok hl).1
    rw [hb] at h1
    simpa using h1)
  have HBA := Lib.hid (tbad_any g s (m + 8) st1 3 b w2 hT (by decide))
  have H0_2 : Hid (w2.heap[w.heap.size]? = some (.cells c 73 (0, 0))) := Lib.hid ((ho.block w.heap.size (by omega) (by simpa using n0)).trans H0_1.out)
  have H1_2 : Hid (w2.heap[w.heap.size + 1]? = some (.cells #[.int .i64 0, .int .i64 0, .int .i64 0, .int .u64 0, .int .i64 0, .int .i64 0, .int .u32 0, .int .u64 0, .int .i64 0, .slice none 0 0, .string ⟨#[]⟩, .int .u64 0, .int .u32 0, .slice none 0 0, .int .u64 0, .int .i64 0, .int .u32 0, .int .u64 0, .int .u64 0, .int .i64 0, .int .u64 0, .slice none 0 0] 73 (0, 0))) := Lib.hid ((ho.block (w.heap.size + 1) (by omega) (by simpa using n1)).trans H1_1.out)
  have HO2 := Lib.hid (HO1.out.trans ho)
  clear hvia HNM ho hT hb H0_1 H1_1 HO1 HT1 HRR
  go_wp2_with fail
  refine HBA.out.mono ?_
  rintro e w3 ⟨rfl, hT3, ho3⟩
  have H0_3 : Hid (w3.heap[w.heap.size]? = some (.cells #[.int .i64 kind, .int .i64 src, .int .i64 dst, .int .u64 (ce : Int), .int .i64 cr, .int .i64 mf, .int .u32 (ms : Int), .int .u64 (mt : Int), .int .i64 mv, .slice Am md.length cm, .string my, .int .u64 (stamp : Int), .int .u32 (sent : Int), .slice Ag got.length cg, .int .u64 (horizon : Int), .int .i64 whom, .int .u32 (seq : Int), .int .u64 (members : Int), .int .u64 (pe : Int), .int .i64 pr, .int .u64 (epoch : Int), .slice none 0 0] 73 (0, 0))) := Lib.hid ((ho3.block w.heap.size (blk_lt H0_2.out) (by simpa using n0)).trans (H0_2.out.trans (by rw [HC.out])))
  have H1_3 : Hid (w3.heap[w.heap.size + 1]? = some (.cells #[.int .i64 0, .int .i64 0, .int .i64 0, .int .u64 0, .int .i64 0, .int .i64 0, .int .u32 0, .int .u64 0, .int .i64 0, .slice none 0 0, .string ⟨#[]⟩, .int .u64 0, .int .u32 0, .slice none 0 0, .int .u64 0, .int .i64 0, .int .u32 0, .int .u64 0, .int .u64 0, .int .i64 0, .int .u64 0, .slice none 0 0] 73 (0, 0))) := Lib.hid ((ho3.block (w.heap.size + 1) (blk_lt H1_2.out) (by simpa using n1)).trans H1_2.out)
  have HO3 := Lib.hid (HO2.out.trans ho3)
  have HT3 := Lib.hid hT3
  clear HBA hT3 ho3 H0_2 H1_2 HO2 hdd HW1 HC
  generalize badT 3 b st1 = st2 at *
  go_wp2_with fail
  obtain ⟨K1, hK1⟩ : ∃ K, K = w.heap.size + 1 := ⟨_, rfl⟩
  obtain ⟨K0, hK0⟩ : ∃ K, K = w.heap.size := ⟨_, rfl⟩
  rw [← hK1] at H1_3
  rw [← hK0] at H0_3
  have hBK0 : K0 < B1 := by omega
  have hBK1 : K1 < B1 := by omega
  have hgB1 : g < B1 := by omega
  have hBw : w.heap.size ≤ B1 := by omega
  have n0' : K0 ≠ g := by omega
  have n1' : K1 ≠ g := by omega
  have n01 : K1 ≠ K0 := by omega
  have hwK0 : w.heap.size ≤ K0 := by omega
  have hwK1 : w.heap.size ≤ K1 := by omega
  have hB1K : B1 = K1 + 1 := by omega
  rw [← hK1, ← hK0]
  have HQS := Lib.hid hK0
  clear hK0 hK1 hsz hg n0 n1 hB1
  go_loopw [9] (fun i wr => ∃ (k : Nat) (xs : List Ex) (st' : St) (A : Option Addr) (cx : Nat), k ≤ n ∧ k ≤ 64 ∧ xs.length = k ∧ i = .int .i64 k ∧ Hid (R = via (fun l => andP (exsP (n - k) l) fun z r => .ok (mk (xs ++ z), r)) st') ∧ Hid (∀ l, st' = .ok l → n ≤ 64) ∧ Hid (XOwn wr B1 (.slice A k cx) xs) ∧ Hid (Tk wr g s (m + 8 + 2120 * k) st') ∧ Hid (Only g w wr) ∧ Hid (wr.heap[K0]? = some (.cells #[.int .i64 kind, .int .i64 src, .int .i64 dst, .int .u64 (ce : Int), .int .i64 cr, .int .i64 mf, .int .u32 (ms : Int), .int .u64 (mt : Int), .int .i64 mv, .slice Am md.length cm, .string my, .int .u64 (stamp : Int), .int .u32 (sent : Int), .slice Ag got.length cg, .int .u64 (horizon : Int), .int .i64 whom, .int .u32 (seq : Int), .int .u64 (members : Int), .int .u64 (pe : Int), .int .i64 pr, .int .u64 (epoch : Int), .slice A k cx] 73 (0, 0))) ∧ Hid (wr.heap[K1]? = some (.cells #[.int .i64 0, .int .i64 0, .int .i64 0, .int .u64 0, .int .i64 0, .int .i64 0, .int .u32 0, .int .u64 0, .int .i64 0, .slice none 0 0, .string ⟨#[]⟩, .int .u64 0, .int .u32 0, .slice none 0 0, .int .u64 0, .int .i64 0, .int .u32 0, .int .u64 0, .int .u64 0, .int .i64 0, .int .u64 0, .slice none 0 0] 73 (0, 0)))) (fun i _ => n - (intOf i).toNat)
  case atStart => exact ⟨0, [], st2, none, 0, by omega, by omega, rfl, rfl, HV, HSM, XOwn.nil _ _, HT3, HO3, H0_3, H1_3⟩
  case round =>
    clear HT3 HO3 H0_3 H1_3 HV HSM
    obtain ⟨k, xs, st', A, cx, hk, hk64, hlen, rfl, HF, HSM, HX, HT, HO, HA, HZ⟩ := hrel
    by_cases hlt : k < n
    · have hdlt : decide ((k : Int) < (n : Int)) = true := by simp; omega
      cases st' with
      | error x =>
        obtain ⟨p, hb, hp, hx, hsm⟩ := HT.out
        have k2 := cell_of_row _ _ 2 _ _ _ hb
        simp at k2
        have hdx : decide (x = 0) = false := by simpa using hx
        clear hb
        have RA := HA.out
        have RB := HZ.out
        have mk1 := True.intro
        go_wp2_with (first | (clear mk1; refine wpList_load_row rfl 73 (.tmp 5) rfl K0 (by simp [Act.eval, Act.put]) 73 #[.int .i64 kind, .int .i64 src, .int .i64 dst, .int .u64 (ce : Int), .int .i64 cr, .int .i64 mf, .int .u32 (ms : Int), .int .u64 (mt : Int), .int .i64 mv, .slice Am md.length cm, .string my, .int .u64 (stamp : Int), .int .u32 (sent : Int), .slice Ag got.length cg, .int .u64 (horizon : Int), .int .i64 whom, .int .u32 (seq : Int), .int .u64 (members : Int), .int .u64 (pe : Int), .int .i64 pr, .int .u64 (epoch : Int), .slice A k cx] (0, 0) _ RA Try.underlying73 rfl info73 ?_; have mk2 := True.intro) | (clear mk2; refine wpList_store_row rfl 73 (.tmp 6) (.tmp 110) rfl K1 #[.int .i64 kind, .int .i64 src, .int .i64 dst, .int .u64 (ce : Int), .int .i64 cr, .int .i64 mf, .int .u32 (ms : Int), .int .u64 (mt : Int), .int .i64 mv, .slice Am md.length cm, .string my, .int .u64 (stamp : Int), .int .u32 (sent : Int), .slice Ag got.length cg, .int .u64 (horizon : Int), .int .i64 whom, .int .u32 (seq : Int), .int .u64 (members : Int), .int .u64 (pe : Int), .int .i64 pr, .int .u64 (epoch : Int), .slice A k cx] (by simp [Act.eval, Act.put]) (by simp [Act.eval, Act.put]) 73 #[.int .i64 0, .int .i64 0, .int .i64 0, .int .u64 0, .int .i64 0, .int .i64 0, .int .u32 0, .int .u64 0, .int .i64 0, .slice none 0 0, .string ⟨#[]⟩, .int .u64 0, .int .u32 0, .slice none 0 0, .int .u64 0, .int .i64 0, .int .u32 0, .int .u64 0, .int .u64 0, .int .i64 0, .int .u64 0, .slice none 0 0] RB info73 rfl (by kernel_rfl) ?_))
        have hf := setRow_heap wr K1 #[.int .i64 0, .int .i64 0, .int .i64 0, .int .u64 0, .int .i64 0, .int .i64 0, .int .u32 0, .int .u64 0, .int .i64 0, .slice none 0 0, .string ⟨#[]⟩, .int .u64 0, .int .u32 0, .slice none 0 0, .int .u64 0, .int .i64 0, .int .u32 0, .int .u64 0, .int .u64 0, .int .i64 0, .int .u64 0, .slice none 0 0] #[.int .i64 kind, .int .i64 src, .int .i64 dst, .int .u64 (ce : Int), .int .i64 cr, .int .i64 mf, .int .u32 (ms : Int), .int .u64 (mt : Int), .int .i64 mv, .slice Am md.length cm, .string my, .int .u64 (stamp : Int), .int .u32 (sent : Int), .slice Ag got.length cg, .int .u64 (horizon : Int), .int .i64 whom, .int .u32 (seq : Int), .int .u64 (members : Int), .int .u64 (pe : Int), .int .i64 pr, .int .u64 (epoch : Int), .slice A k cx] 73 (0, 0) RB
        have hO := only_setRow (k := K1) HO.out (by omega) #[.int .i64 kind, .int .i64 src, .int .i64 dst, .int .u64 (ce : Int), .int .i64 cr, .int .i64 mf, .int .u32 (ms : Int), .int .u64 (mt : Int), .int .i64 mv, .slice Am md.length cm, .string my, .int .u64 (stamp : Int), .int .u32 (sent : Int), .slice Ag got.length cg, .int .u64 (horizon : Int), .int .i64 whom, .int .u32 (seq : Int), .int .u64 (members : Int), .int .u64 (pe : Int), .int .i64 pr, .int .u64 (epoch : Int), .slice A k cx]
        refine bodyPost_ret (v := .agg #[.int .i64 kind, .int .i64 src, .int .i64 dst, .int .u64 (ce : Int), .int .i64 cr, .int .i64 mf, .int .u32 (ms : Int), .int .u64 (mt : Int), .int .i64 mv, .slice Am md.length cm, .string my, .int .u64 (stamp : Int), .int .u32 (sent : Int), .slice Ag got.length cg, .int .u64 (horizon : Int), .int .i64 whom, .int .u32 (seq : Int), .int .u64 (members : Int), .int .u64 (pe : Int), .int .i64 pr, .int .u64 (epoch : Int), .slice A k cx]) (results_cell_row Try.results71 _ _ _ _ _ _ _ (by simp [Act.put]) hf Try.underlying73 rfl info73) rfl ?_
        subst hlen
        refine ⟨⟨kind, src, dst, ⟨ce, cr⟩, ⟨mf, ms, mt, mv, md, my⟩, stamp, sent, got, horizon, whom, seq, members, ⟨pe, pr⟩, epoch, xs⟩, Am, cm, Ag, cg, A, cx, _, rfl, ⟨own_keep_only R1.out hO hgB, own_keep_only R2.out hO hgB, XOwn.low (XOwn.setRow HX.out (by omega) _) (by omega)⟩, ?_, (tk_setRow HT.out n1' _).mono (by omega), hO, fun _ h => by cases h⟩
        rw [HF.out]
        rfl
      | ok l =>
        have hn64 := HSM.out l rfl
        obtain ⟨p, hb, hp, hpl, hsm⟩ := HT.out
        have k2 := cell_of_row _ _ 2 _ _ _ hb
        simp at k2
        clear hb hpl hp
        go_wp2_with fail
        clear k2
        have HA21 : Hid (wr.drew.heap[K0]? = _) := HA
        have HZ21 : Hid (wr.drew.heap[K1]? = _) := HZ
        have HT21 : Hid (Tk wr.drew g s (m + 8 + 2120 * k) (.ok l)) := HT
        have HO21 := Lib.hid HO.out.drew
        have HX21 : Hid (XOwn wr.drew B1 (.slice A k cx) xs) := HX
        refine wp_region_held_drew (S := fun _ => True) (by kernel_rfl) trivial (fun hHeld => ?_)
        clear HA HZ HT HO HX
        generalize wr.drew = w21 at *
        refine wpAnyH_take (i := 0) (v := .pointer (some ⟨K0, 21, none⟩)) rfl (by kernel_rfl) (by kernel_rfl) (by kernel_rfl) (fun _ _ _ h => h) (Or.inl ⟨by rfl, ?_⟩) (by assumption) ?_
        · intro w hSw; (try dsimp only at hSw); go_simp
        simp only [Act.put, List.setIfInBounds_toArray, List.set_cons_zero, List.set_cons_succ]
        refine wpAnyH_take (i := 2) (v := .pointer (some ⟨g, 0, none⟩)) rfl (by kernel_rfl) (by kernel_rfl) (by kernel_rfl) (fun _ _ _ h => h) (Or.inl ⟨by rfl, ?_⟩) (by assumption) ?_
        · intro w hSw; (try dsimp only at hSw); go_simp
        simp only [Act.put, List.setIfInBounds_toArray, List.set_cons_zero, List.set_cons_succ]
        refine wpAnyH_ready (rs := [1, 3]) (by kernel_rfl) (by simp) ?_
        refine AllReadyH.cons rfl (fun K hK => ?_) (AllReadyH.cons rfl (fun K hK => ?_) AllReadyH.nil)
        · have x21 : w21.cell? ⟨K0, 21, none⟩ = some (.slice A k cx) := cell_of_row _ _ 21 _ _ _ HA21.out
          go_simp
          clear x21 hHeld
          refine hK.out _ _ trivial (fun hHeld => ?_)
          clear hK K
          refine wpAnyH_ready (rs := [3]) (by kernel_rfl) (by simp) ?_
          refine AllReadyH.cons rfl (fun K hK => ?_) AllReadyH.nil
          go_simp
          refine (tex g s (m + 8 + 2120 * k) _ w21 HT21.out hs (by omega)).mono ?_
          clear hHeld
          rintro e w22 ⟨⟨xw, ⟨xe, xr⟩, xc, ⟨ks, kf⟩⟩, Ac, cc, st3, rfl, hown, hvia, hT, ho⟩
          dsimp only at hown
          have hlt1 := blk_lt HZ21.out
          have HN22 := Lib.hid (own_low_any hown (show B1 ≤ w21.heap.size by omega))
          have HA22 := Lib.hid ((ho.block K0 (blk_lt HA21.out) (by simpa using n0')).trans HA21.out)
          have HZ22 := Lib.hid ((ho.block K1 (blk_lt HZ21.out) (by simpa using n1')).trans HZ21.out)
          have HO22 := Lib.hid (HO21.out.trans ho)
          have HT22 := Lib.hid hT
          have HX22 := Lib.hid (XOwn.keep_only HX21.out ho hgB1)
          have HVX := Lib.hid hvia
          clear HA21 HZ21 HO21 ho hT HT21 HX21 hown hvia hlt1
          unfold exV
          refine hK.out _ _ trivial (fun hHeld => ?_)
          clear hK K
          refine wpAnyH_ready (rs := [4]) (by kernel_rfl) (by simp) ?_
          refine AllReadyH.cons rfl (fun K hK => ?_) AllReadyH.nil
          go_simp
          have hlt1 := blk_lt HZ22.out
          have HK := Lib.hid (heap_alloc_new w22 (.cells #[.int .i64 xw, .int .u64 (xe : Int), .int .i64 xr, .slice Ac xc.length cc, .int .u64 (ks : Int), .int .i64 kf] 86))
          have hba := below_alloc (Below.refl w22.heap.size w22) (.cells #[.int .i64 xw, .int .u64 (xe : Int), .int .i64 xr, .slice Ac xc.length cc, .int .u64 (ks : Int), .int .i64 kf] 86)
          have HX23 := Lib.hid (HX22.out.kept_below hba)
          have HN23 := Lib.hid (HN22.out.alloc (.cells #[.int .i64 xw, .int .u64 (xe : Int), .int .i64 xr, .slice Ac xc.length cc, .int .u64 (ks : Int), .int .i64 kf] 86))
          have HA23 := Lib.hid ((hba.block K0 (blk_lt HA22.out)).trans HA22.out)
          have HZ23 := Lib.hid ((hba.block K1 (blk_lt HZ22.out)).trans HZ22.out)
          have HT23 := Lib.hid (HT22.out.kept hba)
          have HO23 := Lib.hid (HO22.out.trans (Only.of_below (g := g) hba))
          clear HX22 HN22 HA22 HZ22 HT22 HO22 hHeld hba hlt1
          refine hK.out _ _ trivial (fun hHeld => ?_)
          clear hK K
          generalize w22.heap.size = Kb at *
          generalize w22.alloc (.cells #[.int .i64 xw, .int .u64 (xe : Int), .int .i64 xr, .slice Ac xc.length cc, .int .u64 (ks : Int), .int .i64 kf] 86) = w23 at *
          refine wpAnyH_ready (rs := [5]) (by kernel_rfl) (by simp) ?_
          refine AllReadyH.cons rfl (fun K hK => ?_) AllReadyH.nil
          rw [if_pos (by rfl)]
          obtain ⟨rs, hq1, hq2, hq3⟩ := HX23.out
          rw [hlen] at hq1 hq2 hq3
          have hlt1 := blk_lt HZ23.out
          refine wp_append_own _ (.tmp 104) (.tmp 107) 71 rfl B1 86 i0 _ 6 64 Try.underlying71 hi hz0 hz1 hz2 rfl (by decide) (.slice A k cx) k (xcs xs rs) rfl hq2 ⟨Kb, 0, none⟩ 1 1 [.int .i64 xw, .int .u64 (xe : Int), .int .i64 xr, .slice Ac xc.length cc, .int .u64 (ks : Int), .int .i64 kf] rfl rfl (news_cells HK.out) ?c2 ?c3 ?c4 ?c5 ?_
          case c2 => intro u hu; simp only [List.mem_cons, List.not_mem_nil, or_false] at hu; rcases hu with rfl | rfl | rfl | rfl | rfl | rfl <;> rfl
          case c3 => unfold maxLen; omega
          case c4 => omega
          case c5 => omega
          intro v9 w24 hown hgrow _
          obtain ⟨A', c', rfl⟩ := own_form_any hown
          have hbase := fun q hq => own_base_any (k := q) hq2 hq
          have HX24 : Hid (XOwn w24 B1 (.slice A' (k + 1) c') (xs ++ [⟨xw, ⟨xe, xr⟩, xc, ⟨ks, kf⟩⟩])) := XOwn.grow (hq1.trans hlen.symm) (by rw [hlen]; exact hq2) (by rw [hlen]; exact hq3) HN23.out hgrow (by rw [hlen]; exact hown)
          have hn0 : some K0 ≠ (Value.slice A k cx).ownBlock := fun e => by have := hbase K0 e.symm; omega
          have hn1 : some K1 ≠ (Value.slice A k cx).ownBlock := fun e => by have := hbase K1 e.symm; omega
          have hng : some g ≠ (Value.slice A k cx).ownBlock := fun e => by have := hbase g e.symm; omega
          have HA24 := Lib.hid ((hgrow.block K0 (blk_lt HA23.out) hn0).trans HA23.out)
          have HZ24 := Lib.hid ((hgrow.block K1 (blk_lt HZ23.out) hn1).trans HZ23.out)
          have HT24 := Lib.hid (HT23.out.of_blk (hgrow.block g HT23.out.lt hng))
          have HO24 := Lib.hid (HO23.out.rows hgrow (fun q hq => Nat.le_trans hBw (hbase q hq)))
          clear hown hgrow hq1 hq2 hq3 hbase hn0 hn1 hng HK HX23 HN23 HA23 HZ23 HT23 HO23 hHeld hlt1
          refine hK.out _ _ trivial (fun hHeld => ?_)
          clear hK K
          refine wpAnyH_take (i := 6) (v := .pointer (some ⟨K0, 21, none⟩)) rfl (by kernel_rfl) (by kernel_rfl) (by kernel_rfl) (fun _ _ _ h => h) (Or.inl ⟨by rfl, ?_⟩) (by assumption) ?_
          · intro w hSw; (try dsimp only at hSw); go_simp
          simp only [Act.put, List.setIfInBounds_toArray, List.set_cons_zero, List.set_cons_succ]
          have k21 : w24.cell? ⟨K0, 21, none⟩ = some (.slice A k cx) := cell_of_row _ _ 21 _ _ _ HA24.out
          have f21 : w24.frozen? ⟨K0, 21, none⟩ = false := by simp [World.frozen?, HA24.out]
          have HA25 : Hid ((w24.setCell ⟨K0, 21, none⟩ (.slice A' (k + 1) c')).heap[K0]? = some (.cells #[.int .i64 kind, .int .i64 src, .int .i64 dst, .int .u64 (ce : Int), .int .i64 cr, .int .i64 mf, .int .u32 (ms : Int), .int .u64 (mt : Int), .int .i64 mv, .slice Am md.length cm, .string my, .int .u64 (stamp : Int), .int .u32 (sent : Int), .slice Ag got.length cg, .int .u64 (horizon : Int), .int .i64 whom, .int .u32 (seq : Int), .int .u64 (members : Int), .int .u64 (pe : Int), .int .i64 pr, .int .u64 (epoch : Int), (.slice A' (k + 1) c')] 73 (0, 0))) := (blk_setj HA24.out 21 (.slice A' (k + 1) c'))
          have HZ25 := Lib.hid ((Below.heap_setCell w24 ⟨K0, 21, none⟩ (.slice A' (k + 1) c') K1 n01).trans HZ24.out)
          have HT25 := Lib.hid (HT24.out.set n0' 21 (.slice A' (k + 1) c'))
          have HO25 := Lib.hid (HO24.out.fresh hwK0 21 (.slice A' (k + 1) c'))
          have HX25 := Lib.hid (XOwn.keep_set HX24.out hBK0 21 (.slice A' (k + 1) c'))
          clear HA24 HZ24 HT24 HO24 HX24
          refine wpAnyH_ready (rs := [7]) (by kernel_rfl) (by simp) ?_
          refine AllReadyH.cons rfl (fun K hK => ?_) AllReadyH.nil
          go_simp
          clear hHeld
          clear k21 f21
          generalize (w24.setCell ⟨K0, 21, none⟩ (.slice A' (k + 1) c')) = w25 at *
          refine hK.out _ _ trivial (fun hHeld => ?_)
          clear hK K
          refine wpAnyH_done (by kernel_rfl) ?_ _
          go_wp2_with fail
          go_roundw
          case rel => exact ⟨k + 1, xs ++ [⟨xw, ⟨xe, xr⟩, xc, ⟨ks, kf⟩⟩], st3, A', c', by omega, by omega, by simp [hlen], by go_num, Lib.hid (by rw [HF.out, show n - k = (n - (k + 1)) + 1 by omega]; exact exs_via mk HVX.out), Lib.hid (fun _ _ => hn64), HX25, Lib.hid (HT25.out.mono (by omega)), HO25, HA25, HZ25⟩
          case measure => simp [intOf]; omega
        · go_simp
          refine (tex g s (m + 8 + 2120 * k) _ w21 HT21.out hs (by omega)).mono ?_
          clear hHeld
          rintro e w22 ⟨⟨xw, ⟨xe, xr⟩, xc, ⟨ks, kf⟩⟩, Ac, cc, st3, rfl, hown, hvia, hT, ho⟩
          dsimp only at hown
          have hlt1 := blk_lt HZ21.out
          have HN22 := Lib.hid (own_low_any hown (show B1 ≤ w21.heap.size by omega))
          have HA22 := Lib.hid ((ho.block K0 (blk_lt HA21.out) (by simpa using n0')).trans HA21.out)
          have HZ22 := Lib.hid ((ho.block K1 (blk_lt HZ21.out) (by simpa using n1')).trans HZ21.out)
          have HO22 := Lib.hid (HO21.out.trans ho)
          have HT22 := Lib.hid hT
          have HX22 := Lib.hid (XOwn.keep_only HX21.out ho hgB1)
          have HVX := Lib.hid hvia
          clear HA21 HZ21 HO21 ho hT HT21 HX21 hown hvia hlt1
          unfold exV
          refine hK.out _ _ trivial (fun hHeld => ?_)
          clear hK K
          refine wpAnyH_ready (rs := [1, 4]) (by kernel_rfl) (by simp) ?_
          refine AllReadyH.cons rfl (fun K hK => ?_) (AllReadyH.cons rfl (fun K hK => ?_) AllReadyH.nil)
          · have x21 : w22.cell? ⟨K0, 21, none⟩ = some (.slice A k cx) := cell_of_row _ _ 21 _ _ _ HA22.out
            go_simp
            clear x21 hHeld
            refine hK.out _ _ trivial (fun hHeld => ?_)
            clear hK K
            refine wpAnyH_ready (rs := [4]) (by kernel_rfl) (by simp) ?_
            refine AllReadyH.cons rfl (fun K hK => ?_) AllReadyH.nil
            go_simp
            have hlt1 := blk_lt HZ22.out
            have HK := Lib.hid (heap_alloc_new w22 (.cells #[.int .i64 xw, .int .u64 (xe : Int), .int .i64 xr, .slice Ac xc.length cc, .int .u64 (ks : Int), .int .i64 kf] 86))
            have hba := below_alloc (Below.refl w22.heap.size w22) (.cells #[.int .i64 xw, .int .u64 (xe : Int), .int .i64 xr, .slice Ac xc.length cc, .int .u64 (ks : Int), .int .i64 kf] 86)
            have HX23 := Lib.hid (HX22.out.kept_below hba)
            have HN23 := Lib.hid (HN22.out.alloc (.cells #[.int .i64 xw, .int .u64 (xe : Int), .int .i64 xr, .slice Ac xc.length cc, .int .u64 (ks : Int), .int .i64 kf] 86))
            have HA23 := Lib.hid ((hba.block K0 (blk_lt HA22.out)).trans HA22.out)
            have HZ23 := Lib.hid ((hba.block K1 (blk_lt HZ22.out)).trans HZ22.out)
            have HT23 := Lib.hid (HT22.out.kept hba)
            have HO23 := Lib.hid (HO22.out.trans (Only.of_below (g := g) hba))
            clear HX22 HN22 HA22 HZ22 HT22 HO22 hHeld hba hlt1
            refine hK.out _ _ trivial (fun hHeld => ?_)
            clear hK K
            generalize w22.heap.size = Kb at *
            generalize w22.alloc (.cells #[.int .i64 xw, .int .u64 (xe : Int), .int .i64 xr, .slice Ac xc.length cc, .int .u64 (ks : Int), .int .i64 kf] 86) = w23 at *
            refine wpAnyH_ready (rs := [5]) (by kernel_rfl) (by simp) ?_
            refine AllReadyH.cons rfl (fun K hK => ?_) AllReadyH.nil
            rw [if_pos (by rfl)]
            obtain ⟨rs, hq1, hq2, hq3⟩ := HX23.out
            rw [hlen] at hq1 hq2 hq3
            have hlt1 := blk_lt HZ23.out
            refine wp_append_own _ (.tmp 104) (.tmp 107) 71 rfl B1 86 i0 _ 6 64 Try.underlying71 hi hz0 hz1 hz2 rfl (by decide) (.slice A k cx) k (xcs xs rs) rfl hq2 ⟨Kb, 0, none⟩ 1 1 [.int .i64 xw, .int .u64 (xe : Int), .int .i64 xr, .slice Ac xc.length cc, .int .u64 (ks : Int), .int .i64 kf] rfl rfl (news_cells HK.out) ?c2 ?c3 ?c4 ?c5 ?_
            case c2 => intro u hu; simp only [List.mem_cons, List.not_mem_nil, or_false] at hu; rcases hu with rfl | rfl | rfl | rfl | rfl | rfl <;> rfl
            case c3 => unfold maxLen; omega
            case c4 => omega
            case c5 => omega
            intro v9 w24 hown hgrow _
            obtain ⟨A', c', rfl⟩ := own_form_any hown
            have hbase := fun q hq => own_base_any (k := q) hq2 hq
            have HX24 : Hid (XOwn w24 B1 (.slice A' (k + 1) c') (xs ++ [⟨xw, ⟨xe, xr⟩, xc, ⟨ks, kf⟩⟩])) := XOwn.grow (hq1.trans hlen.symm) (by rw [hlen]; exact hq2) (by rw [hlen]; exact hq3) HN23.out hgrow (by rw [hlen]; exact hown)
            have hn0 : some K0 ≠ (Value.slice A k cx).ownBlock := fun e => by have := hbase K0 e.symm; omega
            have hn1 : some K1 ≠ (Value.slice A k cx).ownBlock := fun e => by have := hbase K1 e.symm; omega
            have hng : some g ≠ (Value.slice A k cx).ownBlock := fun e => by have := hbase g e.symm; omega
            have HA24 := Lib.hid ((hgrow.block K0 (blk_lt HA23.out) hn0).trans HA23.out)
            have HZ24 := Lib.hid ((hgrow.block K1 (blk_lt HZ23.out) hn1).trans HZ23.out)
            have HT24 := Lib.hid (HT23.out.of_blk (hgrow.block g HT23.out.lt hng))
            have HO24 := Lib.hid (HO23.out.rows hgrow (fun q hq => Nat.le_trans hBw (hbase q hq)))
            clear hown hgrow hq1 hq2 hq3 hbase hn0 hn1 hng HK HX23 HN23 HA23 HZ23 HT23 HO23 hHeld hlt1
            refine hK.out _ _ trivial (fun hHeld => ?_)
            clear hK K
            refine wpAnyH_take (i := 6) (v := .pointer (some ⟨K0, 21, none⟩)) rfl (by kernel_rfl) (by kernel_rfl) (by kernel_rfl) (fun _ _ _ h => h) (Or.inl ⟨by rfl, ?_⟩) (by assumption) ?_
            · intro w hSw; (try dsimp only at hSw); go_simp
            simp only [Act.put, List.setIfInBounds_toArray, List.set_cons_zero, List.set_cons_succ]
            have k21 : w24.cell? ⟨K0, 21, none⟩ = some (.slice A k cx) := cell_of_row _ _ 21 _ _ _ HA24.out
            have f21 : w24.frozen? ⟨K0, 21, none⟩ = false := by simp [World.frozen?, HA24.out]
            have HA25 : Hid ((w24.setCell ⟨K0, 21, none⟩ (.slice A' (k + 1) c')).heap[K0]? = some (.cells #[.int .i64 kind, .int .i64 src, .int .i64 dst, .int .u64 (ce : Int), .int .i64 cr, .int .i64 mf, .int .u32 (ms : Int), .int .u64 (mt : Int), .int .i64 mv, .slice Am md.length cm, .string my, .int .u64 (stamp : Int), .int .u32 (sent : Int), .slice Ag got.length cg, .int .u64 (horizon : Int), .int .i64 whom, .int .u32 (seq : Int), .int .u64 (members : Int), .int .u64 (pe : Int), .int .i64 pr, .int .u64 (epoch : Int), (.slice A' (k + 1) c')] 73 (0, 0))) := (blk_setj HA24.out 21 (.slice A' (k + 1) c'))
            have HZ25 := Lib.hid ((Below.heap_setCell w24 ⟨K0, 21, none⟩ (.slice A' (k + 1) c') K1 n01).trans HZ24.out)
            have HT25 := Lib.hid (HT24.out.set n0' 21 (.slice A' (k + 1) c'))
            have HO25 := Lib.hid (HO24.out.fresh hwK0 21 (.slice A' (k + 1) c'))
            have HX25 := Lib.hid (XOwn.keep_set HX24.out hBK0 21 (.slice A' (k + 1) c'))
            clear HA24 HZ24 HT24 HO24 HX24
            refine wpAnyH_ready (rs := [7]) (by kernel_rfl) (by simp) ?_
            refine AllReadyH.cons rfl (fun K hK => ?_) AllReadyH.nil
            go_simp
            clear hHeld
            clear k21 f21
            generalize (w24.setCell ⟨K0, 21, none⟩ (.slice A' (k + 1) c')) = w25 at *
            refine hK.out _ _ trivial (fun hHeld => ?_)
            clear hK K
            refine wpAnyH_done (by kernel_rfl) ?_ _
            go_wp2_with fail
            go_roundw
            case rel => exact ⟨k + 1, xs ++ [⟨xw, ⟨xe, xr⟩, xc, ⟨ks, kf⟩⟩], st3, A', c', by omega, by omega, by simp [hlen], by go_num, Lib.hid (by rw [HF.out, show n - k = (n - (k + 1)) + 1 by omega]; exact exs_via mk HVX.out), Lib.hid (fun _ _ => hn64), HX25, Lib.hid (HT25.out.mono (by omega)), HO25, HA25, HZ25⟩
            case measure => simp [intOf]; omega
          · go_simp
            have hlt1 := blk_lt HZ22.out
            have HK := Lib.hid (heap_alloc_new w22 (.cells #[.int .i64 xw, .int .u64 (xe : Int), .int .i64 xr, .slice Ac xc.length cc, .int .u64 (ks : Int), .int .i64 kf] 86))
            have hba := below_alloc (Below.refl w22.heap.size w22) (.cells #[.int .i64 xw, .int .u64 (xe : Int), .int .i64 xr, .slice Ac xc.length cc, .int .u64 (ks : Int), .int .i64 kf] 86)
            have HX23 := Lib.hid (HX22.out.kept_below hba)
            have HN23 := Lib.hid (HN22.out.alloc (.cells #[.int .i64 xw, .int .u64 (xe : Int), .int .i64 xr, .slice Ac xc.length cc, .int .u64 (ks : Int), .int .i64 kf] 86))
            have HA23 := Lib.hid ((hba.block K0 (blk_lt HA22.out)).trans HA22.out)
            have HZ23 := Lib.hid ((hba.block K1 (blk_lt HZ22.out)).trans HZ22.out)
            have HT23 := Lib.hid (HT22.out.kept hba)
            have HO23 := Lib.hid (HO22.out.trans (Only.of_below (g := g) hba))
            clear HX22 HN22 HA22 HZ22 HT22 HO22 hHeld hba hlt1
            refine hK.out _ _ trivial (fun hHeld => ?_)
            clear hK K
            generalize w22.heap.size = Kb at *
            generalize w22.alloc (.cells #[.int .i64 xw, .int .u64 (xe : Int), .int .i64 xr, .slice Ac xc.length cc, .int .u64 (ks : Int), .int .i64 kf] 86) = w23 at *
            refine wpAnyH_ready (rs := [1]) (by kernel_rfl) (by simp) ?_
            refine AllReadyH.cons rfl (fun K hK => ?_) AllReadyH.nil
            have x21 : w23.cell? ⟨K0, 21, none⟩ = some (.slice A k cx) := cell_of_row _ _ 21 _ _ _ HA23.out
            go_simp
            clear x21 hHeld
            refine hK.out _ _ trivial (fun hHeld => ?_)
            clear hK K
            refine wpAnyH_ready (rs := [5]) (by kernel_rfl) (by simp) ?_
            refine AllReadyH.cons rfl (fun K hK => ?_) AllReadyH.nil
            rw [if_pos (by rfl)]
            obtain ⟨rs, hq1, hq2, hq3⟩ := HX23.out
            rw [hlen] at hq1 hq2 hq3
            have hlt1 := blk_lt HZ23.out
            refine wp_append_own _ (.tmp 104) (.tmp 107) 71 rfl B1 86 i0 _ 6 64 Try.underlying71 hi hz0 hz1 hz2 rfl (by decide) (.slice A k cx) k (xcs xs rs) rfl hq2 ⟨Kb, 0, none⟩ 1 1 [.int .i64 xw, .int .u64 (xe : Int), .int .i64 xr, .slice Ac xc.length cc, .int .u64 (ks : Int), .int .i64 kf] rfl rfl (news_cells HK.out) ?c2 ?c3 ?c4 ?c5 ?_
            case c2 => intro u hu; simp only [List.mem_cons, List.not_mem_nil, or_false] at hu; rcases hu with rfl | rfl | rfl | rfl | rfl | rfl <;> rfl
            case c3 => unfold maxLen; omega
            case c4 => omega
            case c5 => omega
            intro v9 w24 hown hgrow _
            obtain ⟨A', c', rfl⟩ := own_form_any hown
            have hbase := fun q hq => own_base_any (k := q) hq2 hq
            have HX24 : Hid (XOwn w24 B1 (.slice A' (k + 1) c') (xs ++ [⟨xw, ⟨xe, xr⟩, xc, ⟨ks, kf⟩⟩])) := XOwn.grow (hq1.trans hlen.symm) (by rw [hlen]; exact hq2) (by rw [hlen]; exact hq3) HN23.out hgrow (by rw [hlen]; exact hown)
            have hn0 : some K0 ≠ (Value.slice A k cx).ownBlock := fun e => by have := hbase K0 e.symm; omega
            have hn1 : some K1 ≠ (Value.slice A k cx).ownBlock := fun e => by have := hbase K1 e.symm; omega
            have hng : some g ≠ (Value.slice A k cx).ownBlock := fun e => by have := hbase g e.symm; omega
            have HA24 := Lib.hid ((hgrow.block K0 (blk_lt HA23.out) hn0).trans HA23.out)
            have HZ24 := Lib.hid ((hgrow.block K1 (blk_lt HZ23.out) hn1).trans HZ23.out)
            have HT24 := Lib.hid (HT23.out.of_blk (hgrow.block g HT23.out.lt hng))
            have HO24 := Lib.hid (HO23.out.rows hgrow (fun q hq => Nat.le_trans hBw (hbase q hq)))
            clear hown hgrow hq1 hq2 hq3 hbase hn0 hn1 hng HK HX23 HN23 HA23 HZ23 HT23 HO23 hHeld hlt1
            refine hK.out _ _ trivial (fun hHeld => ?_)
            clear hK K
            refine wpAnyH_take (i := 6) (v := .pointer (some ⟨K0, 21, none⟩)) rfl (by kernel_rfl) (by kernel_rfl) (by kernel_rfl) (fun _ _ _ h => h) (Or.inl ⟨by rfl, ?_⟩) (by assumption) ?_
            · intro w hSw; (try dsimp only at hSw); go_simp
            simp only [Act.put, List.setIfInBounds_toArray, List.set_cons_zero, List.set_cons_succ]
            have k21 : w24.cell? ⟨K0, 21, none⟩ = some (.slice A k cx) := cell_of_row _ _ 21 _ _ _ HA24.out
            have f21 : w24.frozen? ⟨K0, 21, none⟩ = false := by simp [World.frozen?, HA24.out]
            have HA25 : Hid ((w24.setCell ⟨K0, 21, none⟩ (.slice A' (k + 1) c')).heap[K0]? = some (.cells #[.int .i64 kind, .int .i64 src, .int .i64 dst, .int .u64 (ce : Int), .int .i64 cr, .int .i64 mf, .int .u32 (ms : Int), .int .u64 (mt : Int), .int .i64 mv, .slice Am md.length cm, .string my, .int .u64 (stamp : Int), .int .u32 (sent : Int), .slice Ag got.length cg, .int .u64 (horizon : Int), .int .i64 whom, .int .u32 (seq : Int), .int .u64 (members : Int), .int .u64 (pe : Int), .int .i64 pr, .int .u64 (epoch : Int), (.slice A' (k + 1) c')] 73 (0, 0))) := (blk_setj HA24.out 21 (.slice A' (k + 1) c'))
            have HZ25 := Lib.hid ((Below.heap_setCell w24 ⟨K0, 21, none⟩ (.slice A' (k + 1) c') K1 n01).trans HZ24.out)
            have HT25 := Lib.hid (HT24.out.set n0' 21 (.slice A' (k + 1) c'))
            have HO25 := Lib.hid (HO24.out.fresh hwK0 21 (.slice A' (k + 1) c'))
            have HX25 := Lib.hid (XOwn.keep_set HX24.out hBK0 21 (.slice A' (k + 1) c'))
            clear HA24 HZ24 HT24 HO24 HX24
            refine wpAnyH_ready (rs := [7]) (by kernel_rfl) (by simp) ?_
            refine AllReadyH.cons rfl (fun K hK => ?_) AllReadyH.nil
            go_simp
            clear hHeld
            clear k21 f21
            generalize (w24.setCell ⟨K0, 21, none⟩ (.slice A' (k + 1) c')) = w25 at *
            refine hK.out _ _ trivial (fun hHeld => ?_)
            clear hK K
            refine wpAnyH_done (by kernel_rfl) ?_ _
            go_wp2_with fail
            go_roundw
            case rel => exact ⟨k + 1, xs ++ [⟨xw, ⟨xe, xr⟩, xc, ⟨ks, kf⟩⟩], st3, A', c', by omega, by omega, by simp [hlen], by go_num, Lib.hid (by rw [HF.out, show n - k = (n - (k + 1)) + 1 by omega]; exact exs_via mk HVX.out), Lib.hid (fun _ _ => hn64), HX25, Lib.hid (HT25.out.mono (by omega)), HO25, HA25, HZ25⟩
            case measure => simp [intOf]; omega
    · obtain rfl : k = n := by omega
      have hdlt : decide ((k : Int) < (k : Int)) = false := by simp
      have RA := HA.out
      have RB := HZ.out
      have mk1 := True.intro
      go_wp2_with (first | (clear mk1; refine wpList_load_row rfl 73 (.tmp 5) rfl K0 (by simp [Act.eval, Act.put]) 73 #[.int .i64 kind, .int .i64 src, .int .i64 dst, .int .u64 (ce : Int), .int .i64 cr, .int .i64 mf, .int .u32 (ms : Int), .int .u64 (mt : Int), .int .i64 mv, .slice Am md.length cm, .string my, .int .u64 (stamp : Int), .int .u32 (sent : Int), .slice Ag got.length cg, .int .u64 (horizon : Int), .int .i64 whom, .int .u32 (seq : Int), .int .u64 (members : Int), .int .u64 (pe : Int), .int .i64 pr, .int .u64 (epoch : Int), .slice A k cx] (0, 0) _ RA Try.underlying73 rfl info73 ?_; have mk2 := True.intro) | (clear mk2; refine wpList_store_row rfl 73 (.tmp 6) (.tmp 110) rfl K1 #[.int .i64 kind, .int .i64 src, .int .i64 dst, .int .u64 (ce : Int), .int .i64 cr, .int .i64 mf, .int .u32 (ms : Int), .int .u64 (mt : Int), .int .i64 mv, .slice Am md.length cm, .string my, .int .u64 (stamp : Int), .int .u32 (sent : Int), .slice Ag got.length cg, .int .u64 (horizon : Int), .int .i64 whom, .int .u32 (seq : Int), .int .u64 (members : Int), .int .u64 (pe : Int), .int .i64 pr, .int .u64 (epoch : Int), .slice A k cx] (by simp [Act.eval, Act.put]) (by simp [Act.eval, Act.put]) 73 #[.int .i64 0, .int .i64 0, .int .i64 0, .int .u64 0, .int .i64 0, .int .i64 0, .int .u32 0, .int .u64 0, .int .i64 0, .slice none 0 0, .string ⟨#[]⟩, .int .u64 0, .int .u32 0, .slice none 0 0, .int .u64 0, .int .i64 0, .int .u32 0, .int .u64 0, .int .u64 0, .int .i64 0, .int .u64 0, .slice none 0 0] RB info73 rfl (by kernel_rfl) ?_))
      have hf := setRow_heap wr K1 #[.int .i64 0, .int .i64 0, .int .i64 0, .int .u64 0, .int .i64 0, .int .i64 0, .int .u32 0, .int .u64 0, .int .i64 0, .slice none 0 0, .string ⟨#[]⟩, .int .u64 0, .int .u32 0, .slice none 0 0, .int .u64 0, .int .i64 0, .int .u32 0, .int .u64 0, .int .u64 0, .int .i64 0, .int .u64 0, .slice none 0 0] #[.int .i64 kind, .int .i64 src, .int .i64 dst, .int .u64 (ce : Int), .int .i64 cr, .int .i64 mf, .int .u32 (ms : Int), .int .u64 (mt : Int), .int .i64 mv, .slice Am md.length cm, .string my, .int .u64 (stamp : Int), .int .u32 (sent : Int), .slice Ag got.length cg, .int .u64 (horizon : Int), .int .i64 whom, .int .u32 (seq : Int), .int .u64 (members : Int), .int .u64 (pe : Int), .int .i64 pr, .int .u64 (epoch : Int), .slice A k cx] 73 (0, 0) RB
      have hO := only_setRow (k := K1) HO.out (by omega) #[.int .i64 kind, .int .i64 src, .int .i64 dst, .int .u64 (ce : Int), .int .i64 cr, .int .i64 mf, .int .u32 (ms : Int), .int .u64 (mt : Int), .int .i64 mv, .slice Am md.length cm, .string my, .int .u64 (stamp : Int), .int .u32 (sent : Int), .slice Ag got.length cg, .int .u64 (horizon : Int), .int .i64 whom, .int .u32 (seq : Int), .int .u64 (members : Int), .int .u64 (pe : Int), .int .i64 pr, .int .u64 (epoch : Int), .slice A k cx]
      refine bodyPost_ret (v := .agg #[.int .i64 kind, .int .i64 src, .int .i64 dst, .int .u64 (ce : Int), .int .i64 cr, .int .i64 mf, .int .u32 (ms : Int), .int .u64 (mt : Int), .int .i64 mv, .slice Am md.length cm, .string my, .int .u64 (stamp : Int), .int .u32 (sent : Int), .slice Ag got.length cg, .int .u64 (horizon : Int), .int .i64 whom, .int .u32 (seq : Int), .int .u64 (members : Int), .int .u64 (pe : Int), .int .i64 pr, .int .u64 (epoch : Int), .slice A k cx]) (results_cell_row Try.results71 _ _ _ _ _ _ _ (by simp [Act.put]) hf Try.underlying73 rfl info73) rfl ?_
      subst hlen
      refine ⟨⟨kind, src, dst, ⟨ce, cr⟩, ⟨mf, ms, mt, mv, md, my⟩, stamp, sent, got, horizon, whom, seq, members, ⟨pe, pr⟩, epoch, xs⟩, Am, cm, Ag, cg, A, cx, _, rfl, ⟨own_keep_only R1.out hO hgB, own_keep_only R2.out hO hgB, XOwn.low (XOwn.setRow HX.out (by omega) _) (by omega)⟩, ?_, (tk_setRow HT.out n1' _).mono (by omega), hO, fun _ h => by cases h⟩
      rw [HF.out, Nat.sub_self, HMK.out]
      exact exs_nil _
end Go.Proofs.Ythkfgjdbgnbjkaa
