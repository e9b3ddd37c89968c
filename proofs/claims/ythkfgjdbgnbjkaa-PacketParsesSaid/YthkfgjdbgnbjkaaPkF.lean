/- The walk of packet's writer: body, kind 7, other kinds, the join. (Printed by pkbody7.py.) -/
import Derived.Test.YthkfgjdbgnbjkaaPkE
namespace Go.Proofs.Ythkfgjdbgnbjkaa
open Go.RowKit
set_option linter.unusedSimpArgs false
set_option linter.unusedVariables false

theorem take_getD {l : List Ex} {k : Nat} (h : k < l.length) : l.take (k + 1) = l.take k ++ [l.getD k .zero] := by
  rw [List.take_succ_eq_append_getElem h]
  simp [List.getD, List.getElem?_eq_getElem h]
theorem split_getD {l : List Ex} {k : Nat} (h : k < l.length) : l = l.take k ++ l.getD k .zero :: l.drop (k + 1) := by
  have : l.getD k .zero = l[k] := by simp [List.getD, List.getElem?_eq_getElem h]
  rw [this, ← List.drop_eq_getElem_cons h]
  exact (List.take_append_drop k l).symm

set_option maxHeartbeats 3200000 in
set_option maxRecDepth 8000 in
theorem wbody7 (B g : Nat) (l : List UInt8) (p : Pk) (Am : Option Addr) (cm : Nat) (Ag : Option Addr) (cg : Nat) (Ax : Option Addr) (cx : Nat) (w : World) (h : WrAt w B g l) (hB : B ≤ w.heap.size) (hBg : B ≤ g) (hl : l.length ≤ 600000) (hf : p.fits)
    (hm : EverU g w Am p.m.deps) (hgo : EverU g w Ag p.got) (hx : EverX g w Ax p.x) (hk : p.kind = 7) :
    Calls Try.prog 78 #[.pointer (some ⟨g, 0, none⟩), pkV p Am cm Ag cg Ax cx] w (WOutB B g w l (bodyW p)) := by
  obtain ⟨kind, src, dst, ⟨ce, cr⟩, m, stamp, sent, got, horizon, whom, seq, members, ⟨pe, pr⟩, epoch, x⟩ := p
  have fce : U64 ce := hf.conf
  have fm : m.fits := hf.m
  have fstamp : U64 stamp := hf.stamp
  have fsent : sent < 4294967296 := hf.sent
  have fgot := Lib.hid (show ∀ v ∈ got, v < 4294967296 from hf.got)
  have fhor : U64 horizon := hf.horizon
  have fseq : seq < 4294967296 := hf.seq
  have fmem : U64 members := hf.members
  have fpe : U64 pe := hf.prom
  have fepoch : U64 epoch := hf.epoch
  have fx := Lib.hid (show ∀ e ∈ x, e.fits from hf.x)
  have ew1 : IntKind.u64.wrap (sent : Int) = (sent : Int) := by rw [IntKind.wrap_u64]; omega
  have ew2 : IntKind.u64.wrap (seq : Int) = (seq : Int) := by rw [IntKind.wrap_u64]; omega
  have hb0 : Below w.heap.size w (w.alloc (.cells #[.int .i64 kind, .int .i64 src, .int .i64 dst, .int .u64 (ce : Int), .int .i64 cr, .int .i64 m.src, .int .u32 (m.seq : Int), .int .u64 (m.stamp : Int), .int .i64 m.svc, .slice Am m.deps.length cm, .string m.pay, .int .u64 (stamp : Int), .int .u32 (sent : Int), .slice Ag got.length cg, .int .u64 (horizon : Int), .int .i64 whom, .int .u32 (seq : Int), .int .u64 (members : Int), .int .u64 (pe : Int), .int .i64 pr, .int .u64 (epoch : Int), .slice Ax x.length cx] 73)) := below_alloc (Below.refl _ _) _
  have h1 := h.kept hb0
  have hg : g < w.heap.size := h.lt
  have ho0 := Only.of_below (g := g) hb0
  have hA0 : (w.alloc (.cells #[.int .i64 kind, .int .i64 src, .int .i64 dst, .int .u64 (ce : Int), .int .i64 cr, .int .i64 m.src, .int .u32 (m.seq : Int), .int .u64 (m.stamp : Int), .int .i64 m.svc, .slice Am m.deps.length cm, .string m.pay, .int .u64 (stamp : Int), .int .u32 (sent : Int), .slice Ag got.length cg, .int .u64 (horizon : Int), .int .i64 whom, .int .u32 (seq : Int), .int .u64 (members : Int), .int .u64 (pe : Int), .int .i64 pr, .int .u64 (epoch : Int), .slice Ax x.length cx] 73)).heap[w.heap.size]? = some (.cells #[.int .i64 kind, .int .i64 src, .int .i64 dst, .int .u64 (ce : Int), .int .i64 cr, .int .i64 m.src, .int .u32 (m.seq : Int), .int .u64 (m.stamp : Int), .int .i64 m.svc, .slice Am m.deps.length cm, .string m.pay, .int .u64 (stamp : Int), .int .u32 (sent : Int), .slice Ag got.length cg, .int .u64 (horizon : Int), .int .i64 whom, .int .u32 (seq : Int), .int .u64 (members : Int), .int .u64 (pe : Int), .int .i64 pr, .int .u64 (epoch : Int), .slice Ax x.length cx] 73 (0, 0)) := heap_alloc_new w _
  have hD0 := Lib.hid (hm.on ho0)
  have hG0 := Lib.hid (hgo.on ho0)
  have hX0 := Lib.hid (hx.on ho0)
  unfold pkV
  clear h hm hgo hx hf hb0
  have H1 := Lib.hid (wconf_any B g l ⟨ce, cr⟩ _ h1 (by simp; omega) (by omega) fce)
  clear h1
  obtain rfl : kind = 7 := hk
  by_cases h64 : 64 < x.length
  · have hr : bodyW ⟨7, src, dst, ⟨ce, cr⟩, m, stamp, sent, got, horizon, whom, seq, members, ⟨pe, pr⟩, epoch, x⟩ = cat (confW ⟨ce, cr⟩) (.error 3) := by unfold bodyW restW; simp only [h64, if_true, if_false, reduceIte, show ¬ ((7 : Int) = 1) by decide, show ¬ ((7 : Int) = 2) by decide, show ¬ ((7 : Int) = 3) by decide, show ¬ ((7 : Int) = 8) by decide, show ¬ ((7 : Int) = 4) by decide, show ¬ ((7 : Int) = 5) by decide, show ¬ ((7 : Int) = 6) by decide, or_self]
    rw [hr]
    clear hr
    have hd : decide (64 < (x.length : Int)) = true := by simp; omega
    generalize hn : x.length = n at *
    have HLn := Lib.hid hn
    clear hn
    go_enter Try.func78, Try.ntmps78
    go_wp2_with fail
    refine H1.out.mono ?_
    cases hp1 : confW ⟨ce, cr⟩ with
    | error z =>
      rintro e w1 ⟨rfl, ho1⟩
      go_wp2_with fail
      exact ⟨rfl, rfl, (ho0.trans ho1).to_below hB hBg⟩
    | ok b1 =>
      rintro e w1 ⟨rfl, hw1, hoo1⟩
      have n1 := confW_len hp1
      have hb1 : w1.heap[w.heap.size]? = some (.cells #[.int .i64 7, .int .i64 src, .int .i64 dst, .int .u64 (ce : Int), .int .i64 cr, .int .i64 m.src, .int .u32 (m.seq : Int), .int .u64 (m.stamp : Int), .int .i64 m.svc, .slice Am m.deps.length cm, .string m.pay, .int .u64 (stamp : Int), .int .u32 (sent : Int), .slice Ag got.length cg, .int .u64 (horizon : Int), .int .i64 whom, .int .u32 (seq : Int), .int .u64 (members : Int), .int .u64 (pe : Int), .int .i64 pr, .int .u64 (epoch : Int), .slice Ax n cx] 73 (0, 0)) := (hoo1.block _ (by simp) (by simp; omega)).trans hA0
      have HDeps := hD0.out.on hoo1
      have HGot := hG0.out.on hoo1
      have HX := hX0.out.on hoo1
      have ho1 := ho0.trans hoo1
      have hHD := Lib.hid HDeps
      clear H1 hA0 hD0 hG0 hX0 hoo1 ho0
      have k0 : w1.cell? ⟨w.heap.size, 0, none⟩ = some (.int .i64 7) := cell_of_row _ _ 0 _ _ _ hb1
      have k17 : w1.cell? ⟨w.heap.size, 17, none⟩ = some (.int .u64 (members : Int)) := cell_of_row _ _ 17 _ _ _ hb1
      have k21 : w1.cell? ⟨w.heap.size, 21, none⟩ = some (.slice Ax n cx) := cell_of_row _ _ 21 _ _ _ hb1
      go_wp2_with fail
      refine (bad_yes _ _).mono ?_
      rintro e w2 ⟨rfl, rfl⟩
      go_wp2_with fail
      exact ⟨rfl, rfl, ho1.to_below hB hBg⟩
  · have hr : bodyW ⟨7, src, dst, ⟨ce, cr⟩, m, stamp, sent, got, horizon, whom, seq, members, ⟨pe, pr⟩, epoch, x⟩ = cat (confW ⟨ce, cr⟩) (cat (.ok (NumM.be 8 members ++ NumM.be 1 x.length)) (exsW x)) := by unfold bodyW restW; simp only [h64, if_true, if_false, reduceIte, show ¬ ((7 : Int) = 1) by decide, show ¬ ((7 : Int) = 2) by decide, show ¬ ((7 : Int) = 3) by decide, show ¬ ((7 : Int) = 8) by decide, show ¬ ((7 : Int) = 4) by decide, show ¬ ((7 : Int) = 5) by decide, show ¬ ((7 : Int) = 6) by decide, or_self]
    rw [hr]
    clear hr
    have hd : decide (64 < (x.length : Int)) = false := by simp; omega
    have h64b : x.length ≤ 64 := by omega
    generalize hn : x.length = n at *
    have HLn := Lib.hid hn
    clear hn
    go_enter Try.func78, Try.ntmps78
    go_wp2_with fail
    refine H1.out.mono ?_
    cases hp1 : confW ⟨ce, cr⟩ with
    | error z =>
      rintro e w1 ⟨rfl, ho1⟩
      go_wp2_with fail
      exact ⟨rfl, rfl, (ho0.trans ho1).to_below hB hBg⟩
    | ok b1 =>
      rintro e w1 ⟨rfl, hw1, hoo1⟩
      have n1 := confW_len hp1
      have hb1 : w1.heap[w.heap.size]? = some (.cells #[.int .i64 7, .int .i64 src, .int .i64 dst, .int .u64 (ce : Int), .int .i64 cr, .int .i64 m.src, .int .u32 (m.seq : Int), .int .u64 (m.stamp : Int), .int .i64 m.svc, .slice Am m.deps.length cm, .string m.pay, .int .u64 (stamp : Int), .int .u32 (sent : Int), .slice Ag got.length cg, .int .u64 (horizon : Int), .int .i64 whom, .int .u32 (seq : Int), .int .u64 (members : Int), .int .u64 (pe : Int), .int .i64 pr, .int .u64 (epoch : Int), .slice Ax n cx] 73 (0, 0)) := (hoo1.block _ (by simp) (by simp; omega)).trans hA0
      have HDeps := hD0.out.on hoo1
      have HGot := hG0.out.on hoo1
      have HX := hX0.out.on hoo1
      have ho1 := ho0.trans hoo1
      have hHD := Lib.hid HDeps
      clear H1 hA0 hD0 hG0 hX0 hoo1 ho0
      have k0 : w1.cell? ⟨w.heap.size, 0, none⟩ = some (.int .i64 7) := cell_of_row _ _ 0 _ _ _ hb1
      have k17 : w1.cell? ⟨w.heap.size, 17, none⟩ = some (.int .u64 (members : Int)) := cell_of_row _ _ 17 _ _ _ hb1
      have k21 : w1.cell? ⟨w.heap.size, 21, none⟩ = some (.slice Ax n cx) := cell_of_row _ _ 21 _ _ _ hb1
      have H2 := Lib.hid (wnum_any B g (l ++ b1) members 8 w1 hw1 (Nat.le_trans hB ho1.size) (by simp only [List.length_append]; omega) fmem (by omega))
      clear hw1
      go_wp2_with fail
      refine (bad_no _ _).mono ?_
      rintro e w2 ⟨rfl, rfl⟩
      go_wp2_with fail
      refine H2.out.mono ?_
      rintro e w2 ⟨rfl, hw2, hoo2⟩
      have q21 := hoo2.cell' k21 (by omega)
      have HX2 := Lib.hid (HX.on hoo2)
      have ho2 := ho1.trans hoo2
      clear k0 k17 k21 ho1 hoo2 HX H2 HDeps HGot hHD hb1
      have H3 := Lib.hid (wnum_any B g (l ++ b1 ++ NumM.be 8 members) n 1 w2 hw2 (Nat.le_trans hB ho2.size) (by simp only [List.length_append, NumM.be_length]; omega) (by unfold U64; omega) (by omega))
      clear hw2
      have ewn : IntKind.u64.wrap (n : Int) = (n : Int) := by rw [IntKind.wrap_u64]; omega
      go_wp2_with fail
      refine H3.out.mono ?_
      rintro e w3 ⟨rfl, hw3, hoo3⟩
      have r21 := hoo3.cell' q21 (by omega)
      have HX3 := Lib.hid (HX2.out.on hoo3)
      have ho3 := ho2.trans hoo3
      have HW3 := Lib.hid hw3
      clear q21 ho2 hoo3 HX2 H3 hw3 w2
      go_wp2_with fail
      clear r21
      go_loopw [102] (fun i wr => ∃ (k : Nat) (bk : List UInt8), k ≤ n ∧ i = .int .i64 k ∧ Hid (exsW (x.take k) = .ok bk) ∧ Hid (WrAt wr B g (l ++ b1 ++ NumM.be 8 members ++ NumM.be 1 n ++ bk)) ∧ Hid (Only g w3 wr)) (fun i _ => n - (intOf i).toNat)
      case atStart => exact ⟨0, [], by omega, rfl, rfl, by simpa using HW3, Only.refl _ _⟩
      case round =>
        clear HW3
        obtain ⟨k, bk, hk, rfl, HK, HW, HO⟩ := hrel
        have hlk := exsW_len HK.out
        have hln : (x.take k).length ≤ k := by rw [List.length_take]; omega
        by_cases hlt : k < n
        · have hkx : k < x.length := by rw [HLn.out]; exact hlt
          obtain ⟨ad, Ai, ci, rfl, hU, hcell⟩ := HX3.out k hkx
          obtain ⟨q0, q1, q2, q3, q4, q5⟩ := hcell wr HO.out
          have HT := Lib.hid (take_getD hkx)
          have HS := Lib.hid (split_getD hkx)
          have hmem : x.getD k .zero ∈ x := by
            simp only [List.getD, List.getElem?_eq_getElem hkx, Option.getD_some]
            exact List.getElem_mem _
          have hfit := fx.out _ hmem
          have hoA : Only g wr (wr.alloc (.cells #[.int .i64 (x.getD k .zero).who, .int .u64 ((x.getD k .zero).old.e : Int), .int .i64 (x.getD k .zero).old.r, .slice Ai (x.getD k .zero).cnt.length ci, .int .u64 ((x.getD k .zero).last.s : Int), .int .i64 (x.getD k .zero).last.f] 86)) := Only.of_below (below_alloc (Below.refl _ _) _)
          have hWA := HW.out.kept (below_alloc (Below.refl _ _) (.cells #[.int .i64 (x.getD k .zero).who, .int .u64 ((x.getD k .zero).old.e : Int), .int .i64 (x.getD k .zero).old.r, .slice Ai (x.getD k .zero).cnt.length ci, .int .u64 ((x.getD k .zero).last.s : Int), .int .i64 (x.getD k .zero).last.f] 86))
          have hsz := (ho3.trans HO.out).size
          have HE := Lib.hid (wex_any B g _ (x.getD k .zero) Ai ci _ hWA (by simp; omega) (by simp only [List.length_append, NumM.be_length]; omega) hfit ((hU.on HO.out).on hoA))
          unfold exV at HE
          have HOA := Lib.hid hoA
          clear hU hcell hmem hfit hWA hkx hoA
          generalize x.getD k .zero = y at *
          obtain ⟨who, ⟨oe, orr⟩, cnt, ⟨ls, lf⟩⟩ := y
          go_wp2_with fail
          refine HE.out.mono ?_
          cases hp4 : exW ⟨who, ⟨oe, orr⟩, cnt, ⟨ls, lf⟩⟩ with
          | error z =>
            rintro e w4 ⟨rfl, ho4⟩
            go_wp2_with fail
            rw [hp1, HS.out, exsW_bad HK.out hp4]
            exact ⟨rfl, rfl, (((ho3.trans HO.out).trans HOA.out).trans ho4).to_below hB hBg⟩
          | ok b4 =>
          rintro e w4 ⟨rfl, hw4, ho4⟩
          have HW4 := Lib.hid hw4
          have HO4 := Lib.hid ((HO.out.trans HOA.out).trans ho4)
          clear HE hw4 ho4
          go_wp2_with fail
          go_roundw
          case rel => exact ⟨k + 1, bk ++ b4, by omega, by go_num, by rw [HT.out]; exact exsW_snoc HK.out hp4, by rw [← List.append_assoc]; exact HW4, HO4⟩
          case measure => simp [intOf]; omega
        · obtain rfl : k = n := by omega
          have HE := Lib.hid (show x.take k = x from List.take_of_length_le (by rw [HLn.out]; omega))
          go_wp2_with fail
          go_end0
          have hk' := HK.out
          rw [HE.out] at hk'
          rw [hp1, hk']
          refine ⟨rfl, ?_, (ho3.trans HO.out).to_below hB hBg⟩
          simpa only [List.append_assoc, cat, List.append_nil] using HW.out

set_option maxHeartbeats 3200000 in
set_option maxRecDepth 8000 in
theorem wbodyN (B g : Nat) (l : List UInt8) (p : Pk) (Am : Option Addr) (cm : Nat) (Ag : Option Addr) (cg : Nat) (Ax : Option Addr) (cx : Nat) (w : World) (h : WrAt w B g l) (hB : B ≤ w.heap.size) (hBg : B ≤ g) (hl : l.length ≤ 600000) (hf : p.fits)
    (hm : EverU g w Am p.m.deps) (hgo : EverU g w Ag p.got) (hx : EverX g w Ax p.x) (hk : p.kind ≠ 1 ∧ p.kind ≠ 2 ∧ p.kind ≠ 3 ∧ p.kind ≠ 4 ∧ p.kind ≠ 5 ∧ p.kind ≠ 6 ∧ p.kind ≠ 7 ∧ p.kind ≠ 8 ∧ p.kind ≠ 9) :
    Calls Try.prog 78 #[.pointer (some ⟨g, 0, none⟩), pkV p Am cm Ag cg Ax cx] w (WOutB B g w l (bodyW p)) := by
  obtain ⟨kind, src, dst, ⟨ce, cr⟩, m, stamp, sent, got, horizon, whom, seq, members, ⟨pe, pr⟩, epoch, x⟩ := p
  have fce : U64 ce := hf.conf
  have fm : m.fits := hf.m
  have fstamp : U64 stamp := hf.stamp
  have fsent : sent < 4294967296 := hf.sent
  have fgot := Lib.hid (show ∀ v ∈ got, v < 4294967296 from hf.got)
  have fhor : U64 horizon := hf.horizon
  have fseq : seq < 4294967296 := hf.seq
  have fmem : U64 members := hf.members
  have fpe : U64 pe := hf.prom
  have fepoch : U64 epoch := hf.epoch
  have fx := Lib.hid (show ∀ e ∈ x, e.fits from hf.x)
  have ew1 : IntKind.u64.wrap (sent : Int) = (sent : Int) := by rw [IntKind.wrap_u64]; omega
  have ew2 : IntKind.u64.wrap (seq : Int) = (seq : Int) := by rw [IntKind.wrap_u64]; omega
  have hb0 : Below w.heap.size w (w.alloc (.cells #[.int .i64 kind, .int .i64 src, .int .i64 dst, .int .u64 (ce : Int), .int .i64 cr, .int .i64 m.src, .int .u32 (m.seq : Int), .int .u64 (m.stamp : Int), .int .i64 m.svc, .slice Am m.deps.length cm, .string m.pay, .int .u64 (stamp : Int), .int .u32 (sent : Int), .slice Ag got.length cg, .int .u64 (horizon : Int), .int .i64 whom, .int .u32 (seq : Int), .int .u64 (members : Int), .int .u64 (pe : Int), .int .i64 pr, .int .u64 (epoch : Int), .slice Ax x.length cx] 73)) := below_alloc (Below.refl _ _) _
  have h1 := h.kept hb0
  have hg : g < w.heap.size := h.lt
  have ho0 := Only.of_below (g := g) hb0
  have hA0 : (w.alloc (.cells #[.int .i64 kind, .int .i64 src, .int .i64 dst, .int .u64 (ce : Int), .int .i64 cr, .int .i64 m.src, .int .u32 (m.seq : Int), .int .u64 (m.stamp : Int), .int .i64 m.svc, .slice Am m.deps.length cm, .string m.pay, .int .u64 (stamp : Int), .int .u32 (sent : Int), .slice Ag got.length cg, .int .u64 (horizon : Int), .int .i64 whom, .int .u32 (seq : Int), .int .u64 (members : Int), .int .u64 (pe : Int), .int .i64 pr, .int .u64 (epoch : Int), .slice Ax x.length cx] 73)).heap[w.heap.size]? = some (.cells #[.int .i64 kind, .int .i64 src, .int .i64 dst, .int .u64 (ce : Int), .int .i64 cr, .int .i64 m.src, .int .u32 (m.seq : Int), .int .u64 (m.stamp : Int), .int .i64 m.svc, .slice Am m.deps.length cm, .string m.pay, .int .u64 (stamp : Int), .int .u32 (sent : Int), .slice Ag got.length cg, .int .u64 (horizon : Int), .int .i64 whom, .int .u32 (seq : Int), .int .u64 (members : Int), .int .u64 (pe : Int), .int .i64 pr, .int .u64 (epoch : Int), .slice Ax x.length cx] 73 (0, 0)) := heap_alloc_new w _
  have hD0 := Lib.hid (hm.on ho0)
  have hG0 := Lib.hid (hgo.on ho0)
  have hX0 := Lib.hid (hx.on ho0)
  unfold pkV
  clear h hm hgo hx hf hb0
  have H1 := Lib.hid (wconf_any B g l ⟨ce, cr⟩ _ h1 (by simp; omega) (by omega) fce)
  clear h1
  have hr : bodyW ⟨kind, src, dst, ⟨ce, cr⟩, m, stamp, sent, got, horizon, whom, seq, members, ⟨pe, pr⟩, epoch, x⟩ = cat (confW ⟨ce, cr⟩) (.ok []) := by
    unfold bodyW restW
    rw [if_neg hk.1, if_neg hk.2.1, if_neg (by simp only; intro h; rcases h with h | h; exact hk.2.2.1 h; exact hk.2.2.2.2.2.2.2.1 h), if_neg hk.2.2.2.1, if_neg hk.2.2.2.2.1, if_neg hk.2.2.2.2.2.1, if_neg hk.2.2.2.2.2.2.1, if_neg hk.2.2.2.2.2.2.2.2]
  rw [hr]
  clear hr
  have hne1 : (kind == (1 : Int)) = false := by have : kind ≠ 1 := hk.1; simpa using this
  have hne2 : (kind == (2 : Int)) = false := by have : kind ≠ 2 := hk.2.1; simpa using this
  have hne3 : (kind == (3 : Int)) = false := by have : kind ≠ 3 := hk.2.2.1; simpa using this
  have hne4 : (kind == (4 : Int)) = false := by have : kind ≠ 4 := hk.2.2.2.1; simpa using this
  have hne5 : (kind == (5 : Int)) = false := by have : kind ≠ 5 := hk.2.2.2.2.1; simpa using this
  have hne6 : (kind == (6 : Int)) = false := by have : kind ≠ 6 := hk.2.2.2.2.2.1; simpa using this
  have hne7 : (kind == (7 : Int)) = false := by have : kind ≠ 7 := hk.2.2.2.2.2.2.1; simpa using this
  have hne8 : (kind == (8 : Int)) = false := by have : kind ≠ 8 := hk.2.2.2.2.2.2.2.1; simpa using this
  have hne9 : (kind == (9 : Int)) = false := by have : kind ≠ 9 := hk.2.2.2.2.2.2.2.2; simpa using this
  go_enter Try.func78, Try.ntmps78
  go_wp2_with fail
  refine H1.out.mono ?_
  cases hp1 : confW ⟨ce, cr⟩ with
  | error z =>
    rintro e w1 ⟨rfl, ho1⟩
    go_wp2_with fail
    exact ⟨rfl, rfl, (ho0.trans ho1).to_below hB hBg⟩
  | ok b1 =>
    rintro e w1 ⟨rfl, hw1, hoo1⟩
    have n1 := confW_len hp1
    have hb1 : w1.heap[w.heap.size]? = some (.cells #[.int .i64 kind, .int .i64 src, .int .i64 dst, .int .u64 (ce : Int), .int .i64 cr, .int .i64 m.src, .int .u32 (m.seq : Int), .int .u64 (m.stamp : Int), .int .i64 m.svc, .slice Am m.deps.length cm, .string m.pay, .int .u64 (stamp : Int), .int .u32 (sent : Int), .slice Ag got.length cg, .int .u64 (horizon : Int), .int .i64 whom, .int .u32 (seq : Int), .int .u64 (members : Int), .int .u64 (pe : Int), .int .i64 pr, .int .u64 (epoch : Int), .slice Ax x.length cx] 73 (0, 0)) := (hoo1.block _ (by simp) (by simp; omega)).trans hA0
    have HDeps := hD0.out.on hoo1
    have HGot := hG0.out.on hoo1
    have HX := hX0.out.on hoo1
    have ho1 := ho0.trans hoo1
    have hHD := Lib.hid HDeps
    clear H1 hA0 hD0 hG0 hX0 hoo1 ho0
    have k0 : w1.cell? ⟨w.heap.size, 0, none⟩ = some (.int .i64 kind) := cell_of_row _ _ 0 _ _ _ hb1
    go_wp2_with fail
    go_end0
    rw [hp1]
    refine ⟨rfl, ?_, ho1.to_below hB hBg⟩
    simpa only [List.append_assoc, cat, List.append_nil] using hw1

theorem wbody_any (B g : Nat) (l : List UInt8) (p : Pk) (Am : Option Addr) (cm : Nat) (Ag : Option Addr) (cg : Nat) (Ax : Option Addr) (cx : Nat) (w : World) (h : WrAt w B g l) (hB : B ≤ w.heap.size) (hBg : B ≤ g) (hl : l.length ≤ 600000) (hf : p.fits)
    (hm : EverU g w Am p.m.deps) (hgo : EverU g w Ag p.got) (hx : EverX g w Ax p.x) :
    Calls Try.prog 78 #[.pointer (some ⟨g, 0, none⟩), pkV p Am cm Ag cg Ax cx] w (WOutB B g w l (bodyW p)) := by
  by_cases k1 : p.kind = 1
  · exact wbody1 B g l p Am cm Ag cg Ax cx w h hB hBg hl hf hm hgo hx k1
  by_cases k2 : p.kind = 2
  · exact wbody2 B g l p Am cm Ag cg Ax cx w h hB hBg hl hf hm hgo hx k2
  by_cases k3 : p.kind = 3
  · exact wbody3 B g l p Am cm Ag cg Ax cx w h hB hBg hl hf hm hgo hx k3
  by_cases k4 : p.kind = 4
  · exact wbody4 B g l p Am cm Ag cg Ax cx w h hB hBg hl hf hm hgo hx k4
  by_cases k5 : p.kind = 5
  · exact wbody5 B g l p Am cm Ag cg Ax cx w h hB hBg hl hf hm hgo hx k5
  by_cases k6 : p.kind = 6
  · exact wbody6 B g l p Am cm Ag cg Ax cx w h hB hBg hl hf hm hgo hx k6
  by_cases k7 : p.kind = 7
  · exact wbody7 B g l p Am cm Ag cg Ax cx w h hB hBg hl hf hm hgo hx k7
  by_cases k8 : p.kind = 8
  · exact wbody8 B g l p Am cm Ag cg Ax cx w h hB hBg hl hf hm hgo hx k8
  by_cases k9 : p.kind = 9
  · exact wbody9 B g l p Am cm Ag cg Ax cx w h hB hBg hl hf hm hgo hx k9
  exact wbodyN B g l p Am cm Ag cg Ax cx w h hB hBg hl hf hm hgo hx ⟨k1, k2, k3, k4, k5, k6, k7, k8, k9⟩
end Go.Proofs.Ythkfgjdbgnbjkaa
