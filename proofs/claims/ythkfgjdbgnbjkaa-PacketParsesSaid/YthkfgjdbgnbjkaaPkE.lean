/- The walk of packet's writer: body. (Printed by pkbody.py.) -/
import Derived.Test.YthkfgjdbgnbjkaaPkBase
namespace Go.Proofs.Ythkfgjdbgnbjkaa
open Go.RowKit
set_option linter.unusedSimpArgs false
set_option linter.unusedVariables false

/-- a packet's value; its rows lie at Am, Ag, Ax. -/
def pkV (p : Pk) (Am : Option Addr) (cm : Nat) (Ag : Option Addr) (cg : Nat) (Ax : Option Addr) (cx : Nat) : Value :=
  .agg #[.int .i64 p.kind, .int .i64 p.src, .int .i64 p.dst, .int .u64 (p.conf.e : Int), .int .i64 p.conf.r, .int .i64 p.m.src, .int .u32 (p.m.seq : Int), .int .u64 (p.m.stamp : Int), .int .i64 p.m.svc, .slice Am p.m.deps.length cm, .string p.m.pay, .int .u64 (p.stamp : Int), .int .u32 (p.sent : Int), .slice Ag p.got.length cg, .int .u64 (p.horizon : Int), .int .i64 p.whom, .int .u32 (p.seq : Int), .int .u64 (p.members : Int), .int .u64 (p.prom.e : Int), .int .i64 p.prom.r, .int .u64 (p.epoch : Int), .slice Ax p.x.length cx]
structure Pk.fits (p : Pk) : Prop where
  conf : U64 p.conf.e
  m : p.m.fits
  stamp : U64 p.stamp
  sent : p.sent < 4294967296
  got : ∀ v ∈ p.got, v < 4294967296
  horizon : U64 p.horizon
  seq : p.seq < 4294967296
  members : U64 p.members
  prom : U64 p.prom.e
  epoch : U64 p.epoch
  x : ∀ e ∈ p.x, e.fits

def Ex.zero : Ex := ⟨0, .zero, [], .zero⟩
/-- a row of exchanges, and their vectors: they stay, whatever is done to the writer. -/
def EverX (g : Nat) (w : World) (A : Option Addr) (l : List Ex) : Prop :=
  ∀ i, i < l.length → ∃ (ad : Addr) (Ai : Option Addr) (ci : Nat), A = some ad ∧ EverU g w Ai (l.getD i .zero).cnt ∧ ∀ w', Only g w w' →
    w'.cell? (ad.add (i * 6)) = some (.int .i64 (l.getD i .zero).who) ∧ w'.cell? ⟨(ad.add (i * 6)).block, (ad.add (i * 6)).off + 1, none⟩ = some (.int .u64 ((l.getD i .zero).old.e : Int)) ∧
    w'.cell? ⟨(ad.add (i * 6)).block, (ad.add (i * 6)).off + 2, none⟩ = some (.int .i64 (l.getD i .zero).old.r) ∧ w'.cell? ⟨(ad.add (i * 6)).block, (ad.add (i * 6)).off + 3, none⟩ = some (.slice Ai (l.getD i .zero).cnt.length ci) ∧
    w'.cell? ⟨(ad.add (i * 6)).block, (ad.add (i * 6)).off + 4, none⟩ = some (.int .u64 ((l.getD i .zero).last.s : Int)) ∧ w'.cell? ⟨(ad.add (i * 6)).block, (ad.add (i * 6)).off + 5, none⟩ = some (.int .i64 (l.getD i .zero).last.f)
theorem EverX.on {g : Nat} {w w1 : World} {A : Option Addr} {l : List Ex} (h : EverX g w A l) (ho : Only g w w1) : EverX g w1 A l := by
  intro i hi
  obtain ⟨ad, Ai, ci, hA, hu, hc⟩ := h i hi
  exact ⟨ad, Ai, ci, hA, hu.on ho, fun w' h' => hc w' (ho.trans h')⟩

theorem exsW_snoc {l : List Ex} {x : Ex} {a b : List UInt8} (h : exsW l = .ok a) (hx : exW x = .ok b) : exsW (l ++ [x]) = .ok (a ++ b) := by
  induction l generalizing a with
  | nil =>
    cases h
    simp only [List.nil_append, exsW, hx, cat, List.append_nil]
  | cons y l ih =>
    obtain ⟨c, d, h1, h2, rfl⟩ := cat_ok h
    rw [List.cons_append, exsW, h1, ih h2, cat, List.append_assoc]
theorem exsW_bad {l m : List Ex} {x : Ex} {a : List UInt8} {c : Int} (h : exsW l = .ok a) (hx : exW x = .error c) : exsW (l ++ x :: m) = .error c := by
  induction l generalizing a with
  | nil => simp only [List.nil_append, exsW, hx, cat]
  | cons y l ih =>
    obtain ⟨b, d, h1, h2, rfl⟩ := cat_ok h
    rw [List.cons_append, exsW, h1, ih h2, cat]
theorem exsW_len {l : List Ex} {a : List UInt8} (h : exsW l = .ok a) : a.length ≤ 276 * l.length := by
  induction l generalizing a with
  | nil => cases h; simp
  | cons y l ih =>
    obtain ⟨b, d, h1, h2, rfl⟩ := cat_ok h
    have := ih h2
    have := exW_len h1
    rw [List.length_append, List.length_cons]
    omega


set_option maxHeartbeats 3200000 in
set_option maxRecDepth 8000 in
theorem wbody1 (B g : Nat) (l : List UInt8) (p : Pk) (Am : Option Addr) (cm : Nat) (Ag : Option Addr) (cg : Nat) (Ax : Option Addr) (cx : Nat) (w : World) (h : WrAt w B g l) (hB : B ≤ w.heap.size) (hBg : B ≤ g) (hl : l.length ≤ 600000) (hf : p.fits)
    (hm : EverU g w Am p.m.deps) (hgo : EverU g w Ag p.got) (hx : EverX g w Ax p.x) (hk : p.kind = 1) :
    Calls Try.prog 78 #[.pointer (some ⟨g, 0, none⟩), pkV p Am cm Ag cg Ax cx] w (WOutB B g w l (bodyW p)) := by
  obtain ⟨kind, src, dst, ⟨ce, cr⟩, m, stamp, sent, got, horizon, whom, seq, members, ⟨pe, pr⟩, epoch, x⟩ := p
  have fce : U64 ce := hf.conf
  have fm : m.fits := hf.m
  have fstamp : U64 stamp := hf.stamp
  have fsent : sent < 4294967296 := hf.sent
  have fgot := Lib.hid (show ∀ v ∈ got, v < 4294967296 from hf.got)
  have fhor : U64 horizon := hf.horizon
  have fseq : seq < 4294967296 := hf.seq
  have fmem : U64 members := hf.members
  have fpe : U64 pe := hf.prom
  have fepoch : U64 epoch := hf.epoch
  have fx := Lib.hid (show ∀ e ∈ x, e.fits from hf.x)
  have ew1 : IntKind.u64.wrap (sent : Int) = (sent : Int) := by rw [IntKind.wrap_u64]; omega
  have ew2 : IntKind.u64.wrap (seq : Int) = (seq : Int) := by rw [IntKind.wrap_u64]; omega
  have hb0 : Below w.heap.size w (w.alloc (.cells #[.int .i64 kind, .int .i64 src, .int .i64 dst, .int .u64 (ce : Int), .int .i64 cr, .int .i64 m.src, .int .u32 (m.seq : Int), .int .u64 (m.stamp : Int), .int .i64 m.svc, .slice Am m.deps.length cm, .string m.pay, .int .u64 (stamp : Int), .int .u32 (sent : Int), .slice Ag got.length cg, .int .u64 (horizon : Int), .int .i64 whom, .int .u32 (seq : Int), .int .u64 (members : Int), .int .u64 (pe : Int), .int .i64 pr, .int .u64 (epoch : Int), .slice Ax x.length cx] 73)) := below_alloc (Below.refl _ _) _
  have h1 := h.kept hb0
  have hg : g < w.heap.size := h.lt
  have ho0 := Only.of_below (g := g) hb0
  have hA0 : (w.alloc (.cells #[.int .i64 kind, .int .i64 src, .int .i64 dst, .int .u64 (ce : Int), .int .i64 cr, .int .i64 m.src, .int .u32 (m.seq : Int), .int .u64 (m.stamp : Int), .int .i64 m.svc, .slice Am m.deps.length cm, .string m.pay, .int .u64 (stamp : Int), .int .u32 (sent : Int), .slice Ag got.length cg, .int .u64 (horizon : Int), .int .i64 whom, .int .u32 (seq : Int), .int .u64 (members : Int), .int .u64 (pe : Int), .int .i64 pr, .int .u64 (epoch : Int), .slice Ax x.length cx] 73)).heap[w.heap.size]? = some (.cells #[.int .i64 kind, .int .i64 src, .int .i64 dst, .int .u64 (ce : Int), .int .i64 cr, .int .i64 m.src, .int .u32 (m.seq : Int), .int .u64 (m.stamp : Int), .int .i64 m.svc, .slice Am m.deps.length cm, .string m.pay, .int .u64 (stamp : Int), .int .u32 (sent : Int), .slice Ag got.length cg, .int .u64 (horizon : Int), .int .i64 whom, .int .u32 (seq : Int), .int .u64 (members : Int), .int .u64 (pe : Int), .int .i64 pr, .int .u64 (epoch : Int), .slice Ax x.length cx] 73 (0, 0)) := heap_alloc_new w _
  have hD0 := Lib.hid (hm.on ho0)
  have hG0 := Lib.hid (hgo.on ho0)
  have hX0 := Lib.hid (hx.on ho0)
  unfold pkV
  clear h hm hgo hx hf hb0
  have H1 := Lib.hid (wconf_any B g l ⟨ce, cr⟩ _ h1 (by simp; omega) (by omega) fce)
  clear h1
  obtain rfl : kind = 1 := hk
  have hr : bodyW ⟨1, src, dst, ⟨ce, cr⟩, m, stamp, sent, got, horizon, whom, seq, members, ⟨pe, pr⟩, epoch, x⟩ = cat (confW ⟨ce, cr⟩) (msgW m) := rfl
  rw [hr]
  clear hr
  go_enter Try.func78, Try.ntmps78
  go_wp2_with fail
  refine H1.out.mono ?_
  cases hp1 : confW ⟨ce, cr⟩ with
  | error z =>
    rintro e w1 ⟨rfl, ho1⟩
    go_wp2_with fail
    exact ⟨rfl, rfl, (ho0.trans ho1).to_below hB hBg⟩
  | ok b1 =>
    rintro e w1 ⟨rfl, hw1, hoo1⟩
    have n1 := confW_len hp1
    have hb1 : w1.heap[w.heap.size]? = some (.cells #[.int .i64 1, .int .i64 src, .int .i64 dst, .int .u64 (ce : Int), .int .i64 cr, .int .i64 m.src, .int .u32 (m.seq : Int), .int .u64 (m.stamp : Int), .int .i64 m.svc, .slice Am m.deps.length cm, .string m.pay, .int .u64 (stamp : Int), .int .u32 (sent : Int), .slice Ag got.length cg, .int .u64 (horizon : Int), .int .i64 whom, .int .u32 (seq : Int), .int .u64 (members : Int), .int .u64 (pe : Int), .int .i64 pr, .int .u64 (epoch : Int), .slice Ax x.length cx] 73 (0, 0)) := (hoo1.block _ (by simp) (by simp; omega)).trans hA0
    have HDeps := hD0.out.on hoo1
    have HGot := hG0.out.on hoo1
    have HX := hX0.out.on hoo1
    have ho1 := ho0.trans hoo1
    have hHD := Lib.hid HDeps
    clear H1 hA0 hD0 hG0 hX0 hoo1 ho0
    have k0 : w1.cell? ⟨w.heap.size, 0, none⟩ = some (.int .i64 1) := cell_of_row _ _ 0 _ _ _ hb1
    have k5 : w1.cell? ⟨w.heap.size, 5, none⟩ = some (.int .i64 m.src) := cell_of_row _ _ 5 _ _ _ hb1
    have k6 : w1.cell? ⟨w.heap.size, 6, none⟩ = some (.int .u32 (m.seq : Int)) := cell_of_row _ _ 6 _ _ _ hb1
    have k7 : w1.cell? ⟨w.heap.size, 7, none⟩ = some (.int .u64 (m.stamp : Int)) := cell_of_row _ _ 7 _ _ _ hb1
    have k8 : w1.cell? ⟨w.heap.size, 8, none⟩ = some (.int .i64 m.svc) := cell_of_row _ _ 8 _ _ _ hb1
    have k9 : w1.cell? ⟨w.heap.size, 9, none⟩ = some (.slice Am m.deps.length cm) := cell_of_row _ _ 9 _ _ _ hb1
    have k10 : w1.cell? ⟨w.heap.size, 10, none⟩ = some (.string m.pay) := cell_of_row _ _ 10 _ _ _ hb1
    have HE1 := Lib.hid HDeps
    have H2 := Lib.hid (wmsg_any B g (l ++ b1) m Am cm w1 hw1 (Nat.le_trans hB ho1.size) hBg (by simp only [List.length_append, NumM.be_length]; omega) fm (HE1.out))
    clear hw1
    go_wp2_with fail
    refine H2.out.mono ?_
    cases hp2 : msgW m with
    | error z =>
      rintro e w2 ⟨rfl, hb2⟩
      go_wp2_with fail
      exact ⟨rfl, rfl, ((ho1.to_below hB hBg)).trans hb2⟩
    | ok b2 =>
    rintro e w2 ⟨rfl, hw2, hb2⟩
    clear H2
    go_wp2_with fail
    go_end0
    rw [hp1]
    rw [hp2]
    refine ⟨rfl, ?_, ((ho1.to_below hB hBg)).trans hb2⟩
    simpa only [List.append_assoc, cat, List.append_nil] using hw2

set_option maxHeartbeats 3200000 in
set_option maxRecDepth 8000 in
theorem wbody2 (B g : Nat) (l : List UInt8) (p : Pk) (Am : Option Addr) (cm : Nat) (Ag : Option Addr) (cg : Nat) (Ax : Option Addr) (cx : Nat) (w : World) (h : WrAt w B g l) (hB : B ≤ w.heap.size) (hBg : B ≤ g) (hl : l.length ≤ 600000) (hf : p.fits)
    (hm : EverU g w Am p.m.deps) (hgo : EverU g w Ag p.got) (hx : EverX g w Ax p.x) (hk : p.kind = 2) :
    Calls Try.prog 78 #[.pointer (some ⟨g, 0, none⟩), pkV p Am cm Ag cg Ax cx] w (WOutB B g w l (bodyW p)) := by
  obtain ⟨kind, src, dst, ⟨ce, cr⟩, m, stamp, sent, got, horizon, whom, seq, members, ⟨pe, pr⟩, epoch, x⟩ := p
  have fce : U64 ce := hf.conf
  have fm : m.fits := hf.m
  have fstamp : U64 stamp := hf.stamp
  have fsent : sent < 4294967296 := hf.sent
  have fgot := Lib.hid (show ∀ v ∈ got, v < 4294967296 from hf.got)
  have fhor : U64 horizon := hf.horizon
  have fseq : seq < 4294967296 := hf.seq
  have fmem : U64 members := hf.members
  have fpe : U64 pe := hf.prom
  have fepoch : U64 epoch := hf.epoch
  have fx := Lib.hid (show ∀ e ∈ x, e.fits from hf.x)
  have ew1 : IntKind.u64.wrap (sent : Int) = (sent : Int) := by rw [IntKind.wrap_u64]; omega
  have ew2 : IntKind.u64.wrap (seq : Int) = (seq : Int) := by rw [IntKind.wrap_u64]; omega
  have hb0 : Below w.heap.size w (w.alloc (.cells #[.int .i64 kind, .int .i64 src, .int .i64 dst, .int .u64 (ce : Int), .int .i64 cr, .int .i64 m.src, .int .u32 (m.seq : Int), .int .u64 (m.stamp : Int), .int .i64 m.svc, .slice Am m.deps.length cm, .string m.pay, .int .u64 (stamp : Int), .int .u32 (sent : Int), .slice Ag got.length cg, .int .u64 (horizon : Int), .int .i64 whom, .int .u32 (seq : Int), .int .u64 (members : Int), .int .u64 (pe : Int), .int .i64 pr, .int .u64 (epoch : Int), .slice Ax x.length cx] 73)) := below_alloc (Below.refl _ _) _
  have h1 := h.kept hb0
  have hg : g < w.heap.size := h.lt
  have ho0 := Only.of_below (g := g) hb0
  have hA0 : (w.alloc (.cells #[.int .i64 kind, .int .i64 src, .int .i64 dst, .int .u64 (ce : Int), .int .i64 cr, .int .i64 m.src, .int .u32 (m.seq : Int), .int .u64 (m.stamp : Int), .int .i64 m.svc, .slice Am m.deps.length cm, .string m.pay, .int .u64 (stamp : Int), .int .u32 (sent : Int), .slice Ag got.length cg, .int .u64 (horizon : Int), .int .i64 whom, .int .u32 (seq : Int), .int .u64 (members : Int), .int .u64 (pe : Int), .int .i64 pr, .int .u64 (epoch : Int), .slice Ax x.length cx] 73)).heap[w.heap.size]? = some (.cells #[.int .i64 kind, .int .i64 src, .int .i64 dst, .int .u64 (ce : Int), .int .i64 cr, .int .i64 m.src, .int .u32 (m.seq : Int), .int .u64 (m.stamp : Int), .int .i64 m.svc, .slice Am m.deps.length cm, .string m.pay, .int .u64 (stamp : Int), .int .u32 (sent : Int), .slice Ag got.length cg, .int .u64 (horizon : Int), .int .i64 whom, .int .u32 (seq : Int), .int .u64 (members : Int), .int .u64 (pe : Int), .int .i64 pr, .int .u64 (epoch : Int), .slice Ax x.length cx] 73 (0, 0)) := heap_alloc_new w _
  have hD0 := Lib.hid (hm.on ho0)
  have hG0 := Lib.hid (hgo.on ho0)
  have hX0 := Lib.hid (hx.on ho0)
  unfold pkV
  clear h hm hgo hx hf hb0
  have H1 := Lib.hid (wconf_any B g l ⟨ce, cr⟩ _ h1 (by simp; omega) (by omega) fce)
  clear h1
  obtain rfl : kind = 2 := hk
  have hr : bodyW ⟨2, src, dst, ⟨ce, cr⟩, m, stamp, sent, got, horizon, whom, seq, members, ⟨pe, pr⟩, epoch, x⟩ = cat (confW ⟨ce, cr⟩) (cat (.ok (NumM.be 8 stamp ++ NumM.be 4 sent)) (cat (vecW got) (.ok (NumM.be 8 horizon)))) := rfl
  rw [hr]
  clear hr
  go_enter Try.func78, Try.ntmps78
  go_wp2_with fail
  refine H1.out.mono ?_
  cases hp1 : confW ⟨ce, cr⟩ with
  | error z =>
    rintro e w1 ⟨rfl, ho1⟩
    go_wp2_with fail
    exact ⟨rfl, rfl, (ho0.trans ho1).to_below hB hBg⟩
  | ok b1 =>
    rintro e w1 ⟨rfl, hw1, hoo1⟩
    have n1 := confW_len hp1
    have hb1 : w1.heap[w.heap.size]? = some (.cells #[.int .i64 2, .int .i64 src, .int .i64 dst, .int .u64 (ce : Int), .int .i64 cr, .int .i64 m.src, .int .u32 (m.seq : Int), .int .u64 (m.stamp : Int), .int .i64 m.svc, .slice Am m.deps.length cm, .string m.pay, .int .u64 (stamp : Int), .int .u32 (sent : Int), .slice Ag got.length cg, .int .u64 (horizon : Int), .int .i64 whom, .int .u32 (seq : Int), .int .u64 (members : Int), .int .u64 (pe : Int), .int .i64 pr, .int .u64 (epoch : Int), .slice Ax x.length cx] 73 (0, 0)) := (hoo1.block _ (by simp) (by simp; omega)).trans hA0
    have HDeps := hD0.out.on hoo1
    have HGot := hG0.out.on hoo1
    have HX := hX0.out.on hoo1
    have ho1 := ho0.trans hoo1
    have hHD := Lib.hid HDeps
    clear H1 hA0 hD0 hG0 hX0 hoo1 ho0
    have k0 : w1.cell? ⟨w.heap.size, 0, none⟩ = some (.int .i64 2) := cell_of_row _ _ 0 _ _ _ hb1
    have k11 : w1.cell? ⟨w.heap.size, 11, none⟩ = some (.int .u64 (stamp : Int)) := cell_of_row _ _ 11 _ _ _ hb1
    have k12 : w1.cell? ⟨w.heap.size, 12, none⟩ = some (.int .u32 (sent : Int)) := cell_of_row _ _ 12 _ _ _ hb1
    have k13 : w1.cell? ⟨w.heap.size, 13, none⟩ = some (.slice Ag got.length cg) := cell_of_row _ _ 13 _ _ _ hb1
    have k14 : w1.cell? ⟨w.heap.size, 14, none⟩ = some (.int .u64 (horizon : Int)) := cell_of_row _ _ 14 _ _ _ hb1
    have HE1 := Lib.hid HGot
    have H2 := Lib.hid (wnum_any B g (l ++ b1) stamp 8 w1 hw1 (Nat.le_trans hB ho1.size) (by simp only [List.length_append, NumM.be_length]; omega) fstamp (by omega))
    clear hw1
    go_wp2_with fail
    refine H2.out.mono ?_
    rintro e w2 ⟨rfl, hw2, hoo2⟩
    have k12 := hoo2.cell' k12 (by omega)
    have k13 := hoo2.cell' k13 (by omega)
    have k14 := hoo2.cell' k14 (by omega)
    have ho2 := ho1.trans hoo2
    have HE2 := Lib.hid (HE1.out.on hoo2)
    clear H2
    have H3 := Lib.hid (wnum_any B g ((l ++ b1) ++ NumM.be 8 stamp) sent 4 w2 hw2 (Nat.le_trans hB ho2.size) (by simp only [List.length_append, NumM.be_length]; omega) (by unfold U64; omega) (by omega))
    clear hw2
    go_wp2_with fail
    refine H3.out.mono ?_
    rintro e w3 ⟨rfl, hw3, hoo3⟩
    have k13 := hoo3.cell' k13 (by omega)
    have k14 := hoo3.cell' k14 (by omega)
    have ho3 := ho2.trans hoo3
    have HE3 := Lib.hid (HE2.out.on hoo3)
    clear H3
    have H4 := Lib.hid (wvec_any B g (((l ++ b1) ++ NumM.be 8 stamp) ++ NumM.be 4 sent) Ag cg got w3 hw3 (Nat.le_trans hB ho3.size) (by simp only [List.length_append, NumM.be_length]; omega) fgot.out (HE3.out))
    clear hw3
    go_wp2_with fail
    refine H4.out.mono ?_
    cases hp4 : vecW got with
    | error z =>
      rintro e w4 ⟨rfl, ho4⟩
      go_wp2_with fail
      exact ⟨rfl, rfl, (ho3.trans ho4).to_below hB hBg⟩
    | ok b4 =>
    rintro e w4 ⟨rfl, hw4, hoo4⟩
    have n4 := vecW_len hp4
    have k14 := hoo4.cell' k14 (by omega)
    have ho4 := ho3.trans hoo4
    have HE4 := Lib.hid (HE3.out.on hoo4)
    clear H4
    have H5 := Lib.hid (wnum_any B g ((((l ++ b1) ++ NumM.be 8 stamp) ++ NumM.be 4 sent) ++ b4) horizon 8 w4 hw4 (Nat.le_trans hB ho4.size) (by simp only [List.length_append, NumM.be_length]; omega) fhor (by omega))
    clear hw4
    go_wp2_with fail
    refine H5.out.mono ?_
    rintro e w5 ⟨rfl, hw5, hoo5⟩
    have ho5 := ho4.trans hoo5
    have HE5 := Lib.hid (HE4.out.on hoo5)
    clear H5
    go_wp2_with fail
    go_end0
    rw [hp1]
    rw [hp4]
    refine ⟨rfl, ?_, ho5.to_below hB hBg⟩
    simpa only [List.append_assoc, cat, List.append_nil] using hw5

set_option maxHeartbeats 3200000 in
set_option maxRecDepth 8000 in
theorem wbody3 (B g : Nat) (l : List UInt8) (p : Pk) (Am : Option Addr) (cm : Nat) (Ag : Option Addr) (cg : Nat) (Ax : Option Addr) (cx : Nat) (w : World) (h : WrAt w B g l) (hB : B ≤ w.heap.size) (hBg : B ≤ g) (hl : l.length ≤ 600000) (hf : p.fits)
    (hm : EverU g w Am p.m.deps) (hgo : EverU g w Ag p.got) (hx : EverX g w Ax p.x) (hk : p.kind = 3) :
    Calls Try.prog 78 #[.pointer (some ⟨g, 0, none⟩), pkV p Am cm Ag cg Ax cx] w (WOutB B g w l (bodyW p)) := by
  obtain ⟨kind, src, dst, ⟨ce, cr⟩, m, stamp, sent, got, horizon, whom, seq, members, ⟨pe, pr⟩, epoch, x⟩ := p
  have fce : U64 ce := hf.conf
  have fm : m.fits := hf.m
  have fstamp : U64 stamp := hf.stamp
  have fsent : sent < 4294967296 := hf.sent
  have fgot := Lib.hid (show ∀ v ∈ got, v < 4294967296 from hf.got)
  have fhor : U64 horizon := hf.horizon
  have fseq : seq < 4294967296 := hf.seq
  have fmem : U64 members := hf.members
  have fpe : U64 pe := hf.prom
  have fepoch : U64 epoch := hf.epoch
  have fx := Lib.hid (show ∀ e ∈ x, e.fits from hf.x)
  have ew1 : IntKind.u64.wrap (sent : Int) = (sent : Int) := by rw [IntKind.wrap_u64]; omega
  have ew2 : IntKind.u64.wrap (seq : Int) = (seq : Int) := by rw [IntKind.wrap_u64]; omega
  have hb0 : Below w.heap.size w (w.alloc (.cells #[.int .i64 kind, .int .i64 src, .int .i64 dst, .int .u64 (ce : Int), .int .i64 cr, .int .i64 m.src, .int .u32 (m.seq : Int), .int .u64 (m.stamp : Int), .int .i64 m.svc, .slice Am m.deps.length cm, .string m.pay, .int .u64 (stamp : Int), .int .u32 (sent : Int), .slice Ag got.length cg, .int .u64 (horizon : Int), .int .i64 whom, .int .u32 (seq : Int), .int .u64 (members : Int), .int .u64 (pe : Int), .int .i64 pr, .int .u64 (epoch : Int), .slice Ax x.length cx] 73)) := below_alloc (Below.refl _ _) _
  have h1 := h.kept hb0
  have hg : g < w.heap.size := h.lt
  have ho0 := Only.of_below (g := g) hb0
  have hA0 : (w.alloc (.cells #[.int .i64 kind, .int .i64 src, .int .i64 dst, .int .u64 (ce : Int), .int .i64 cr, .int .i64 m.src, .int .u32 (m.seq : Int), .int .u64 (m.stamp : Int), .int .i64 m.svc, .slice Am m.deps.length cm, .string m.pay, .int .u64 (stamp : Int), .int .u32 (sent : Int), .slice Ag got.length cg, .int .u64 (horizon : Int), .int .i64 whom, .int .u32 (seq : Int), .int .u64 (members : Int), .int .u64 (pe : Int), .int .i64 pr, .int .u64 (epoch : Int), .slice Ax x.length cx] 73)).heap[w.heap.size]? = some (.cells #[.int .i64 kind, .int .i64 src, .int .i64 dst, .int .u64 (ce : Int), .int .i64 cr, .int .i64 m.src, .int .u32 (m.seq : Int), .int .u64 (m.stamp : Int), .int .i64 m.svc, .slice Am m.deps.length cm, .string m.pay, .int .u64 (stamp : Int), .int .u32 (sent : Int), .slice Ag got.length cg, .int .u64 (horizon : Int), .int .i64 whom, .int .u32 (seq : Int), .int .u64 (members : Int), .int .u64 (pe : Int), .int .i64 pr, .int .u64 (epoch : Int), .slice Ax x.length cx] 73 (0, 0)) := heap_alloc_new w _
  have hD0 := Lib.hid (hm.on ho0)
  have hG0 := Lib.hid (hgo.on ho0)
  have hX0 := Lib.hid (hx.on ho0)
  unfold pkV
  clear h hm hgo hx hf hb0
  have H1 := Lib.hid (wconf_any B g l ⟨ce, cr⟩ _ h1 (by simp; omega) (by omega) fce)
  clear h1
  obtain rfl : kind = 3 := hk
  have hr : bodyW ⟨3, src, dst, ⟨ce, cr⟩, m, stamp, sent, got, horizon, whom, seq, members, ⟨pe, pr⟩, epoch, x⟩ = cat (confW ⟨ce, cr⟩) (cat (procW whom) (.ok (NumM.be 4 seq))) := rfl
  rw [hr]
  clear hr
  go_enter Try.func78, Try.ntmps78
  go_wp2_with fail
  refine H1.out.mono ?_
  cases hp1 : confW ⟨ce, cr⟩ with
  | error z =>
    rintro e w1 ⟨rfl, ho1⟩
    go_wp2_with fail
    exact ⟨rfl, rfl, (ho0.trans ho1).to_below hB hBg⟩
  | ok b1 =>
    rintro e w1 ⟨rfl, hw1, hoo1⟩
    have n1 := confW_len hp1
    have hb1 : w1.heap[w.heap.size]? = some (.cells #[.int .i64 3, .int .i64 src, .int .i64 dst, .int .u64 (ce : Int), .int .i64 cr, .int .i64 m.src, .int .u32 (m.seq : Int), .int .u64 (m.stamp : Int), .int .i64 m.svc, .slice Am m.deps.length cm, .string m.pay, .int .u64 (stamp : Int), .int .u32 (sent : Int), .slice Ag got.length cg, .int .u64 (horizon : Int), .int .i64 whom, .int .u32 (seq : Int), .int .u64 (members : Int), .int .u64 (pe : Int), .int .i64 pr, .int .u64 (epoch : Int), .slice Ax x.length cx] 73 (0, 0)) := (hoo1.block _ (by simp) (by simp; omega)).trans hA0
    have HDeps := hD0.out.on hoo1
    have HGot := hG0.out.on hoo1
    have HX := hX0.out.on hoo1
    have ho1 := ho0.trans hoo1
    have hHD := Lib.hid HDeps
    clear H1 hA0 hD0 hG0 hX0 hoo1 ho0
    have k0 : w1.cell? ⟨w.heap.size, 0, none⟩ = some (.int .i64 3) := cell_of_row _ _ 0 _ _ _ hb1
    have k15 : w1.cell? ⟨w.heap.size, 15, none⟩ = some (.int .i64 whom) := cell_of_row _ _ 15 _ _ _ hb1
    have k16 : w1.cell? ⟨w.heap.size, 16, none⟩ = some (.int .u32 (seq : Int)) := cell_of_row _ _ 16 _ _ _ hb1
    have H2 := Lib.hid (wproc_any B g (l ++ b1) whom w1 hw1 (Nat.le_trans hB ho1.size) (by simp only [List.length_append, NumM.be_length]; omega))
    clear hw1
    go_wp2_with fail
    refine H2.out.mono ?_
    cases hp2 : procW whom with
    | error z =>
      rintro e w2 ⟨rfl, ho2⟩
      go_wp2_with fail
      exact ⟨rfl, rfl, (ho1.trans ho2).to_below hB hBg⟩
    | ok b2 =>
    rintro e w2 ⟨rfl, hw2, hoo2⟩
    have n2 := procW_len hp2
    have k16 := hoo2.cell' k16 (by omega)
    have ho2 := ho1.trans hoo2
    clear H2
    have H3 := Lib.hid (wnum_any B g ((l ++ b1) ++ b2) seq 4 w2 hw2 (Nat.le_trans hB ho2.size) (by simp only [List.length_append, NumM.be_length]; omega) (by unfold U64; omega) (by omega))
    clear hw2
    go_wp2_with fail
    refine H3.out.mono ?_
    rintro e w3 ⟨rfl, hw3, hoo3⟩
    have ho3 := ho2.trans hoo3
    clear H3
    go_wp2_with fail
    go_end0
    rw [hp1]
    rw [hp2]
    refine ⟨rfl, ?_, ho3.to_below hB hBg⟩
    simpa only [List.append_assoc, cat, List.append_nil] using hw3

set_option maxHeartbeats 3200000 in
set_option maxRecDepth 8000 in
theorem wbody4 (B g : Nat) (l : List UInt8) (p : Pk) (Am : Option Addr) (cm : Nat) (Ag : Option Addr) (cg : Nat) (Ax : Option Addr) (cx : Nat) (w : World) (h : WrAt w B g l) (hB : B ≤ w.heap.size) (hBg : B ≤ g) (hl : l.length ≤ 600000) (hf : p.fits)
    (hm : EverU g w Am p.m.deps) (hgo : EverU g w Ag p.got) (hx : EverX g w Ax p.x) (hk : p.kind = 4) :
    Calls Try.prog 78 #[.pointer (some ⟨g, 0, none⟩), pkV p Am cm Ag cg Ax cx] w (WOutB B g w l (bodyW p)) := by
  obtain ⟨kind, src, dst, ⟨ce, cr⟩, m, stamp, sent, got, horizon, whom, seq, members, ⟨pe, pr⟩, epoch, x⟩ := p
  have fce : U64 ce := hf.conf
  have fm : m.fits := hf.m
  have fstamp : U64 stamp := hf.stamp
  have fsent : sent < 4294967296 := hf.sent
  have fgot := Lib.hid (show ∀ v ∈ got, v < 4294967296 from hf.got)
  have fhor : U64 horizon := hf.horizon
  have fseq : seq < 4294967296 := hf.seq
  have fmem : U64 members := hf.members
  have fpe : U64 pe := hf.prom
  have fepoch : U64 epoch := hf.epoch
  have fx := Lib.hid (show ∀ e ∈ x, e.fits from hf.x)
  have ew1 : IntKind.u64.wrap (sent : Int) = (sent : Int) := by rw [IntKind.wrap_u64]; omega
  have ew2 : IntKind.u64.wrap (seq : Int) = (seq : Int) := by rw [IntKind.wrap_u64]; omega
  have hb0 : Below w.heap.size w (w.alloc (.cells #[.int .i64 kind, .int .i64 src, .int .i64 dst, .int .u64 (ce : Int), .int .i64 cr, .int .i64 m.src, .int .u32 (m.seq : Int), .int .u64 (m.stamp : Int), .int .i64 m.svc, .slice Am m.deps.length cm, .string m.pay, .int .u64 (stamp : Int), .int .u32 (sent : Int), .slice Ag got.length cg, .int .u64 (horizon : Int), .int .i64 whom, .int .u32 (seq : Int), .int .u64 (members : Int), .int .u64 (pe : Int), .int .i64 pr, .int .u64 (epoch : Int), .slice Ax x.length cx] 73)) := below_alloc (Below.refl _ _) _
  have h1 := h.kept hb0
  have hg : g < w.heap.size := h.lt
  have ho0 := Only.of_below (g := g) hb0
  have hA0 : (w.alloc (.cells #[.int .i64 kind, .int .i64 src, .int .i64 dst, .int .u64 (ce : Int), .int .i64 cr, .int .i64 m.src, .int .u32 (m.seq : Int), .int .u64 (m.stamp : Int), .int .i64 m.svc, .slice Am m.deps.length cm, .string m.pay, .int .u64 (stamp : Int), .int .u32 (sent : Int), .slice Ag got.length cg, .int .u64 (horizon : Int), .int .i64 whom, .int .u32 (seq : Int), .int .u64 (members : Int), .int .u64 (pe : Int), .int .i64 pr, .int .u64 (epoch : Int), .slice Ax x.length cx] 73)).heap[w.heap.size]? = some (.cells #[.int .i64 kind, .int .i64 src, .int .i64 dst, .int .u64 (ce : Int), .int .i64 cr, .int .i64 m.src, .int .u32 (m.seq : Int), .int .u64 (m.stamp : Int), .int .i64 m.svc, .slice Am m.deps.length cm, .string m.pay, .int .u64 (stamp : Int), .int .u32 (sent : Int), .slice Ag got.length cg, .int .u64 (horizon : Int), .int .i64 whom, .int .u32 (seq : Int), .int .u64 (members : Int), .int .u64 (pe : Int), .int .i64 pr, .int .u64 (epoch : Int), .slice Ax x.length cx] 73 (0, 0)) := heap_alloc_new w _
  have hD0 := Lib.hid (hm.on ho0)
  have hG0 := Lib.hid (hgo.on ho0)
  have hX0 := Lib.hid (hx.on ho0)
  unfold pkV
  clear h hm hgo hx hf hb0
  have H1 := Lib.hid (wconf_any B g l ⟨ce, cr⟩ _ h1 (by simp; omega) (by omega) fce)
  clear h1
  obtain rfl : kind = 4 := hk
  have hr : bodyW ⟨4, src, dst, ⟨ce, cr⟩, m, stamp, sent, got, horizon, whom, seq, members, ⟨pe, pr⟩, epoch, x⟩ = cat (confW ⟨ce, cr⟩) (cat (confW ⟨pe, pr⟩) (.ok (NumM.be 8 epoch ++ NumM.be 8 members))) := rfl
  rw [hr]
  clear hr
  go_enter Try.func78, Try.ntmps78
  go_wp2_with fail
  refine H1.out.mono ?_
  cases hp1 : confW ⟨ce, cr⟩ with
  | error z =>
    rintro e w1 ⟨rfl, ho1⟩
    go_wp2_with fail
    exact ⟨rfl, rfl, (ho0.trans ho1).to_below hB hBg⟩
  | ok b1 =>
    rintro e w1 ⟨rfl, hw1, hoo1⟩
    have n1 := confW_len hp1
    have hb1 : w1.heap[w.heap.size]? = some (.cells #[.int .i64 4, .int .i64 src, .int .i64 dst, .int .u64 (ce : Int), .int .i64 cr, .int .i64 m.src, .int .u32 (m.seq : Int), .int .u64 (m.stamp : Int), .int .i64 m.svc, .slice Am m.deps.length cm, .string m.pay, .int .u64 (stamp : Int), .int .u32 (sent : Int), .slice Ag got.length cg, .int .u64 (horizon : Int), .int .i64 whom, .int .u32 (seq : Int), .int .u64 (members : Int), .int .u64 (pe : Int), .int .i64 pr, .int .u64 (epoch : Int), .slice Ax x.length cx] 73 (0, 0)) := (hoo1.block _ (by simp) (by simp; omega)).trans hA0
    have HDeps := hD0.out.on hoo1
    have HGot := hG0.out.on hoo1
    have HX := hX0.out.on hoo1
    have ho1 := ho0.trans hoo1
    have hHD := Lib.hid HDeps
    clear H1 hA0 hD0 hG0 hX0 hoo1 ho0
    have k0 : w1.cell? ⟨w.heap.size, 0, none⟩ = some (.int .i64 4) := cell_of_row _ _ 0 _ _ _ hb1
    have k17 : w1.cell? ⟨w.heap.size, 17, none⟩ = some (.int .u64 (members : Int)) := cell_of_row _ _ 17 _ _ _ hb1
    have k18 : w1.cell? ⟨w.heap.size, 18, none⟩ = some (.int .u64 (pe : Int)) := cell_of_row _ _ 18 _ _ _ hb1
    have k19 : w1.cell? ⟨w.heap.size, 19, none⟩ = some (.int .i64 pr) := cell_of_row _ _ 19 _ _ _ hb1
    have k20 : w1.cell? ⟨w.heap.size, 20, none⟩ = some (.int .u64 (epoch : Int)) := cell_of_row _ _ 20 _ _ _ hb1
    have H2 := Lib.hid (wconf_any B g (l ++ b1) ⟨pe, pr⟩ w1 hw1 (Nat.le_trans hB ho1.size) (by simp only [List.length_append, NumM.be_length]; omega) fpe)
    clear hw1
    go_wp2_with fail
    refine H2.out.mono ?_
    cases hp2 : confW ⟨pe, pr⟩ with
    | error z =>
      rintro e w2 ⟨rfl, ho2⟩
      go_wp2_with fail
      exact ⟨rfl, rfl, (ho1.trans ho2).to_below hB hBg⟩
    | ok b2 =>
    rintro e w2 ⟨rfl, hw2, hoo2⟩
    have n2 := confW_len hp2
    have k17 := hoo2.cell' k17 (by omega)
    have k20 := hoo2.cell' k20 (by omega)
    have ho2 := ho1.trans hoo2
    clear H2
    have H3 := Lib.hid (wnum_any B g ((l ++ b1) ++ b2) epoch 8 w2 hw2 (Nat.le_trans hB ho2.size) (by simp only [List.length_append, NumM.be_length]; omega) fepoch (by omega))
    clear hw2
    go_wp2_with fail
    refine H3.out.mono ?_
    rintro e w3 ⟨rfl, hw3, hoo3⟩
    have k17 := hoo3.cell' k17 (by omega)
    have ho3 := ho2.trans hoo3
    clear H3
    have H4 := Lib.hid (wnum_any B g (((l ++ b1) ++ b2) ++ NumM.be 8 epoch) members 8 w3 hw3 (Nat.le_trans hB ho3.size) (by simp only [List.length_append, NumM.be_length]; omega) fmem (by omega))
    clear hw3
    go_wp2_with fail
    refine H4.out.mono ?_
    rintro e w4 ⟨rfl, hw4, hoo4⟩
    have ho4 := ho3.trans hoo4
    clear H4
    go_wp2_with fail
    go_end0
    rw [hp1]
    rw [hp2]
    refine ⟨rfl, ?_, ho4.to_below hB hBg⟩
    simpa only [List.append_assoc, cat, List.append_nil] using hw4

set_option maxHeartbeats 3200000 in
set_option maxRecDepth 8000 in
theorem wbody5 (B g : Nat) (l : List UInt8) (p : Pk) (Am : Option Addr) (cm : Nat) (Ag : Option Addr) (cg : Nat) (Ax : Option Addr) (cx : Nat) (w : World) (h : WrAt w B g l) (hB : B ≤ w.heap.size) (hBg : B ≤ g) (hl : l.length ≤ 600000) (hf : p.fits)
    (hm : EverU g w Am p.m.deps) (hgo : EverU g w Ag p.got) (hx : EverX g w Ax p.x) (hk : p.kind = 5) :
    Calls Try.prog 78 #[.pointer (some ⟨g, 0, none⟩), pkV p Am cm Ag cg Ax cx] w (WOutB B g w l (bodyW p)) := by
  obtain ⟨kind, src, dst, ⟨ce, cr⟩, m, stamp, sent, got, horizon, whom, seq, members, ⟨pe, pr⟩, epoch, x⟩ := p
  have fce : U64 ce := hf.conf
  have fm : m.fits := hf.m
  have fstamp : U64 stamp := hf.stamp
  have fsent : sent < 4294967296 := hf.sent
  have fgot := Lib.hid (show ∀ v ∈ got, v < 4294967296 from hf.got)
  have fhor : U64 horizon := hf.horizon
  have fseq : seq < 4294967296 := hf.seq
  have fmem : U64 members := hf.members
  have fpe : U64 pe := hf.prom
  have fepoch : U64 epoch := hf.epoch
  have fx := Lib.hid (show ∀ e ∈ x, e.fits from hf.x)
  have ew1 : IntKind.u64.wrap (sent : Int) = (sent : Int) := by rw [IntKind.wrap_u64]; omega
  have ew2 : IntKind.u64.wrap (seq : Int) = (seq : Int) := by rw [IntKind.wrap_u64]; omega
  have hb0 : Below w.heap.size w (w.alloc (.cells #[.int .i64 kind, .int .i64 src, .int .i64 dst, .int .u64 (ce : Int), .int .i64 cr, .int .i64 m.src, .int .u32 (m.seq : Int), .int .u64 (m.stamp : Int), .int .i64 m.svc, .slice Am m.deps.length cm, .string m.pay, .int .u64 (stamp : Int), .int .u32 (sent : Int), .slice Ag got.length cg, .int .u64 (horizon : Int), .int .i64 whom, .int .u32 (seq : Int), .int .u64 (members : Int), .int .u64 (pe : Int), .int .i64 pr, .int .u64 (epoch : Int), .slice Ax x.length cx] 73)) := below_alloc (Below.refl _ _) _
  have h1 := h.kept hb0
  have hg : g < w.heap.size := h.lt
  have ho0 := Only.of_below (g := g) hb0
  have hA0 : (w.alloc (.cells #[.int .i64 kind, .int .i64 src, .int .i64 dst, .int .u64 (ce : Int), .int .i64 cr, .int .i64 m.src, .int .u32 (m.seq : Int), .int .u64 (m.stamp : Int), .int .i64 m.svc, .slice Am m.deps.length cm, .string m.pay, .int .u64 (stamp : Int), .int .u32 (sent : Int), .slice Ag got.length cg, .int .u64 (horizon : Int), .int .i64 whom, .int .u32 (seq : Int), .int .u64 (members : Int), .int .u64 (pe : Int), .int .i64 pr, .int .u64 (epoch : Int), .slice Ax x.length cx] 73)).heap[w.heap.size]? = some (.cells #[.int .i64 kind, .int .i64 src, .int .i64 dst, .int .u64 (ce : Int), .int .i64 cr, .int .i64 m.src, .int .u32 (m.seq : Int), .int .u64 (m.stamp : Int), .int .i64 m.svc, .slice Am m.deps.length cm, .string m.pay, .int .u64 (stamp : Int), .int .u32 (sent : Int), .slice Ag got.length cg, .int .u64 (horizon : Int), .int .i64 whom, .int .u32 (seq : Int), .int .u64 (members : Int), .int .u64 (pe : Int), .int .i64 pr, .int .u64 (epoch : Int), .slice Ax x.length cx] 73 (0, 0)) := heap_alloc_new w _
  have hD0 := Lib.hid (hm.on ho0)
  have hG0 := Lib.hid (hgo.on ho0)
  have hX0 := Lib.hid (hx.on ho0)
  unfold pkV
  clear h hm hgo hx hf hb0
  have H1 := Lib.hid (wconf_any B g l ⟨ce, cr⟩ _ h1 (by simp; omega) (by omega) fce)
  clear h1
  obtain rfl : kind = 5 := hk
  have hr : bodyW ⟨5, src, dst, ⟨ce, cr⟩, m, stamp, sent, got, horizon, whom, seq, members, ⟨pe, pr⟩, epoch, x⟩ = cat (confW ⟨ce, cr⟩) (.ok (NumM.be 8 members)) := rfl
  rw [hr]
  clear hr
  go_enter Try.func78, Try.ntmps78
  go_wp2_with fail
  refine H1.out.mono ?_
  cases hp1 : confW ⟨ce, cr⟩ with
  | error z =>
    rintro e w1 ⟨rfl, ho1⟩
    go_wp2_with fail
    exact ⟨rfl, rfl, (ho0.trans ho1).to_below hB hBg⟩
  | ok b1 =>
    rintro e w1 ⟨rfl, hw1, hoo1⟩
    have n1 := confW_len hp1
    have hb1 : w1.heap[w.heap.size]? = some (.cells #[.int .i64 5, .int .i64 src, .int .i64 dst, .int .u64 (ce : Int), .int .i64 cr, .int .i64 m.src, .int .u32 (m.seq : Int), .int .u64 (m.stamp : Int), .int .i64 m.svc, .slice Am m.deps.length cm, .string m.pay, .int .u64 (stamp : Int), .int .u32 (sent : Int), .slice Ag got.length cg, .int .u64 (horizon : Int), .int .i64 whom, .int .u32 (seq : Int), .int .u64 (members : Int), .int .u64 (pe : Int), .int .i64 pr, .int .u64 (epoch : Int), .slice Ax x.length cx] 73 (0, 0)) := (hoo1.block _ (by simp) (by simp; omega)).trans hA0
    have HDeps := hD0.out.on hoo1
    have HGot := hG0.out.on hoo1
    have HX := hX0.out.on hoo1
    have ho1 := ho0.trans hoo1
    have hHD := Lib.hid HDeps
    clear H1 hA0 hD0 hG0 hX0 hoo1 ho0
    have k0 : w1.cell? ⟨w.heap.size, 0, none⟩ = some (.int .i64 5) := cell_of_row _ _ 0 _ _ _ hb1
    have k17 : w1.cell? ⟨w.heap.size, 17, none⟩ = some (.int .u64 (members : Int)) := cell_of_row _ _ 17 _ _ _ hb1
    have H2 := Lib.hid (wnum_any B g (l ++ b1) members 8 w1 hw1 (Nat.le_trans hB ho1.size) (by simp only [List.length_append, NumM.be_length]; omega) fmem (by omega))
    clear hw1
    go_wp2_with fail
    refine H2.out.mono ?_
    rintro e w2 ⟨rfl, hw2, hoo2⟩
    have ho2 := ho1.trans hoo2
    clear H2
    go_wp2_with fail
    go_end0
    rw [hp1]
    refine ⟨rfl, ?_, ho2.to_below hB hBg⟩
    simpa only [List.append_assoc, cat, List.append_nil] using hw2

set_option maxHeartbeats 3200000 in
set_option maxRecDepth 8000 in
theorem wbody8 (B g : Nat) (l : List UInt8) (p : Pk) (Am : Option Addr) (cm : Nat) (Ag : Option Addr) (cg : Nat) (Ax : Option Addr) (cx : Nat) (w : World) (h : WrAt w B g l) (hB : B ≤ w.heap.size) (hBg : B ≤ g) (hl : l.length ≤ 600000) (hf : p.fits)
    (hm : EverU g w Am p.m.deps) (hgo : EverU g w Ag p.got) (hx : EverX g w Ax p.x) (hk : p.kind = 8) :
    Calls Try.prog 78 #[.pointer (some ⟨g, 0, none⟩), pkV p Am cm Ag cg Ax cx] w (WOutB B g w l (bodyW p)) := by
  obtain ⟨kind, src, dst, ⟨ce, cr⟩, m, stamp, sent, got, horizon, whom, seq, members, ⟨pe, pr⟩, epoch, x⟩ := p
  have fce : U64 ce := hf.conf
  have fm : m.fits := hf.m
  have fstamp : U64 stamp := hf.stamp
  have fsent : sent < 4294967296 := hf.sent
  have fgot := Lib.hid (show ∀ v ∈ got, v < 4294967296 from hf.got)
  have fhor : U64 horizon := hf.horizon
  have fseq : seq < 4294967296 := hf.seq
  have fmem : U64 members := hf.members
  have fpe : U64 pe := hf.prom
  have fepoch : U64 epoch := hf.epoch
  have fx := Lib.hid (show ∀ e ∈ x, e.fits from hf.x)
  have ew1 : IntKind.u64.wrap (sent : Int) = (sent : Int) := by rw [IntKind.wrap_u64]; omega
  have ew2 : IntKind.u64.wrap (seq : Int) = (seq : Int) := by rw [IntKind.wrap_u64]; omega
  have hb0 : Below w.heap.size w (w.alloc (.cells #[.int .i64 kind, .int .i64 src, .int .i64 dst, .int .u64 (ce : Int), .int .i64 cr, .int .i64 m.src, .int .u32 (m.seq : Int), .int .u64 (m.stamp : Int), .int .i64 m.svc, .slice Am m.deps.length cm, .string m.pay, .int .u64 (stamp : Int), .int .u32 (sent : Int), .slice Ag got.length cg, .int .u64 (horizon : Int), .int .i64 whom, .int .u32 (seq : Int), .int .u64 (members : Int), .int .u64 (pe : Int), .int .i64 pr, .int .u64 (epoch : Int), .slice Ax x.length cx] 73)) := below_alloc (Below.refl _ _) _
  have h1 := h.kept hb0
  have hg : g < w.heap.size := h.lt
  have ho0 := Only.of_below (g := g) hb0
  have hA0 : (w.alloc (.cells #[.int .i64 kind, .int .i64 src, .int .i64 dst, .int .u64 (ce : Int), .int .i64 cr, .int .i64 m.src, .int .u32 (m.seq : Int), .int .u64 (m.stamp : Int), .int .i64 m.svc, .slice Am m.deps.length cm, .string m.pay, .int .u64 (stamp : Int), .int .u32 (sent : Int), .slice Ag got.length cg, .int .u64 (horizon : Int), .int .i64 whom, .int .u32 (seq : Int), .int .u64 (members : Int), .int .u64 (pe : Int), .int .i64 pr, .int .u64 (epoch : Int), .slice Ax x.length cx] 73)).heap[w.heap.size]? = some (.cells #[.int .i64 kind, .int .i64 src, .int .i64 dst, .int .u64 (ce : Int), .int .i64 cr, .int .i64 m.src, .int .u32 (m.seq : Int), .int .u64 (m.stamp : Int), .int .i64 m.svc, .slice Am m.deps.length cm, .string m.pay, .int .u64 (stamp : Int), .int .u32 (sent : Int), .slice Ag got.length cg, .int .u64 (horizon : Int), .int .i64 whom, .int .u32 (seq : Int), .int .u64 (members : Int), .int .u64 (pe : Int), .int .i64 pr, .int .u64 (epoch : Int), .slice Ax x.length cx] 73 (0, 0)) := heap_alloc_new w _
  have hD0 := Lib.hid (hm.on ho0)
  have hG0 := Lib.hid (hgo.on ho0)
  have hX0 := Lib.hid (hx.on ho0)
  unfold pkV
  clear h hm hgo hx hf hb0
  have H1 := Lib.hid (wconf_any B g l ⟨ce, cr⟩ _ h1 (by simp; omega) (by omega) fce)
  clear h1
  obtain rfl : kind = 8 := hk
  have hr : bodyW ⟨8, src, dst, ⟨ce, cr⟩, m, stamp, sent, got, horizon, whom, seq, members, ⟨pe, pr⟩, epoch, x⟩ = cat (confW ⟨ce, cr⟩) (cat (procW whom) (.ok (NumM.be 4 seq))) := rfl
  rw [hr]
  clear hr
  go_enter Try.func78, Try.ntmps78
  go_wp2_with fail
  refine H1.out.mono ?_
  cases hp1 : confW ⟨ce, cr⟩ with
  | error z =>
    rintro e w1 ⟨rfl, ho1⟩
    go_wp2_with fail
    exact ⟨rfl, rfl, (ho0.trans ho1).to_below hB hBg⟩
  | ok b1 =>
    rintro e w1 ⟨rfl, hw1, hoo1⟩
    have n1 := confW_len hp1
    have hb1 : w1.heap[w.heap.size]? = some (.cells #[.int .i64 8, .int .i64 src, .int .i64 dst, .int .u64 (ce : Int), .int .i64 cr, .int .i64 m.src, .int .u32 (m.seq : Int), .int .u64 (m.stamp : Int), .int .i64 m.svc, .slice Am m.deps.length cm, .string m.pay, .int .u64 (stamp : Int), .int .u32 (sent : Int), .slice Ag got.length cg, .int .u64 (horizon : Int), .int .i64 whom, .int .u32 (seq : Int), .int .u64 (members : Int), .int .u64 (pe : Int), .int .i64 pr, .int .u64 (epoch : Int), .slice Ax x.length cx] 73 (0, 0)) := (hoo1.block _ (by simp) (by simp; omega)).trans hA0
    have HDeps := hD0.out.on hoo1
    have HGot := hG0.out.on hoo1
    have HX := hX0.out.on hoo1
    have ho1 := ho0.trans hoo1
    have hHD := Lib.hid HDeps
    clear H1 hA0 hD0 hG0 hX0 hoo1 ho0
    have k0 : w1.cell? ⟨w.heap.size, 0, none⟩ = some (.int .i64 8) := cell_of_row _ _ 0 _ _ _ hb1
    have k15 : w1.cell? ⟨w.heap.size, 15, none⟩ = some (.int .i64 whom) := cell_of_row _ _ 15 _ _ _ hb1
    have k16 : w1.cell? ⟨w.heap.size, 16, none⟩ = some (.int .u32 (seq : Int)) := cell_of_row _ _ 16 _ _ _ hb1
    have H2 := Lib.hid (wproc_any B g (l ++ b1) whom w1 hw1 (Nat.le_trans hB ho1.size) (by simp only [List.length_append, NumM.be_length]; omega))
    clear hw1
    go_wp2_with fail
    refine H2.out.mono ?_
    cases hp2 : procW whom with
    | error z =>
      rintro e w2 ⟨rfl, ho2⟩
      go_wp2_with fail
      exact ⟨rfl, rfl, (ho1.trans ho2).to_below hB hBg⟩
    | ok b2 =>
    rintro e w2 ⟨rfl, hw2, hoo2⟩
    have n2 := procW_len hp2
    have k16 := hoo2.cell' k16 (by omega)
    have ho2 := ho1.trans hoo2
    clear H2
    have H3 := Lib.hid (wnum_any B g ((l ++ b1) ++ b2) seq 4 w2 hw2 (Nat.le_trans hB ho2.size) (by simp only [List.length_append, NumM.be_length]; omega) (by unfold U64; omega) (by omega))
    clear hw2
    go_wp2_with fail
    refine H3.out.mono ?_
    rintro e w3 ⟨rfl, hw3, hoo3⟩
    have ho3 := ho2.trans hoo3
    clear H3
    go_wp2_with fail
    go_end0
    rw [hp1]
    rw [hp2]
    refine ⟨rfl, ?_, ho3.to_below hB hBg⟩
    simpa only [List.append_assoc, cat, List.append_nil] using hw3

set_option maxHeartbeats 3200000 in
set_option maxRecDepth 8000 in
theorem wbody9 (B g : Nat) (l : List UInt8) (p : Pk) (Am : Option Addr) (cm : Nat) (Ag : Option Addr) (cg : Nat) (Ax : Option Addr) (cx : Nat) (w : World) (h : WrAt w B g l) (hB : B ≤ w.heap.size) (hBg : B ≤ g) (hl : l.length ≤ 600000) (hf : p.fits)
    (hm : EverU g w Am p.m.deps) (hgo : EverU g w Ag p.got) (hx : EverX g w Ax p.x) (hk : p.kind = 9) :
    Calls Try.prog 78 #[.pointer (some ⟨g, 0, none⟩), pkV p Am cm Ag cg Ax cx] w (WOutB B g w l (bodyW p)) := by
  obtain ⟨kind, src, dst, ⟨ce, cr⟩, m, stamp, sent, got, horizon, whom, seq, members, ⟨pe, pr⟩, epoch, x⟩ := p
  have fce : U64 ce := hf.conf
  have fm : m.fits := hf.m
  have fstamp : U64 stamp := hf.stamp
  have fsent : sent < 4294967296 := hf.sent
  have fgot := Lib.hid (show ∀ v ∈ got, v < 4294967296 from hf.got)
  have fhor : U64 horizon := hf.horizon
  have fseq : seq < 4294967296 := hf.seq
  have fmem : U64 members := hf.members
  have fpe : U64 pe := hf.prom
  have fepoch : U64 epoch := hf.epoch
  have fx := Lib.hid (show ∀ e ∈ x, e.fits from hf.x)
  have ew1 : IntKind.u64.wrap (sent : Int) = (sent : Int) := by rw [IntKind.wrap_u64]; omega
  have ew2 : IntKind.u64.wrap (seq : Int) = (seq : Int) := by rw [IntKind.wrap_u64]; omega
  have hb0 : Below w.heap.size w (w.alloc (.cells #[.int .i64 kind, .int .i64 src, .int .i64 dst, .int .u64 (ce : Int), .int .i64 cr, .int .i64 m.src, .int .u32 (m.seq : Int), .int .u64 (m.stamp : Int), .int .i64 m.svc, .slice Am m.deps.length cm, .string m.pay, .int .u64 (stamp : Int), .int .u32 (sent : Int), .slice Ag got.length cg, .int .u64 (horizon : Int), .int .i64 whom, .int .u32 (seq : Int), .int .u64 (members : Int), .int .u64 (pe : Int), .int .i64 pr, .int .u64 (epoch : Int), .slice Ax x.length cx] 73)) := below_alloc (Below.refl _ _) _
  have h1 := h.kept hb0
  have hg : g < w.heap.size := h.lt
  have ho0 := Only.of_below (g := g) hb0
  have hA0 : (w.alloc (.cells #[.int .i64 kind, .int .i64 src, .int .i64 dst, .int .u64 (ce : Int), .int .i64 cr, .int .i64 m.src, .int .u32 (m.seq : Int), .int .u64 (m.stamp : Int), .int .i64 m.svc, .slice Am m.deps.length cm, .string m.pay, .int .u64 (stamp : Int), .int .u32 (sent : Int), .slice Ag got.length cg, .int .u64 (horizon : Int), .int .i64 whom, .int .u32 (seq : Int), .int .u64 (members : Int), .int .u64 (pe : Int), .int .i64 pr, .int .u64 (epoch : Int), .slice Ax x.length cx] 73)).heap[w.heap.size]? = some (.cells #[.int .i64 kind, .int .i64 src, .int .i64 dst, .int .u64 (ce : Int), .int .i64 cr, .int .i64 m.src, .int .u32 (m.seq : Int), .int .u64 (m.stamp : Int), .int .i64 m.svc, .slice Am m.deps.length cm, .string m.pay, .int .u64 (stamp : Int), .int .u32 (sent : Int), .slice Ag got.length cg, .int .u64 (horizon : Int), .int .i64 whom, .int .u32 (seq : Int), .int .u64 (members : Int), .int .u64 (pe : Int), .int .i64 pr, .int .u64 (epoch : Int), .slice Ax x.length cx] 73 (0, 0)) := heap_alloc_new w _
  have hD0 := Lib.hid (hm.on ho0)
  have hG0 := Lib.hid (hgo.on ho0)
  have hX0 := Lib.hid (hx.on ho0)
  unfold pkV
  clear h hm hgo hx hf hb0
  have H1 := Lib.hid (wconf_any B g l ⟨ce, cr⟩ _ h1 (by simp; omega) (by omega) fce)
  clear h1
  obtain rfl : kind = 9 := hk
  have hr : bodyW ⟨9, src, dst, ⟨ce, cr⟩, m, stamp, sent, got, horizon, whom, seq, members, ⟨pe, pr⟩, epoch, x⟩ = cat (confW ⟨ce, cr⟩) (cat (procW whom) (msgW m)) := rfl
  rw [hr]
  clear hr
  go_enter Try.func78, Try.ntmps78
  go_wp2_with fail
  refine H1.out.mono ?_
  cases hp1 : confW ⟨ce, cr⟩ with
  | error z =>
    rintro e w1 ⟨rfl, ho1⟩
    go_wp2_with fail
    exact ⟨rfl, rfl, (ho0.trans ho1).to_below hB hBg⟩
  | ok b1 =>
    rintro e w1 ⟨rfl, hw1, hoo1⟩
    have n1 := confW_len hp1
    have hb1 : w1.heap[w.heap.size]? = some (.cells #[.int .i64 9, .int .i64 src, .int .i64 dst, .int .u64 (ce : Int), .int .i64 cr, .int .i64 m.src, .int .u32 (m.seq : Int), .int .u64 (m.stamp : Int), .int .i64 m.svc, .slice Am m.deps.length cm, .string m.pay, .int .u64 (stamp : Int), .int .u32 (sent : Int), .slice Ag got.length cg, .int .u64 (horizon : Int), .int .i64 whom, .int .u32 (seq : Int), .int .u64 (members : Int), .int .u64 (pe : Int), .int .i64 pr, .int .u64 (epoch : Int), .slice Ax x.length cx] 73 (0, 0)) := (hoo1.block _ (by simp) (by simp; omega)).trans hA0
    have HDeps := hD0.out.on hoo1
    have HGot := hG0.out.on hoo1
    have HX := hX0.out.on hoo1
    have ho1 := ho0.trans hoo1
    have hHD := Lib.hid HDeps
    clear H1 hA0 hD0 hG0 hX0 hoo1 ho0
    have k0 : w1.cell? ⟨w.heap.size, 0, none⟩ = some (.int .i64 9) := cell_of_row _ _ 0 _ _ _ hb1
    have k5 : w1.cell? ⟨w.heap.size, 5, none⟩ = some (.int .i64 m.src) := cell_of_row _ _ 5 _ _ _ hb1
    have k6 : w1.cell? ⟨w.heap.size, 6, none⟩ = some (.int .u32 (m.seq : Int)) := cell_of_row _ _ 6 _ _ _ hb1
    have k7 : w1.cell? ⟨w.heap.size, 7, none⟩ = some (.int .u64 (m.stamp : Int)) := cell_of_row _ _ 7 _ _ _ hb1
    have k8 : w1.cell? ⟨w.heap.size, 8, none⟩ = some (.int .i64 m.svc) := cell_of_row _ _ 8 _ _ _ hb1
    have k9 : w1.cell? ⟨w.heap.size, 9, none⟩ = some (.slice Am m.deps.length cm) := cell_of_row _ _ 9 _ _ _ hb1
    have k10 : w1.cell? ⟨w.heap.size, 10, none⟩ = some (.string m.pay) := cell_of_row _ _ 10 _ _ _ hb1
    have k15 : w1.cell? ⟨w.heap.size, 15, none⟩ = some (.int .i64 whom) := cell_of_row _ _ 15 _ _ _ hb1
    have HE1 := Lib.hid HDeps
    have H2 := Lib.hid (wproc_any B g (l ++ b1) whom w1 hw1 (Nat.le_trans hB ho1.size) (by simp only [List.length_append, NumM.be_length]; omega))
    clear hw1
    go_wp2_with fail
    refine H2.out.mono ?_
    cases hp2 : procW whom with
    | error z =>
      rintro e w2 ⟨rfl, ho2⟩
      go_wp2_with fail
      exact ⟨rfl, rfl, (ho1.trans ho2).to_below hB hBg⟩
    | ok b2 =>
    rintro e w2 ⟨rfl, hw2, hoo2⟩
    have n2 := procW_len hp2
    have k5 := hoo2.cell' k5 (by omega)
    have k6 := hoo2.cell' k6 (by omega)
    have k7 := hoo2.cell' k7 (by omega)
    have k8 := hoo2.cell' k8 (by omega)
    have k9 := hoo2.cell' k9 (by omega)
    have k10 := hoo2.cell' k10 (by omega)
    have ho2 := ho1.trans hoo2
    have HE2 := Lib.hid (HE1.out.on hoo2)
    clear H2
    have H3 := Lib.hid (wmsg_any B g ((l ++ b1) ++ b2) m Am cm w2 hw2 (Nat.le_trans hB ho2.size) hBg (by simp only [List.length_append, NumM.be_length]; omega) fm (HE2.out))
    clear hw2
    go_wp2_with fail
    refine H3.out.mono ?_
    cases hp3 : msgW m with
    | error z =>
      rintro e w3 ⟨rfl, hb3⟩
      go_wp2_with fail
      exact ⟨rfl, rfl, ((ho2.to_below hB hBg)).trans hb3⟩
    | ok b3 =>
    rintro e w3 ⟨rfl, hw3, hb3⟩
    clear H3
    go_wp2_with fail
    go_end0
    rw [hp1]
    rw [hp2]
    rw [hp3]
    refine ⟨rfl, ?_, ((ho2.to_below hB hBg)).trans hb3⟩
    simpa only [List.append_assoc, cat, List.append_nil] using hw3

set_option maxHeartbeats 3200000 in
set_option maxRecDepth 8000 in
theorem wbody6 (B g : Nat) (l : List UInt8) (p : Pk) (Am : Option Addr) (cm : Nat) (Ag : Option Addr) (cg : Nat) (Ax : Option Addr) (cx : Nat) (w : World) (h : WrAt w B g l) (hB : B ≤ w.heap.size) (hBg : B ≤ g) (hl : l.length ≤ 600000) (hf : p.fits)
    (hm : EverU g w Am p.m.deps) (hgo : EverU g w Ag p.got) (hx : EverX g w Ax p.x) (hk : p.kind = 6) :
    Calls Try.prog 78 #[.pointer (some ⟨g, 0, none⟩), pkV p Am cm Ag cg Ax cx] w (WOutB B g w l (bodyW p)) := by
  obtain ⟨kind, src, dst, ⟨ce, cr⟩, m, stamp, sent, got, horizon, whom, seq, members, ⟨pe, pr⟩, epoch, x⟩ := p
  have fce : U64 ce := hf.conf
  have fm : m.fits := hf.m
  have fstamp : U64 stamp := hf.stamp
  have fsent : sent < 4294967296 := hf.sent
  have fgot := Lib.hid (show ∀ v ∈ got, v < 4294967296 from hf.got)
  have fhor : U64 horizon := hf.horizon
  have fseq : seq < 4294967296 := hf.seq
  have fmem : U64 members := hf.members
  have fpe : U64 pe := hf.prom
  have fepoch : U64 epoch := hf.epoch
  have fx := Lib.hid (show ∀ e ∈ x, e.fits from hf.x)
  have ew1 : IntKind.u64.wrap (sent : Int) = (sent : Int) := by rw [IntKind.wrap_u64]; omega
  have ew2 : IntKind.u64.wrap (seq : Int) = (seq : Int) := by rw [IntKind.wrap_u64]; omega
  have hb0 : Below w.heap.size w (w.alloc (.cells #[.int .i64 kind, .int .i64 src, .int .i64 dst, .int .u64 (ce : Int), .int .i64 cr, .int .i64 m.src, .int .u32 (m.seq : Int), .int .u64 (m.stamp : Int), .int .i64 m.svc, .slice Am m.deps.length cm, .string m.pay, .int .u64 (stamp : Int), .int .u32 (sent : Int), .slice Ag got.length cg, .int .u64 (horizon : Int), .int .i64 whom, .int .u32 (seq : Int), .int .u64 (members : Int), .int .u64 (pe : Int), .int .i64 pr, .int .u64 (epoch : Int), .slice Ax x.length cx] 73)) := below_alloc (Below.refl _ _) _
  have h1 := h.kept hb0
  have hg : g < w.heap.size := h.lt
  have ho0 := Only.of_below (g := g) hb0
  have hA0 : (w.alloc (.cells #[.int .i64 kind, .int .i64 src, .int .i64 dst, .int .u64 (ce : Int), .int .i64 cr, .int .i64 m.src, .int .u32 (m.seq : Int), .int .u64 (m.stamp : Int), .int .i64 m.svc, .slice Am m.deps.length cm, .string m.pay, .int .u64 (stamp : Int), .int .u32 (sent : Int), .slice Ag got.length cg, .int .u64 (horizon : Int), .int .i64 whom, .int .u32 (seq : Int), .int .u64 (members : Int), .int .u64 (pe : Int), .int .i64 pr, .int .u64 (epoch : Int), .slice Ax x.length cx] 73)).heap[w.heap.size]? = some (.cells #[.int .i64 kind, .int .i64 src, .int .i64 dst, .int .u64 (ce : Int), .int .i64 cr, .int .i64 m.src, .int .u32 (m.seq : Int), .int .u64 (m.stamp : Int), .int .i64 m.svc, .slice Am m.deps.length cm, .string m.pay, .int .u64 (stamp : Int), .int .u32 (sent : Int), .slice Ag got.length cg, .int .u64 (horizon : Int), .int .i64 whom, .int .u32 (seq : Int), .int .u64 (members : Int), .int .u64 (pe : Int), .int .i64 pr, .int .u64 (epoch : Int), .slice Ax x.length cx] 73 (0, 0)) := heap_alloc_new w _
  have hD0 := Lib.hid (hm.on ho0)
  have hG0 := Lib.hid (hgo.on ho0)
  have hX0 := Lib.hid (hx.on ho0)
  unfold pkV
  clear h hm hgo hx hf hb0
  have H1 := Lib.hid (wconf_any B g l ⟨ce, cr⟩ _ h1 (by simp; omega) (by omega) fce)
  clear h1
  obtain rfl : kind = 6 := hk
  rcases x with _ | ⟨y, _ | ⟨z, xs⟩⟩
  · have hr : bodyW ⟨6, src, dst, ⟨ce, cr⟩, m, stamp, sent, got, horizon, whom, seq, members, ⟨pe, pr⟩, epoch, []⟩ = cat (confW ⟨ce, cr⟩) (.error 1) := rfl
    rw [hr]
    clear hr
    go_enter Try.func78, Try.ntmps78
    go_wp2_with fail
    refine H1.out.mono ?_
    cases hp1 : confW ⟨ce, cr⟩ with
    | error z =>
      rintro e w1 ⟨rfl, ho1⟩
      go_wp2_with fail
      exact ⟨rfl, rfl, (ho0.trans ho1).to_below hB hBg⟩
    | ok b1 =>
      rintro e w1 ⟨rfl, hw1, hoo1⟩
      have n1 := confW_len hp1
      have hb1 : w1.heap[w.heap.size]? = some (.cells #[.int .i64 6, .int .i64 src, .int .i64 dst, .int .u64 (ce : Int), .int .i64 cr, .int .i64 m.src, .int .u32 (m.seq : Int), .int .u64 (m.stamp : Int), .int .i64 m.svc, .slice Am m.deps.length cm, .string m.pay, .int .u64 (stamp : Int), .int .u32 (sent : Int), .slice Ag got.length cg, .int .u64 (horizon : Int), .int .i64 whom, .int .u32 (seq : Int), .int .u64 (members : Int), .int .u64 (pe : Int), .int .i64 pr, .int .u64 (epoch : Int), .slice Ax 0 cx] 73 (0, 0)) := (hoo1.block _ (by simp) (by simp; omega)).trans hA0
      have HDeps := hD0.out.on hoo1
      have HGot := hG0.out.on hoo1
      have HX := hX0.out.on hoo1
      have ho1 := ho0.trans hoo1
      have hHD := Lib.hid HDeps
      clear H1 hA0 hD0 hG0 hX0 hoo1 ho0
      have k0 : w1.cell? ⟨w.heap.size, 0, none⟩ = some (.int .i64 6) := cell_of_row _ _ 0 _ _ _ hb1
      have k21 : w1.cell? ⟨w.heap.size, 21, none⟩ = some (.slice Ax 0 cx) := cell_of_row _ _ 21 _ _ _ hb1
      go_wp2_with fail
      first | rw [hlen2] | skip
      refine (bad_yes _ _).mono ?_
      rintro e w2 ⟨rfl, rfl⟩
      go_wp2_with fail
      exact ⟨rfl, rfl, ho1.to_below hB hBg⟩
  · have hr : bodyW ⟨6, src, dst, ⟨ce, cr⟩, m, stamp, sent, got, horizon, whom, seq, members, ⟨pe, pr⟩, epoch, [y]⟩ = cat (confW ⟨ce, cr⟩) (exW y) := rfl
    rw [hr]
    clear hr
    go_enter Try.func78, Try.ntmps78
    go_wp2_with fail
    refine H1.out.mono ?_
    cases hp1 : confW ⟨ce, cr⟩ with
    | error z =>
      rintro e w1 ⟨rfl, ho1⟩
      go_wp2_with fail
      exact ⟨rfl, rfl, (ho0.trans ho1).to_below hB hBg⟩
    | ok b1 =>
      rintro e w1 ⟨rfl, hw1, hoo1⟩
      have n1 := confW_len hp1
      have hb1 : w1.heap[w.heap.size]? = some (.cells #[.int .i64 6, .int .i64 src, .int .i64 dst, .int .u64 (ce : Int), .int .i64 cr, .int .i64 m.src, .int .u32 (m.seq : Int), .int .u64 (m.stamp : Int), .int .i64 m.svc, .slice Am m.deps.length cm, .string m.pay, .int .u64 (stamp : Int), .int .u32 (sent : Int), .slice Ag got.length cg, .int .u64 (horizon : Int), .int .i64 whom, .int .u32 (seq : Int), .int .u64 (members : Int), .int .u64 (pe : Int), .int .i64 pr, .int .u64 (epoch : Int), .slice Ax 1 cx] 73 (0, 0)) := (hoo1.block _ (by simp) (by simp; omega)).trans hA0
      have HDeps := hD0.out.on hoo1
      have HGot := hG0.out.on hoo1
      have HX := hX0.out.on hoo1
      have ho1 := ho0.trans hoo1
      have hHD := Lib.hid HDeps
      clear H1 hA0 hD0 hG0 hX0 hoo1 ho0
      have k0 : w1.cell? ⟨w.heap.size, 0, none⟩ = some (.int .i64 6) := cell_of_row _ _ 0 _ _ _ hb1
      have k21 : w1.cell? ⟨w.heap.size, 21, none⟩ = some (.slice Ax 1 cx) := cell_of_row _ _ 21 _ _ _ hb1
      obtain ⟨ad, Ai, ci, rfl, hU, hcell⟩ := HX 0 (by simp)
      have hcell' := hcell w1 (Only.refl _ _)
      have hy : ([y] : List Ex).getD 0 .zero = y := rfl
      have had : ad.add (0 * 6) = ad := rfl
      rw [hy] at hU hcell'
      rw [had] at hcell'
      obtain ⟨q0, q1, q2, q3, q4, q5⟩ := hcell'
      have H2 := Lib.hid (wex_any B g (l ++ b1) y Ai ci w1 hw1 (Nat.le_trans hB ho1.size) (by rw [List.length_append]; omega) (fx.out y (by simp)) hU)
      unfold exV at H2
      clear hw1 hcell hU
      go_wp2_with fail
      refine (bad_no _ _).mono ?_
      rintro e w2 ⟨rfl, rfl⟩
      go_wp2_with fail
      refine H2.out.mono ?_
      cases hp2 : exW y with
      | error z =>
        rintro e w2 ⟨rfl, ho2⟩
        go_wp2_with fail
        exact ⟨rfl, rfl, (ho1.trans ho2).to_below hB hBg⟩
      | ok b2 =>
      rintro e w2 ⟨rfl, hw2, ho2⟩
      go_wp2_with fail
      go_end0
      rw [hp1, hp2]
      refine ⟨rfl, ?_, (ho1.trans ho2).to_below hB hBg⟩
      simpa only [List.append_assoc, cat, List.append_nil] using hw2
  · have hr : bodyW ⟨6, src, dst, ⟨ce, cr⟩, m, stamp, sent, got, horizon, whom, seq, members, ⟨pe, pr⟩, epoch, (y :: z :: xs)⟩ = cat (confW ⟨ce, cr⟩) (.error 1) := rfl
    rw [hr]
    clear hr
    have hlen : (((y :: z :: xs : List Ex).length : Int) != 1) = true := by simp; omega
    have HLN := Lib.hid hlen
    generalize hgen : (y :: z :: xs : List Ex).length = n at *
    have hlen2 : ((n : Int) != 1) = true := HLN.out
    clear hgen hlen
    go_enter Try.func78, Try.ntmps78
    go_wp2_with fail
    refine H1.out.mono ?_
    cases hp1 : confW ⟨ce, cr⟩ with
    | error z =>
      rintro e w1 ⟨rfl, ho1⟩
      go_wp2_with fail
      exact ⟨rfl, rfl, (ho0.trans ho1).to_below hB hBg⟩
    | ok b1 =>
      rintro e w1 ⟨rfl, hw1, hoo1⟩
      have n1 := confW_len hp1
      have hb1 : w1.heap[w.heap.size]? = some (.cells #[.int .i64 6, .int .i64 src, .int .i64 dst, .int .u64 (ce : Int), .int .i64 cr, .int .i64 m.src, .int .u32 (m.seq : Int), .int .u64 (m.stamp : Int), .int .i64 m.svc, .slice Am m.deps.length cm, .string m.pay, .int .u64 (stamp : Int), .int .u32 (sent : Int), .slice Ag got.length cg, .int .u64 (horizon : Int), .int .i64 whom, .int .u32 (seq : Int), .int .u64 (members : Int), .int .u64 (pe : Int), .int .i64 pr, .int .u64 (epoch : Int), .slice Ax n cx] 73 (0, 0)) := (hoo1.block _ (by simp) (by simp; omega)).trans hA0
      have HDeps := hD0.out.on hoo1
      have HGot := hG0.out.on hoo1
      have HX := hX0.out.on hoo1
      have ho1 := ho0.trans hoo1
      have hHD := Lib.hid HDeps
      clear H1 hA0 hD0 hG0 hX0 hoo1 ho0
      have k0 : w1.cell? ⟨w.heap.size, 0, none⟩ = some (.int .i64 6) := cell_of_row _ _ 0 _ _ _ hb1
      have k21 : w1.cell? ⟨w.heap.size, 21, none⟩ = some (.slice Ax n cx) := cell_of_row _ _ 21 _ _ _ hb1
      go_wp2_with fail
      first | rw [hlen2] | skip
      refine (bad_yes _ _).mono ?_
      rintro e w2 ⟨rfl, rfl⟩
      go_wp2_with fail
      exact ⟨rfl, rfl, ho1.to_below hB hBg⟩
end Go.Proofs.Ythkfgjdbgnbjkaa
