/- The walks of the reference's taker: bad, num, process, conf. -/
import Derived.Test.YthkfgjdbgnbjkaaPkM
import Derived.Lib.QuietBelow
import Derived.StillTailTactics
namespace Go.Proofs.Ythkfgjdbgnbjkaa
open Go.RowKit Go.Sort
set_option linter.unusedSimpArgs false
set_option linter.unusedVariables false

/-- a taker's state: what is left, or the first error, which sticks. -/
abbrev St := Except Int (List UInt8)
/-- the taker g; its place is m at most. -/
def Tk (w : World) (g : Nat) (s : ByteArray) (m : Nat) : St → Prop
  | .ok l => ∃ p : Nat, w.heap[g]? = some (.cells #[.string s, .int .i64 (p : Int), .int .i64 0] 115 (0, 0)) ∧ p ≤ s.size ∧ s.data.toList.drop p = l ∧ s.size ≤ m
  | .error c => ∃ p : Nat, w.heap[g]? = some (.cells #[.string s, .int .i64 (p : Int), .int .i64 c] 115 (0, 0)) ∧ p ≤ m ∧ c ≠ 0 ∧ s.size ≤ m
theorem Tk.blk {w : World} {g : Nat} {s : ByteArray} {m : Nat} {st : St} (h : Tk w g s m st) : ∃ (p : Nat) (c : Int), w.heap[g]? = some (.cells #[.string s, .int .i64 (p : Int), .int .i64 c] 115 (0, 0)) ∧ p ≤ m := by
  cases st with
  | ok l => obtain ⟨p, h1, h2, _, h4⟩ := h; exact ⟨p, 0, h1, by omega⟩
  | error c => obtain ⟨p, h1, h2, _⟩ := h; exact ⟨p, c, h1, h2⟩
theorem Tk.lt {w : World} {g : Nat} {s : ByteArray} {m : Nat} {st : St} (h : Tk w g s m st) : g < w.heap.size := by
  obtain ⟨p, c, h, _⟩ := h.blk
  exact blk_lt h
theorem Tk.of_blk {w w' : World} {g : Nat} {s : ByteArray} {m : Nat} {st : St} (h : Tk w g s m st) (e : w'.heap[g]? = w.heap[g]?) : Tk w' g s m st := by
  cases st with
  | ok l => obtain ⟨p, h1, h2⟩ := h; exact ⟨p, e.trans h1, h2⟩
  | error c => obtain ⟨p, h1, h2⟩ := h; exact ⟨p, e.trans h1, h2⟩
theorem Tk.kept {w w' : World} {g : Nat} {s : ByteArray} {m : Nat} {st : St} (h : Tk w g s m st) (hb : Below w.heap.size w w') : Tk w' g s m st := h.of_blk (hb.block g h.lt)
theorem Tk.mono {w : World} {g : Nat} {s : ByteArray} {m k : Nat} {st : St} (h : Tk w g s m st) (hk : m ≤ k) : Tk w g s k st := by
  cases st with
  | ok l => obtain ⟨p, h1, h2, h3, h4⟩ := h; exact ⟨p, h1, h2, h3, by omega⟩
  | error c => obtain ⟨p, h1, h2, h3, h4⟩ := h; exact ⟨p, h1, by omega, h3, by omega⟩
theorem Tk.set {w : World} {g K : Nat} {s : ByteArray} {m : Nat} {st : St} (h : Tk w g s m st) (hne : K ≠ g) (j : Nat) (u : Value) : Tk (w.setCell ⟨K, j, none⟩ u) g s m st :=
  h.of_blk (Below.heap_setCell w ⟨K, j, none⟩ u g (fun e => hne e.symm))
def badT (c : Int) (b : Bool) : St → St
  | .ok l => if b then .error c else .ok l
  | .error e => .error e
def numS (n : Nat) : St → St
  | .ok l => (match numP n l with | .ok (_, r) => .ok r | .error c => .error c)
  | .error e => .error e
def numV (n : Nat) : St → Nat
  | .ok l => (match numP n l with | .ok (v, _) => v | .error _ => 0)
  | .error _ => 0
theorem numV_lt (n : Nat) (st : St) : numV n st < 256 ^ n := by
  unfold numV
  split
  · split
    · rename_i h
      exact (numP_ok h).1
    · exact Nat.pos_pow_of_pos_or_ne (by decide)
  · exact Nat.pos_pow_of_pos_or_ne (by decide)
where Nat.pos_pow_of_pos_or_ne {b n : Nat} (h : 0 < b) : 0 < b ^ n := Nat.pow_pos h

set_option maxHeartbeats 800000 in
theorem get_no (s : ByteArray) (p n : Nat) (w : World) (hs : s.size ≤ 1000000) (h1 : 1 ≤ n) (h8 : n ≤ 8) (hp : s.size < p + n) :
    Calls Try.prog 62 #[.string s, .int .i64 (p : Int), .int .i64 (n : Int)] w fun e w' => e = .returned (.tuple #[.int .u64 0, .bool false]) ∧ w = w' := by
  have d1 : decide ((n : Int) < 1) = false := by simp; omega
  have d2 : decide (8 < (n : Int)) = false := by simp; omega
  have d3 : decide ((p : Int) < 0) = false := by simp
  by_cases h : s.size < p
  · have d4 : decide ((s.size : Int) < (p : Int)) = true := by simp; omega
    go_enter Try.func62, Try.ntmps62
    go_wp2
    go_ret2
    exact ⟨rfl, rfl⟩
  · have d4 : decide ((s.size : Int) < (p : Int)) = false := by simp; omega
    have ew : IntKind.i64.wrap ((s.size : Int) - (p : Int)) = (s.size : Int) - (p : Int) := IntWalk.i64_in _ (by omega)
    have d5 : decide ((s.size : Int) - (p : Int) < (n : Int)) = true := by simp; omega
    go_enter Try.func62, Try.ntmps62
    go_wp2
    go_ret2
    exact ⟨rfl, rfl⟩

set_option maxHeartbeats 800000 in
theorem tbad_blk (g : Nat) (s : ByteArray) (p : Nat) (c z : Int) (b : Bool) (w : World) (h : w.heap[g]? = some (.cells #[.string s, .int .i64 (p : Int), .int .i64 c] 115 (0, 0))) :
    Calls Try.prog 72 #[.pointer (some ⟨g, 0, none⟩), .int .i64 z, .bool b] w fun e w' => e = .returned (.tuple #[]) ∧ w'.heap[g]? = some (.cells #[.string s, .int .i64 (p : Int), .int .i64 (if b = true ∧ c = 0 then z else c)] 115 (0, 0)) ∧ Only g w w' := by
  cases b with
  | false =>
    rw [if_neg (by simp)]
    go_enter Try.func72, Try.ntmps72
    go_wp2_with fail
    go_end0
    exact ⟨rfl, h, Only.refl _ _⟩
  | true =>
    have k2 := cell_of_row _ _ 2 _ _ _ h
    simp at k2
    by_cases hz : c = 0
    · subst hz
      rw [if_pos ⟨rfl, rfl⟩]
      have f2 : w.frozen? ⟨g, 2, none⟩ = false := by simp [World.frozen?, h]
      go_enter Try.func72, Try.ntmps72
      go_wp2_with fail
      go_end0
      exact ⟨rfl, blk_setj h 2 (.int .i64 z), (Only.refl g w).set 2 _⟩
    · rw [if_neg (by simp [hz])]
      have hdz : decide (c = 0) = false := by simpa using hz
      go_enter Try.func72, Try.ntmps72
      go_wp2_with fail
      go_end0
      exact ⟨rfl, h, Only.refl _ _⟩
theorem tbad_any (g : Nat) (s : ByteArray) (m : Nat) (st : St) (c : Int) (b : Bool) (w : World) (h : Tk w g s m st) (hc : c ≠ 0) :
    Calls Try.prog 72 #[.pointer (some ⟨g, 0, none⟩), .int .i64 c, .bool b] w fun e w' => e = .returned (.tuple #[]) ∧ Tk w' g s m (badT c b st) ∧ Only g w w' := by
  cases st with
  | ok l =>
    obtain ⟨p, hb, hp, hl, hm⟩ := h
    refine (tbad_blk g s p 0 c b w hb).mono ?_
    rintro e w' ⟨rfl, hb', ho⟩
    cases b with
    | false => exact ⟨rfl, ⟨p, hb', hp, hl, hm⟩, ho⟩
    | true => exact ⟨rfl, ⟨p, hb', by omega, hc, hm⟩, ho⟩
  | error z =>
    obtain ⟨p, hb, hp, hz, hm⟩ := h
    refine (tbad_blk g s p z c b w hb).mono ?_
    rintro e w' ⟨rfl, hb', ho⟩
    rw [if_neg (fun hh => hz hh.2)] at hb'
    exact ⟨rfl, ⟨p, hb', hp, hz, hm⟩, ho⟩

set_option maxHeartbeats 1600000 in
set_option maxRecDepth 8000 in
theorem tnum_blk (g : Nat) (s : ByteArray) (n p : Nat) (c : Int) (v : Nat) (b : Bool) (z r : Int) (hz0 : (if b = false ∧ c = 0 then (2 : Int) else c) = z) (hr0 : (if z = 0 then (v : Int) else 0) = r) (W : World) (hb : W.heap[g]? = some (.cells #[.string s, .int .i64 (p : Int), .int .i64 c] 115 (0, 0))) (hp : p ≤ 2000000) (h8 : n ≤ 8)
    (hget : ∀ W', Calls Try.prog 62 #[.string s, .int .i64 (p : Int), .int .i64 (n : Int)] W' fun e w' => e = .returned (.tuple #[.int .u64 (v : Int), .bool b]) ∧ W' = w') :
    Calls Try.prog 94 #[.pointer (some ⟨g, 0, none⟩), .int .i64 (n : Int)] W fun e w' => e = .returned (.int .u64 r) ∧
      w'.heap[g]? = some (.cells #[.string s, .int .i64 ((p + n : Nat) : Int), .int .i64 z] 115 (0, 0)) ∧ Only g W w' := by
  have k0 := cell_of_row _ _ 0 _ _ _ hb
  have k1 := cell_of_row _ _ 1 _ _ _ hb
  simp at k0 k1
  have HBK := Lib.hid hb
  have hbneg : (if (!b) = true ∧ c = 0 then (2 : Int) else c) = z := by rw [← hz0]; cases b <;> simp
  have HBN := Lib.hid hbneg
  have HR := Lib.hid hr0
  clear hb hbneg hz0 hr0
  obtain ⟨q, hq⟩ : ∃ q : Int, q = ((p + n : Nat) : Int) := ⟨_, rfl⟩
  rw [← hq]
  have ew : IntKind.i64.wrap ((p : Int) + (n : Int)) = q := by
    rw [show (p : Int) + (n : Int) = q by omega]
    exact IntWalk.i64_in _ (by omega)
  have HQ := Lib.hid (fun d os => show Calls Try.prog 62 #[.string s, .int .i64 (p : Int), .int .i64 (n : Int)] (grow (redrawn W d) os) (fun e w' => e = .returned (.tuple #[.int .u64 (v : Int), .bool b]) ∧ Below (grow (redrawn W d) os).heap.size (grow (redrawn W d) os) w') from (hget _).mono (by rintro e w' ⟨rfl, rfl⟩; exact ⟨rfl, Below.refl _ _⟩))
  clear hget
  go_enter Try.func94, Try.ntmps94
  go_wp2_with fail
  have g0 := fun d os => cell_regrown k0 d os
  have g1 := fun d os => cell_regrown k1 d os
  refine wp_region_quiet_below (by kernel_rfl) (by kernel_rfl) ?_
  repeat (quiet_step (first | (go_at_call 62; exact Calls.regrown_of (HQ.out _ _))))
  refine wpQuiet_nil ?_
  intro _ hw'
  obtain ⟨⟨dq, osq⟩, hw''⟩ := hw'
  subst hw''
  have hbl := below_regrown W dq osq
  have HB1 := (hbl.block g (blk_lt HBK.out)).trans HBK.out
  have HO1 := Lib.hid (Only.of_below (g := g) hbl)
  clear g0 g1 k0 k1 HBK hbl HQ
  generalize grow (redrawn W dq) osq = w1 at *
  have HBAD := Lib.hid (tbad_blk g s p c 2 (!b) w1 HB1)
  rw [HBN.out] at HBAD
  clear HB1 HBN
  go_wp2_with fail
  refine HBAD.out.mono ?_
  rintro e w2 ⟨rfl, hb2, ho2⟩
  have q1 := cell_of_row _ _ 1 _ _ _ hb2
  simp at q1
  have f1 : w2.frozen? ⟨g, 1, none⟩ = false := by simp [World.frozen?, hb2]
  have HB3 := Lib.hid (blk_setj hb2 1 (.int .i64 q))
  have q3 : (w2.setCell ⟨g, 1, none⟩ (.int .i64 q)).cell? ⟨g, 2, none⟩ = some (.int .i64 z) := cell_of_row _ _ 2 _ _ _ HB3.out
  have HO3 := Lib.hid ((HO1.out.trans ho2).set 1 (.int .i64 q))
  clear hb2 ho2 HBAD HO1 hq
  by_cases hz : z = 0
  · have hr := HR.out
    rw [if_pos hz] at hr
    subst hr
    subst hz
    clear HR
    go_wp2_with fail
    go_ret
    exact ⟨rfl, HB3.out, HO3.out⟩
  · have hdz : (z != 0) = true := by simpa using hz
    have hr := HR.out
    rw [if_neg hz] at hr
    subst hr
    clear HR hz
    go_wp2_with fail
    go_ret
    exact ⟨rfl, HB3.out, HO3.out⟩
theorem tnum_any (g : Nat) (s : ByteArray) (m n : Nat) (st : St) (w : World) (h : Tk w g s m st) (hs : s.size ≤ 1000000) (hm : m ≤ 2000000) (h1 : 1 ≤ n) (h8 : n ≤ 8) :
    Calls Try.prog 94 #[.pointer (some ⟨g, 0, none⟩), .int .i64 (n : Int)] w fun e w' => e = .returned (.int .u64 (numV n st : Int)) ∧ Tk w' g s (m + 8) (numS n st) ∧ Only g w w' := by
  cases st with
  | ok l =>
    obtain ⟨p, hb, hp, rfl, hsm⟩ := h
    have hl : (s.data.toList.drop p).length = s.size - p := by rw [List.length_drop, size_data]
    by_cases hn : s.size < p + n
    · refine (tnum_blk g s n p 0 0 false 2 0 rfl rfl w hb (by omega) h8 (fun W' => get_no s p n W' hs h1 h8 hn)).mono ?_
      rintro e w' ⟨rfl, hb', ho⟩
      have hnp : numP n (s.data.toList.drop p) = .error 2 := by unfold numP; rw [if_pos (by rw [hl]; omega)]
      refine ⟨?_, ?_, ho⟩
      · simp only [numV, hnp]
        rfl
      · simp only [numS, hnp]
        exact ⟨p + n, hb', by omega, by decide, by omega⟩
    · refine (tnum_blk g s n p 0 _ true 0 _ rfl rfl w hb (by omega) h8 (fun W' => get_ok s p n W' hs h1 h8 (by omega))).mono ?_
      rintro e w' ⟨rfl, hb', ho⟩
      have hnp : numP n (s.data.toList.drop p) = .ok (NumM.val ((s.data.toList.drop p).take n), (s.data.toList.drop p).drop n) := by unfold numP; rw [if_neg (by rw [hl]; omega)]
      refine ⟨?_, ?_, ho⟩
      · simp only [numV, hnp]
        rfl
      · simp only [numS, hnp]
        exact ⟨p + n, hb', by omega, by rw [List.drop_drop], by omega⟩
  | error c =>
    obtain ⟨p, hb, hp, hc, hsm⟩ := h
    have hfin : ∀ (v : Nat) (b : Bool), (∀ W', Calls Try.prog 62 #[.string s, .int .i64 (p : Int), .int .i64 (n : Int)] W' fun e w' => e = .returned (.tuple #[.int .u64 (v : Int), .bool b]) ∧ W' = w') →
        Calls Try.prog 94 #[.pointer (some ⟨g, 0, none⟩), .int .i64 (n : Int)] w fun e w' => e = .returned (.int .u64 (numV n (.error c) : Int)) ∧ Tk w' g s (m + 8) (numS n (.error c)) ∧ Only g w w' := fun v b hget => by
      refine (tnum_blk g s n p c v b c 0 (if_neg (fun hh => hc hh.2)) (if_neg hc) w hb (by omega) h8 hget).mono ?_
      rintro e w' ⟨rfl, hb', ho⟩
      exact ⟨rfl, ⟨p + n, hb', by omega, hc, by omega⟩, ho⟩
    by_cases hn : s.size < p + n
    · exact hfin 0 false (fun W' => get_no s p n W' hs h1 h8 hn)
    · exact hfin _ true (fun W' => get_ok s p n W' hs h1 h8 (by omega))
end Go.Proofs.Ythkfgjdbgnbjkaa
