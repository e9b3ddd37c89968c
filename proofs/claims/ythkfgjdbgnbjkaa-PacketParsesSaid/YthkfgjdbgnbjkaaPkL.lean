/- The walk of packet's reader: vector. -/
import Derived.Test.YthkfgjdbgnbjkaaPkK2
import Derived.OwnWalk
import Derived.Laws.AppendOwn
namespace Go.Proofs.Ythkfgjdbgnbjkaa
open Go.RowKit
set_option linter.unusedSimpArgs false
set_option linter.unusedVariables false

def uvals (l : List Nat) : List Value := l.map fun v : Nat => .int .u32 (v : Int)
theorem info25 : (Try.prog.info? 25).map (fun i => (i.zero, i.size, i.bytes)) = some (some (.int .u32 0), 1, 4) := by kernel_rfl
theorem parts25 : ∃ i, Try.prog.info? 25 = some i ∧ i.zero = some (.int .u32 0) ∧ i.size = 1 ∧ i.bytes = 4 := by
  have h := info25
  cases hi : Try.prog.info? 25 with
  | none => rw [hi] at h; cases h
  | some i =>
    rw [hi] at h
    simp only [Option.map_some, Option.some.injEq, Prod.mk.injEq] at h
    exact ⟨i, rfl, h.1, h.2.1, h.2.2⟩
/-- what vector leaves: a row of its own. -/
def VOut (g : Nat) (w : World) (s : ByteArray) (r : In (List Nat)) (e : Ending) (w' : World) : Prop :=
  match r with
  | .ok (us, l) => (∃ A c, e = .returned (.slice A us.length c) ∧ w'.ownsRow w.heap.size 25 1 (.slice A us.length c) us.length (uvals us)) ∧ (∀ v ∈ us, v < 4294967296) ∧ RdL w' g s l ∧ Only g w w'
  | .error c => e = .panicked [pv c] ∧ Only g w w'
theorem foursP_take {n : Nat} {l : List UInt8} (k : Nat) (hk : k ≤ n) : ∀ (us : List Nat) (r : List UInt8), foursP k l = .ok (us, r) → foursP n l = andP (foursP (n - k) r) fun vs r' => .ok (us ++ vs, r') := by
  induction k generalizing n l with
  | zero =>
    intro us r h
    cases h
    rw [Nat.sub_zero]
    cases foursP n l with
    | error c => rfl
    | ok x => rfl
  | succ k ih =>
    intro us r h
    obtain ⟨m, rfl⟩ : ∃ m, n = m + 1 := ⟨n - 1, by omega⟩
    rw [foursP] at h ⊢
    cases h4 : numP 4 l with
    | error c => rw [h4] at h; cases h
    | ok x =>
      obtain ⟨v, r1⟩ := x
      rw [h4] at h
      simp only [andP] at h ⊢
      cases hk1 : foursP k r1 with
      | error c => rw [hk1] at h; cases h
      | ok y =>
        obtain ⟨ws, r2⟩ := y
        rw [hk1] at h
        cases h
        rw [ih (by omega) ws _ hk1, show m + 1 - (k + 1) = m - k by omega]
        cases foursP (m - k) r with
        | error c => rfl
        | ok z => rfl
theorem foursP_len {n : Nat} {l : List UInt8} {us : List Nat} {r : List UInt8} (h : foursP n l = .ok (us, r)) : us.length = n ∧ ∀ v ∈ us, v < 4294967296 := by
  induction n generalizing l us with
  | zero => cases h; exact ⟨rfl, fun v hv => by cases hv⟩
  | succ n ih =>
    rw [foursP] at h
    cases h4 : numP 4 l with
    | error c => rw [h4] at h; cases h
    | ok x =>
      obtain ⟨v, r1⟩ := x
      rw [h4] at h
      simp only [andP] at h
      cases hk1 : foursP n r1 with
      | error c => rw [hk1] at h; cases h
      | ok y =>
        obtain ⟨ws, r2⟩ := y
        rw [hk1] at h
        cases h
        obtain ⟨h1, h2⟩ := ih hk1
        refine ⟨by rw [List.length_cons, h1], fun u hu => ?_⟩
        rcases List.mem_cons.1 hu with rfl | hu
        · exact (numP_ok h4).1
        · exact h2 u hu
/-- one more. -/
theorem foursP_snoc {k : Nat} {l r r' : List UInt8} {us : List Nat} {v : Nat} (h : foursP k l = .ok (us, r)) (hv : numP 4 r = .ok (v, r')) : foursP (k + 1) l = .ok (us ++ [v], r') := by
  rw [foursP_take k (by omega) us r h, show k + 1 - k = 1 by omega, foursP, hv]
  rfl
theorem foursP_stop {n k : Nat} {l r : List UInt8} {us : List Nat} {c : Int} (hk : k < n) (h : foursP k l = .ok (us, r)) (hv : numP 4 r = .error c) : foursP n l = .error c := by
  rw [foursP_take k (by omega) us r h]
  obtain ⟨m, hm⟩ : ∃ m, n - k = m + 1 := ⟨n - k - 1, by omega⟩
  rw [hm, foursP, hv]
  rfl
theorem RdL.grown {w w' : World} {g : Nat} {s : ByteArray} {l : List UInt8} {row : Option Nat} (h : RdL w g s l) (hg : w.grownBy w' row) (hne : some g ≠ row) : RdL w' g s l := by
  have hl := h.lt
  obtain ⟨p, h1, h2, h3, h4, h5⟩ := h
  have e : w'.heap[g]? = w.heap[g]? := hg.block g hl hne
  exact ⟨p, h1, h2, (World.cell?_of_block (w := w) e).trans h3, (World.cell?_of_block (w := w) e).trans h4, (World.frozen?_of_block (w := w) e).trans h5⟩
theorem own_apart_any {w : World} {B g n size : Nat} {e : TypeId} {v u : Value} {t : TypeId} {xs : List Value} (h : w.heap[g]? = some (.cells #[u] t (0, 0))) (ho : w.ownsRow B e size v n xs) (ht : t ≠ e) : v.ownBlock ≠ some g := by
  rcases ho.2 with ⟨rfl, _⟩ | ⟨k, cap, cur, rfl, _, hh, _⟩
  · simp [Value.ownBlock]
  · intro he
    have hk : k = g := by simpa [Value.ownBlock] using he
    subst hk
    rw [h] at hh
    injection hh with hh
    injection hh with _ he
    exact ht he
theorem own_base_any {w : World} {base : Nat} {e : TypeId} {size : Nat} {v : Value} {n k : Nat} {xs : List Value} (h : w.ownsRow base e size v n xs) (hk : v.ownBlock = some k) : base ≤ k := by
  rcases h.2 with ⟨rfl, rfl⟩ | ⟨g, cap, cur, rfl, hb, _⟩
  · cases hk
  · have : g = k := by simpa [Value.ownBlock] using hk
    omega
theorem own_form_any {w : World} {base : Nat} {e : TypeId} {size : Nat} {v : Value} {n : Nat} {xs : List Value} (h : w.ownsRow base e size v n xs) : ∃ A c, v = .slice A n c := by
  rcases h.2 with ⟨rfl, rfl⟩ | ⟨g, cap, cur, rfl, _⟩
  · exact ⟨none, 0, rfl⟩
  · exact ⟨_, cap, rfl⟩
theorem Only.rows {g : Nat} {a b c : World} {row : Option Nat} (h : Only g a b) (hg : b.grownBy c row) (hr : ∀ k, row = some k → a.heap.size ≤ k) : Only g a c :=
  ⟨hg.os.trans h.os, hg.tape.trans h.tape, hg.output.trans h.output, Nat.le_trans (World.grownBy.size h) hg.size, fun i hi hne => (hg.block i (Nat.lt_of_lt_of_le hi (World.grownBy.size h)) (fun e => by have := hr i e.symm; omega)).trans (h.block i hi hne)⟩

set_option maxHeartbeats 3200000 in
set_option maxRecDepth 8000 in
theorem rvec_any (g : Nat) (s : ByteArray) (l : List UInt8) (w : World) (h : RdL w g s l) (hs : s.size ≤ 1000000) :
    Calls Try.prog 88 #[.agg #[.pointer (some ⟨g, 0, none⟩)]] w (VOut g w s (vecP l)) := by
  have hg := h.lt
  have hb0 : Below w.heap.size w (w.alloc (.cells #[.pointer (some ⟨g, 0, none⟩)] 110)) := below_alloc (Below.refl _ _) _
  have ho0 := Only.of_below (g := g) hb0
  have H0 := Lib.hid (heap_alloc_new w (.cells #[.pointer (some ⟨g, 0, none⟩)] 110))
  have n1 : w.heap.size ≠ g := by omega
  have H1 := Lib.hid (rnum_any g s l 1 _ (h.kept hb0) hs (by omega))
  unfold vecP
  cases hn : numP 1 l with
  | error c =>
    rw [hn] at H1
    go_enter Try.func88, Try.ntmps88
    go_wp2_with fail
    refine H1.out.mono ?_
    rintro e w1 ⟨rfl, ho1⟩
    go_wp2_with fail
    exact ⟨rfl, rfl, ho0.trans ho1⟩
  | ok x =>
    obtain ⟨n, r⟩ := x
    have hv' : n < 256 := (numP_ok hn).1
    rw [hn] at H1
    have ew : IntKind.i64.wrap (n : Int) = (n : Int) := IntWalk.i64_in _ (by omega)
    by_cases h64 : 64 < n
    · have hd : decide ((64 : Int) < (n : Int)) = true := by simp; omega
      have hdn : decide (64 < n) = true := by simpa using h64
      have hr : andP (.ok (n, r)) (fun n r => if 64 < n then (.error 3 : In (List Nat)) else foursP n r) = .error 3 := by unfold andP; simp only [if_pos h64]
      rw [hr]
      go_enter Try.func88, Try.ntmps88
      go_wp2_with fail
      refine H1.out.mono ?_
      rintro e w1 ⟨rfl, hr1, ho1⟩
      go_wp2_with fail
      refine (bad_yes _ _).mono ?_
      rintro e w2 ⟨rfl, rfl⟩
      go_wp2_with fail
      exact ⟨rfl, rfl, ho0.trans ho1⟩
    · have hd : decide ((64 : Int) < (n : Int)) = false := by simp; omega
      have hdn : decide (64 < n) = false := by simpa using h64
      have hr : andP (.ok (n, r)) (fun n r => if 64 < n then (.error 3 : In (List Nat)) else foursP n r) = foursP n r := by unfold andP; simp only [if_neg h64]
      rw [hr]
      clear hr
      obtain ⟨i0, hi, hz0, hz1, hz2⟩ := parts25
      go_enter Try.func88, Try.ntmps88
      go_wp2_with fail
      refine H1.out.mono ?_
      rintro e w1 ⟨rfl, hr1, ho1⟩
      have HB1 := Lib.hid ((ho1.block w.heap.size (by simp) (by simpa using n1)).trans H0.out)
      have HO1 := Lib.hid (ho0.trans ho1)
      have HR1 := Lib.hid hr1
      clear H1 H0 ho1 ho0 hb0 hr1
      go_wp2_with fail
      refine (bad_no _ _).mono ?_
      rintro e w2 ⟨rfl, rfl⟩
      go_wp2_with fail
      go_loopw [4, 13] (fun v i wr => ∃ (k : Nat) (us : List Nat) (r' : List UInt8) (A : Option Addr) (c : Nat), k ≤ n ∧ i = .int .i64 k ∧ v = .slice A k c ∧ Hid (foursP k r = .ok (us, r')) ∧ Hid (wr.ownsRow w.heap.size 25 1 (.slice A k c) k (uvals us)) ∧ Hid (RdL wr g s r') ∧ Hid (Only g w wr) ∧ Hid (wr.heap[w.heap.size]? = some (.cells #[.pointer (some ⟨g, 0, none⟩)] 110 (0, 0)))) (fun _ i _ => n - (intOf i).toNat)
      case atStart => exact ⟨0, [], r, none, 0, by omega, rfl, rfl, rfl, World.ownsRow_nil _ _ _ _, HR1, HO1, HB1⟩
      case round =>
        clear HR1 HO1 HB1
        obtain ⟨k, us, r', A, c, hk, rfl, rfl, HF, HW, HR, HO, HB⟩ := hrel
        by_cases hlt : k < n
        · have hbox := blk_cell HB.out
          have HN := Lib.hid (rnum_any g s r' 4 wr HR.out hs (by omega))
          cases h4 : numP 4 r' with
          | error x =>
            rw [h4] at HN
            go_wp2_with fail
            refine HN.out.mono ?_
            rintro e w3 ⟨rfl, ho3⟩
            go_wp2_with fail
            rw [foursP_stop hlt HF.out h4]
            exact ⟨rfl, rfl, HO.out.trans ho3⟩
          | ok y =>
            obtain ⟨v, r''⟩ := y
            have hv4 : v < 4294967296 := (numP_ok h4).1
            rw [h4] at HN
            have eu : IntKind.u32.wrap (v : Int) = (v : Int) := by rw [IntKind.wrap_u32]; omega
            go_wp2_with fail
            refine HN.out.mono ?_
            rintro e w3 ⟨rfl, hr3, ho3⟩
            have HR3 := Lib.hid hr3
            have HO3 := Lib.hid (HO.out.trans ho3)
            have hWs := HW.out
            have hap := own_apart_any HB.out hWs (by decide)
            have hgA : (Value.slice A k c).ownBlock = none ∨ (Value.slice A k c).ownBlock ≠ some g := by
              cases hq : (Value.slice A k c).ownBlock with
              | none => exact .inl rfl
              | some q => exact .inr (by have := own_base_any hWs hq; intro e; injection e with e; omega)
            have HW3 := Lib.hid (hWs.kept ho3 hgA)
            have HB3 := Lib.hid ((ho3.block w.heap.size (blk_lt HB.out) (by simpa using n1)).trans HB.out)
            clear HN hr3 ho3 hWs hgA hbox
            go_wp2_with (at_builtin; refine wpList_append_own _ rfl _ _ 68 rfl w.heap.size 25 i0 (.int .u32 0) 1 4 Try.underlying68 hi hz0 hz1 hz2 rfl (by decide) _ _ _ rfl (HW3.out.alloc _) ⟨w3.heap.size, 0, none⟩ 1 1 [.int .u32 (v : Int)] rfl rfl ?c1 ?c2 ?c3 ?c4 ?c5 ?_)
            case c1 =>
              intro j u hj
              match j, hj with
              | 0, hj => simp at hj; subst hj; simp [Addr.add]
            case c2 => intro u hu; simp at hu; subst hu; rfl
            case c3 => unfold maxLen; omega
            case c4 => omega
            case c5 => have := HO3.out.size; simp; omega
            · intro v' w4 hown hgrow _
              obtain ⟨A', c', rfl⟩ := own_form_any hown
              have hsz := HO3.out.size
              have hneg : some g ≠ (Value.slice A k c).ownBlock := fun e => by
                have := own_base_any HW3.out e.symm
                omega
              have HR4 := Lib.hid ((HR3.out.kept (below_alloc (Below.refl _ _) (.cells #[.int .u32 (v : Int)] 25))).grown hgrow hneg)
              have HO4 := Lib.hid ((HO3.out.trans (Only.of_below (below_alloc (Below.refl _ _) (.cells #[.int .u32 (v : Int)] 25)))).rows hgrow (fun q hq => own_base_any HW3.out hq))
              have HB4 := Lib.hid ((hgrow.block w.heap.size (by have := blk_lt HB3.out; simp; omega) (fun e => hap e.symm)).trans ((Below.heap_alloc w3 (.cells #[.int .u32 (v : Int)] 25) w.heap.size (blk_lt HB3.out)).trans HB3.out))
              have hus : uvals us ++ [.int .u32 (v : Int)] = uvals (us ++ [v]) := by simp [uvals]
              rw [hus] at hown
              have HW4 := Lib.hid hown
              clear hown hgrow HR3 HO3 HB3 HW3 hap hneg
              go_wp2_with fail
              go_roundw
              case rel => exact ⟨k + 1, us ++ [v], r'', A', c', by omega, by go_num, rfl, foursP_snoc HF.out h4, HW4, HR4, HO4, HB4⟩
              case measure => simp [intOf]; omega
        · obtain rfl : k = n := by omega
          go_wp2_with fail
          go_ret
          rw [HF.out]
          obtain ⟨hl, hu⟩ := foursP_len HF.out
          subst hl
          exact ⟨⟨A, c, rfl, HW.out⟩, hu, HR.out, HO.out⟩
end Go.Proofs.Ythkfgjdbgnbjkaa
