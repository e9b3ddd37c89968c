/- The walk of the reference's taker: vector. -/
import Derived.Test.YthkfgjdbgnbjkaaPkTl
namespace Go.Proofs.Ythkfgjdbgnbjkaa
open Go.RowKit Go.Sort
set_option linter.unusedSimpArgs false
set_option linter.unusedVariables false

/-- entries ahead of a result. -/
def pre (us : List Nat) : In (List Nat) → In (List Nat)
  | .ok (vs, l) => .ok (us ++ vs, l)
  | .error c => .error c
theorem pre_nil (r : In (List Nat)) : pre [] r = r := by
  cases r with
  | ok x => rfl
  | error c => rfl
theorem pre_ret (us : List Nat) (st : St) : pre us (via (foursP 0) st) = ret us st := by
  cases st with
  | ok l => simp [via, foursP, pre, ret]
  | error c => rfl
theorem foursP_pre {us : List Nat} {k : Nat} {st st' : St} {v : Nat} (h : via (numP 4) st = ret v st') : pre us (via (foursP (k + 1)) st) = pre (us ++ [v]) (via (foursP k) st') := by
  rw [show via (foursP (k + 1)) st = via (fun l => andP (numP 4 l) fun v r => andP (foursP k r) fun vs r => .ok (v :: vs, r)) st from by cases st <;> rfl, via_and h]
  cases st' with
  | error c => rfl
  | ok l =>
    show pre us (andP (foursP k l) fun vs r => .ok (v :: vs, r)) = pre (us ++ [v]) (foursP k l)
    cases foursP k l with
    | error c => rfl
    | ok x => simp [andP, pre]
theorem vecP_via {st st1 : St} {n : Nat} (h : via (numP 1) st = ret n st1) : via vecP st = via (foursP n) (badT 3 (decide (64 < n)) st1) := by
  rw [show vecP = (fun l => andP (numP 1 l) fun n r => if 64 < n then .error 3 else foursP n r) from rfl, via_and h]
  rw [show (fun r => if 64 < n then (.error 3 : In (List Nat)) else foursP n r) = (fun r => if decide (64 < n) then (.error 3 : In (List Nat)) else foursP n r) from funext fun r => by
    by_cases hh : 64 < n
    · rw [if_pos hh, decide_eq_true hh]
      rfl
    · rw [if_neg hh, decide_eq_false hh]
      rfl]
  exact via_bad st1
theorem badT_ok {c : Int} {b : Bool} {st : St} {l : List UInt8} (h : badT c b st = .ok l) : b = false ∧ st = .ok l := by
  cases st with
  | ok k => cases b with
    | true => cases h
    | false => cases h; exact ⟨rfl, rfl⟩
  | error e => cases h

set_option maxHeartbeats 3200000 in
set_option maxRecDepth 8000 in
theorem tvec (g : Nat) (s : ByteArray) (m : Nat) (st : St) (w : World) (h : Tk w g s m st) (hs : s.size ≤ 1000000) (hm : m ≤ 1900000) :
    Calls Try.prog 95 #[.pointer (some ⟨g, 0, none⟩)] w fun e w' => ∃ (us : List Nat) (A : Option Addr) (c : Nat) (st' : St), e = .returned (.slice A us.length c) ∧ w'.ownsRow w.heap.size 25 1 (.slice A us.length c) us.length (uvals us) ∧
      via vecP st = ret us st' ∧ Tk w' g s (m + 2080) st' ∧ Only g w w' := by
  have hg := h.lt
  have HN := Lib.hid (tnum g s m 1 st w h hs (by omega) (by omega) (by omega))
  clear h
  obtain ⟨i0, hi, hz0, hz1, hz2⟩ := parts25
  obtain ⟨R, hR0⟩ : ∃ R, R = via vecP st := ⟨_, rfl⟩
  rw [← hR0]
  have HR0 := Lib.hid hR0
  clear hR0
  go_enter Try.func95, Try.ntmps95
  go_wp2_with fail
  refine HN.out.mono ?_
  rintro e w1 ⟨n, st1, rfl, hn, hvia, hT, ho⟩
  have HV := Lib.hid (HR0.out.trans (vecP_via hvia))
  have HO := Lib.hid ho
  have ew : IntKind.i64.wrap (n : Int) = (n : Int) := IntWalk.i64_in _ (by omega)
  obtain ⟨b, hb⟩ : ∃ b, b = decide (64 < n) := ⟨_, rfl⟩
  have hdd : decide (64 < (n : Int)) = b := by
    rw [hb]
    by_cases hh : 64 < n <;> simp [hh] <;> omega
  have HB := Lib.hid (tbad_any g s (m + 8) st1 3 b w1 hT (by decide))
  have HSM := Lib.hid (show ∀ l, badT 3 b st1 = .ok l → n ≤ 64 from fun l hl => by
    have h1 := (badT_ok hl).1
    rw [hb] at h1
    simpa using h1)
  rw [← hb] at HV
  clear hvia HN ho hT hb
  go_wp2_with fail
  refine HB.out.mono ?_
  rintro e w2 ⟨rfl, hT2, ho2⟩
  have HT := Lib.hid hT2
  have HO2 := Lib.hid (HO.out.trans ho2)
  have HF0 := Lib.hid (HV.out.trans (pre_nil _).symm)
  clear HB hT2 ho2 HO HV HR0
  generalize badT 3 b st1 = st2 at *
  go_wp2_with fail
  go_loopw [4, 5] (fun v i wr => ∃ (k : Nat) (us : List Nat) (st' : St) (A : Option Addr) (c : Nat), k ≤ n ∧ k ≤ 64 ∧ us.length = k ∧ i = .int .i64 k ∧ v = .slice A k c ∧ Hid (R = pre us (via (foursP (n - k)) st')) ∧ Hid (∀ l, st' = .ok l → n ≤ 64) ∧ Hid (wr.ownsRow w.heap.size 25 1 (.slice A k c) k (uvals us)) ∧ Hid (Tk wr g s (m + 8 + 8 * k) st') ∧ Hid (Only g w wr)) (fun _ i _ => n - (intOf i).toNat)
  case atStart => exact ⟨0, [], st2, none, 0, by omega, by omega, rfl, rfl, rfl, HF0, HSM, World.ownsRow_nil _ _ _ _, HT, HO2⟩
  case round =>
    clear HT HO2 HSM HF0
    obtain ⟨k, us, st', A, c, hk, hk64, hlen, rfl, rfl, HF, HSM, HW, HR, HO⟩ := hrel
    by_cases hlt : k < n
    · have hdlt : decide ((k : Int) < (n : Int)) = true := by simp; omega
      cases st' with
      | error x =>
        obtain ⟨p, hb, hp, hx, hsm⟩ := HR.out
        have k2 := cell_of_row _ _ 2 _ _ _ hb
        simp at k2
        have hdx : decide (x = 0) = false := by simpa using hx
        clear hb
        go_wp2_with fail
        go_ret
        subst hlen
        refine ⟨us, A, c, _, rfl, HW.out, ?_, HR.out.mono (by omega), HO.out⟩
        rw [HF.out]
        rfl
      | ok l =>
        have hn64 := HSM.out l rfl
        obtain ⟨p, hb, hp, hpl, hsm⟩ := HR.out
        have k2 := cell_of_row _ _ 2 _ _ _ hb
        simp at k2
        clear hb hpl hp
        have HN := Lib.hid (tnum g s (m + 8 + 8 * k) 4 _ wr HR.out hs (by omega) (by omega) (by omega))
        go_wp2_with fail
        refine HN.out.mono ?_
        rintro e w3 ⟨v, st3, rfl, hv, hvia, hT3, ho3⟩
        have hv4 : v < 4294967296 := hv
        have eu : IntKind.u32.wrap (v : Int) = (v : Int) := by rw [IntKind.wrap_u32]; omega
        have HV3 := Lib.hid hvia
        have HR3 := Lib.hid hT3
        have HO3 := Lib.hid (HO.out.trans ho3)
        have hWs := HW.out
        have hgA : (Value.slice A k c).ownBlock = none ∨ (Value.slice A k c).ownBlock ≠ some g := by
          cases hq : (Value.slice A k c).ownBlock with
          | none => exact .inl rfl
          | some q => exact .inr (by have := own_base_any hWs hq; intro e; injection e with e; omega)
        have HW3 := Lib.hid (hWs.kept ho3 hgA)
        clear HN hT3 ho3 hWs hgA hvia hv k2
        go_wp2_with (at_builtin; refine wpList_append_own _ rfl _ _ 68 rfl w.heap.size 25 i0 (.int .u32 0) 1 4 Try.underlying68 hi hz0 hz1 hz2 rfl (by decide) _ _ _ rfl (HW3.out.alloc _) ⟨w3.heap.size, 0, none⟩ 1 1 [.int .u32 (v : Int)] rfl rfl ?c1 ?c2 ?c3 ?c4 ?c5 ?_)
        case c1 =>
          intro j u hj
          match j, hj with
          | 0, hj => simp at hj; subst hj; simp [Addr.add]
        case c2 => intro u hu; simp at hu; subst hu; rfl
        case c3 => unfold maxLen; omega
        case c4 => omega
        case c5 => have := HO3.out.size; simp; omega
        · intro v' w4 hown hgrow _
          obtain ⟨A', c', rfl⟩ := own_form_any hown
          have hsz := HO3.out.size
          have hneg : some g ≠ (Value.slice A k c).ownBlock := fun e => by
            have := own_base_any HW3.out e.symm
            omega
          have hal := (below_alloc (Below.refl w3.heap.size w3) (.cells #[.int .u32 (v : Int)] 25))
          have hTa := HR3.out.kept hal
          have HR4 := Lib.hid (hTa.of_blk (hgrow.block g hTa.lt hneg))
          have HO4 := Lib.hid ((HO3.out.trans (Only.of_below hal)).rows hgrow (fun q hq => own_base_any HW3.out hq))
          have hus : uvals us ++ [.int .u32 (v : Int)] = uvals (us ++ [v]) := by simp [uvals]
          rw [hus] at hown
          have HW4 := Lib.hid hown
          have HF4 := Lib.hid (show R = pre (us ++ [v]) (via (foursP (n - (k + 1))) st3) from by
            rw [HF.out, show n - k = (n - (k + 1)) + 1 by omega]
            exact foursP_pre HV3.out)
          clear hown hgrow HR3 HO3 HW3 hneg hal hTa
          go_wp2_with fail
          go_roundw
          case rel => exact ⟨k + 1, us ++ [v], st3, A', c', by omega, by omega, by simp [hlen], by go_num, rfl, HF4, Lib.hid (fun _ _ => hn64), HW4, Lib.hid (HR4.out.mono (by omega)), HO4⟩
          case measure => simp [intOf]; omega
    · obtain rfl : k = n := by omega
      have hdlt : decide ((k : Int) < (k : Int)) = false := by simp
      go_wp2_with fail
      go_ret
      subst hlen
      refine ⟨us, A, c, _, rfl, HW.out, ?_, HR.out.mono (by omega), HO.out⟩
      rw [HF.out, Nat.sub_self]
      exact pre_ret us st'
end Go.Proofs.Ythkfgjdbgnbjkaa
