/- Packets, there and back, in plain Lean. -/
import Derived.Test.YthkfgjdbgnbjkaaPkS
namespace Go.Proofs.Ythkfgjdbgnbjkaa
set_option linter.unusedSimpArgs false
set_option linter.unusedVariables false

theorem andP_ok {α β : Type} {x : In α} {f : α → List UInt8 → In β} {y : β × List UInt8} (h : andP x f = .ok y) : ∃ a r, x = .ok (a, r) ∧ f a r = .ok y := by
  unfold andP at h
  split at h
  · cases h
  · rename_i a r
    exact ⟨a, r, rfl, h⟩

/-! ### Read, then written -/
def Inv {α : Type} (P : List UInt8 → In α) (W : α → Out) : Prop := ∀ l a r, P l = .ok (a, r) → ∃ b, W a = .ok b ∧ l = b ++ r
theorem numP_bytes {n : Nat} {l r : List UInt8} {v : Nat} (h : numP n l = .ok (v, r)) : l = NumM.be n v ++ r := by
  obtain ⟨_, hn, rfl, rfl⟩ := numP_ok h
  have hl : (l.take n).length = n := by rw [List.length_take]; omega
  have hb := NumM.be_val (l.take n)
  rw [hl] at hb
  rw [hb, List.take_append_drop]
theorem inv_proc : Inv procP procW := by
  intro l a r h
  obtain ⟨v, r1, h1, h2⟩ := andP_ok h
  split at h2
  · cases h2
  · cases h2
    rename_i h64
    refine ⟨NumM.be 1 v, ?_, numP_bytes h1⟩
    unfold procW
    rw [if_neg (by omega)]
    simp
theorem inv_conf : Inv confP confW := by
  intro l a r h
  obtain ⟨e, r1, h1, h⟩ := andP_ok h
  obtain ⟨p, r2, h2, h⟩ := andP_ok h
  cases h
  obtain ⟨b, hb, rfl⟩ := inv_proc _ _ _ h2
  refine ⟨NumM.be 8 e ++ b, ?_, ?_⟩
  · unfold confW
    simp only [hb, cat]
  · rw [numP_bytes h1, List.append_assoc]
theorem inv_key : Inv keyP keyW := by
  intro l a r h
  obtain ⟨e, r1, h1, h⟩ := andP_ok h
  obtain ⟨p, r2, h2, h⟩ := andP_ok h
  cases h
  obtain ⟨b, hb, rfl⟩ := inv_proc _ _ _ h2
  refine ⟨NumM.be 8 e ++ b, ?_, ?_⟩
  · unfold keyW
    simp only [hb, cat]
  · rw [numP_bytes h1, List.append_assoc]
theorem inv_fours : ∀ (n : Nat) (l : List UInt8) (vs : List Nat) (r : List UInt8), foursP n l = .ok (vs, r) → l = fours vs ++ r
  | 0, l, vs, r, h => by cases h; rfl
  | n + 1, l, vs, r, h => by
    rw [foursP] at h
    obtain ⟨v, r1, h1, h⟩ := andP_ok h
    obtain ⟨ws, r2, h2, h⟩ := andP_ok h
    cases h
    rw [numP_bytes h1, inv_fours n _ _ _ h2, fours, List.append_assoc]
theorem vecP_small {l r : List UInt8} {vs : List Nat} (h : vecP l = .ok (vs, r)) : vs.length ≤ 64 ∧ ∀ v ∈ vs, v < 4294967296 := by
  obtain ⟨n, r1, h1, h⟩ := andP_ok h
  split at h
  · cases h
  · rename_i h64
    obtain ⟨hl, hv⟩ := foursP_len h
    exact ⟨by omega, hv⟩
theorem inv_vec : Inv vecP vecW := by
  intro l a r h
  have hs := (vecP_small h).1
  obtain ⟨n, r1, h1, h⟩ := andP_ok h
  split at h
  · cases h
  · obtain ⟨hl, hv⟩ := foursP_len h
    subst hl
    refine ⟨NumM.be 1 a.length ++ fours a, ?_, ?_⟩
    · unfold vecW
      rw [if_neg (by omega)]
    · rw [numP_bytes h1, inv_fours _ _ _ _ h, List.append_assoc]
theorem textP_bytes {n : Nat} {l r : List UInt8} {t : ByteArray} (h : textP n l = .ok (t, r)) : l = t.data.toList ++ r ∧ t.size = n := by
  refine ⟨?_, textP_size h⟩
  unfold textP at h
  split at h
  · cases h
  · cases h
    simp
theorem inv_msg {src : Int} {l r : List UInt8} {m : Ms} (h : msgP src l = .ok (m, r)) : (∃ b, msgW m = .ok b ∧ l = b ++ r) ∧ m.src = src ∧ m.deps.length ≤ 64 := by
  obtain ⟨seq, r1, h1, h⟩ := andP_ok h
  obtain ⟨stamp, r2, h2, h⟩ := andP_ok h
  obtain ⟨svc, r3, h3, h⟩ := andP_ok h
  split at h
  · cases h
  rename_i hsv
  obtain ⟨deps, r4, h4, h⟩ := andP_ok h
  obtain ⟨n, r5, h5, h⟩ := andP_ok h
  split at h
  · cases h
  rename_i hn
  obtain ⟨t, r6, h6, h⟩ := andP_ok h
  cases h
  obtain ⟨b, hb, e4⟩ := inv_vec _ _ _ h4
  obtain ⟨e6, hts⟩ := textP_bytes h6
  refine ⟨⟨NumM.be 4 seq ++ NumM.be 8 stamp ++ NumM.be 1 svc ++ (b ++ (NumM.be 2 t.size ++ t.data.toList)), ?_, ?_⟩, rfl, (vecP_small h4).1⟩
  · unfold msgW
    dsimp only
    rw [if_neg (by omega), if_neg (by omega), hb]
    simp only [cat, Int.toNat_natCast]
  · rw [numP_bytes h1, numP_bytes h2, numP_bytes h3, e4, numP_bytes h5, e6, hts]
    simp only [List.append_assoc]
theorem inv_ex : Inv exP exW := by
  intro l a r h
  obtain ⟨who, r1, h1, h⟩ := andP_ok h
  obtain ⟨old, r2, h2, h⟩ := andP_ok h
  obtain ⟨cnt, r3, h3, h⟩ := andP_ok h
  obtain ⟨last, r4, h4, h⟩ := andP_ok h
  cases h
  obtain ⟨b1, g1, rfl⟩ := inv_proc _ _ _ h1
  obtain ⟨b2, g2, rfl⟩ := inv_conf _ _ _ h2
  obtain ⟨b3, g3, rfl⟩ := inv_vec _ _ _ h3
  obtain ⟨b4, g4, rfl⟩ := inv_key _ _ _ h4
  refine ⟨b1 ++ (b2 ++ (b3 ++ b4)), ?_, by simp only [List.append_assoc]⟩
  unfold exW
  simp only [g1, g2, g3, g4, cat]
theorem exP_small {l r : List UInt8} {x : Ex} (h : exP l = .ok (x, r)) : x.cnt.length ≤ 64 := by
  obtain ⟨who, r1, h1, h⟩ := andP_ok h
  obtain ⟨old, r2, h2, h⟩ := andP_ok h
  obtain ⟨cnt, r3, h3, h⟩ := andP_ok h
  obtain ⟨last, r4, h4, h⟩ := andP_ok h
  cases h
  exact (vecP_small h3).1
theorem inv_exs : ∀ (n : Nat) (l : List UInt8) (vs : List Ex) (r : List UInt8), exsP n l = .ok (vs, r) → (∃ b, exsW vs = .ok b ∧ l = b ++ r) ∧ vs.length = n ∧ ∀ x ∈ vs, x.cnt.length ≤ 64
  | 0, l, vs, r, h => by cases h; exact ⟨⟨[], rfl, rfl⟩, rfl, fun x hx => by cases hx⟩
  | n + 1, l, vs, r, h => by
    rw [exsP] at h
    obtain ⟨v, r1, h1, h⟩ := andP_ok h
    obtain ⟨ws, r2, h2, h⟩ := andP_ok h
    cases h
    obtain ⟨b1, g1, rfl⟩ := inv_ex _ _ _ h1
    obtain ⟨⟨b2, g2, rfl⟩, hl, hc⟩ := inv_exs n _ _ _ h2
    refine ⟨⟨b1 ++ b2, ?_, by rw [List.append_assoc]⟩, by rw [List.length_cons, hl], fun x hx => ?_⟩
    · rw [exsW, g1, g2, cat]
    · rcases List.mem_cons.1 hx with rfl | hx
      · exact exP_small h1
      · exact hc x hx
/-- what of a packet is a list is short. -/
structure Pk.small (n : Nat) (p : Pk) : Prop where
  m : p.m.deps.length ≤ n
  got : p.got.length ≤ n
  x : p.x.length ≤ n
  c : ∀ e ∈ p.x, e.cnt.length ≤ n
theorem Pk.small.mono {n k : Nat} {p : Pk} (h : p.small n) (hk : n ≤ k) : p.small k := ⟨Nat.le_trans h.m hk, Nat.le_trans h.got hk, Nat.le_trans h.x hk, fun e he => Nat.le_trans (h.c e he) hk⟩
/-- .. and bears to be gone through. -/
structure Pk.okay (p : Pk) : Prop where
  m : p.m.deps.length ≤ 35184372088832
  got : p.got.length ≤ 35184372088832
  x : p.x.length ≤ 1000000
  c : ∀ e ∈ p.x, e.cnt.length ≤ 35184372088832
theorem Pk.small.okay {n : Nat} {p : Pk} (h : p.small n) (hk : n ≤ 1000000) : p.okay := ⟨by have := h.m; omega, by have := h.got; omega, by have := h.x; omega, fun e he => by have := h.c e he; omega⟩
theorem inv_body {k f t : Int} {l : List UInt8} {p : Pk} (hk : 1 ≤ k ∧ k ≤ 11) (h : bodyP k f t l = .ok p) : bodyW p = .ok l ∧ cleanF p = p ∧ p.kind = k ∧ p.src = f ∧ p.dst = t ∧ p.small 64 := by
  have nil64 : ∀ e ∈ ([] : List Ex), e.cnt.length ≤ 64 := fun e he => by cases he
  unfold bodyP at h
  split at h
  · cases h
  rename_i q r hq
  split at h
  · rename_i hr
    cases h
    subst hr
    obtain ⟨c, r1, h1, h⟩ := andP_ok hq
    obtain ⟨b1, g1, rfl⟩ := inv_conf _ _ _ h1
    suffices ∃ b, restW p = .ok b ∧ r1 = b ∧ p.conf = c ∧ cleanF p = p ∧ p.kind = k ∧ p.src = f ∧ p.dst = t ∧ p.small 64 by
      obtain ⟨b, e1, rfl, e3, e4, e5, e6, e7, e8⟩ := this
      refine ⟨?_, e4, e5, e6, e7, e8⟩
      unfold bodyW
      rw [e3, g1, e1, cat]
    obtain rfl | rfl | rfl | rfl | rfl | rfl | rfl | rfl | rfl | rfl | rfl : k = 1 ∨ k = 2 ∨ k = 3 ∨ k = 4 ∨ k = 5 ∨ k = 6 ∨ k = 7 ∨ k = 8 ∨ k = 9 ∨ k = 10 ∨ k = 11 := by omega
    · obtain ⟨m, r2, h2, h⟩ := andP_ok (show andP (msgP f r1) _ = _ from h)
      cases h
      obtain ⟨⟨b, g, e⟩, hs, hd⟩ := inv_msg h2
      rw [List.append_nil] at e
      exact ⟨b, g, e, rfl, by unfold cleanF; simp [Pk.zero, ← hs], rfl, rfl, rfl, ⟨hd, by simp [Pk.zero], by simp [Pk.zero], nil64⟩⟩
    · obtain ⟨stamp, r2, h2, h⟩ := andP_ok (show andP (numP 8 r1) _ = _ from h)
      obtain ⟨sent, r3, h3, h⟩ := andP_ok h
      obtain ⟨got, r4, h4, h⟩ := andP_ok h
      obtain ⟨ho, r5, h5, h⟩ := andP_ok h
      cases h
      obtain ⟨b, g, e⟩ := inv_vec _ _ _ h4
      refine ⟨NumM.be 8 stamp ++ NumM.be 4 sent ++ (b ++ NumM.be 8 ho), ?_, ?_, rfl, by unfold cleanF; simp [Pk.zero], rfl, rfl, rfl, ⟨by simp [Pk.zero, Ms.zero], (vecP_small h4).1, by simp [Pk.zero], nil64⟩⟩
      · unfold restW
        simp [Pk.zero, g, cat]
      · rw [numP_bytes h2, numP_bytes h3, e, numP_bytes h5]
        simp
    · obtain ⟨wh, r2, h2, h⟩ := andP_ok (show andP (procP r1) _ = _ from h)
      obtain ⟨sq, r3, h3, h⟩ := andP_ok h
      cases h
      obtain ⟨b, g, e⟩ := inv_proc _ _ _ h2
      refine ⟨b ++ NumM.be 4 sq, ?_, ?_, rfl, by unfold cleanF; simp [Pk.zero], rfl, rfl, rfl, ⟨by simp [Pk.zero, Ms.zero], by simp [Pk.zero], by simp [Pk.zero], nil64⟩⟩
      · unfold restW
        simp [Pk.zero, g, cat]
      · rw [e, numP_bytes h3]
        simp
    · obtain ⟨c2, r2, h2, h⟩ := andP_ok (show andP (confP r1) _ = _ from h)
      obtain ⟨ep, r3, h3, h⟩ := andP_ok h
      obtain ⟨me, r4, h4, h⟩ := andP_ok h
      cases h
      obtain ⟨b, g, e⟩ := inv_conf _ _ _ h2
      refine ⟨b ++ (NumM.be 8 ep ++ NumM.be 8 me), ?_, ?_, rfl, by unfold cleanF; simp [Pk.zero], rfl, rfl, rfl, ⟨by simp [Pk.zero, Ms.zero], by simp [Pk.zero], by simp [Pk.zero], nil64⟩⟩
      · unfold restW
        simp [Pk.zero, g, cat]
      · rw [e, numP_bytes h3, numP_bytes h4]
        simp
    · obtain ⟨me, r2, h2, h⟩ := andP_ok (show andP (numP 8 r1) _ = _ from h)
      cases h
      refine ⟨NumM.be 8 me, ?_, ?_, rfl, by unfold cleanF; simp [Pk.zero], rfl, rfl, rfl, ⟨by simp [Pk.zero, Ms.zero], by simp [Pk.zero], by simp [Pk.zero], nil64⟩⟩
      · unfold restW
        simp [Pk.zero]
      · rw [numP_bytes h2]
        simp
    · obtain ⟨x, r2, h2, h⟩ := andP_ok (show andP (exP r1) _ = _ from h)
      cases h
      obtain ⟨b, g, e⟩ := inv_ex _ _ _ h2
      refine ⟨b, ?_, by simpa using e, rfl, by unfold cleanF; simp [Pk.zero], rfl, rfl, rfl, ⟨by simp [Pk.zero, Ms.zero], by simp [Pk.zero], by simp, fun y hy => by rw [List.mem_singleton.1 hy]; exact exP_small h2⟩⟩
      unfold restW
      simp [Pk.zero, g]
    · obtain ⟨me, r2, h2, h⟩ := andP_ok (show andP (numP 8 r1) _ = _ from h)
      obtain ⟨n, r3, h3, h⟩ := andP_ok h
      split at h
      · cases h
      rename_i h64
      obtain ⟨xs, r4, h4, h⟩ := andP_ok h
      cases h
      obtain ⟨⟨b, g, e⟩, hl, hc⟩ := inv_exs _ _ _ _ h4
      subst hl
      refine ⟨NumM.be 8 me ++ NumM.be 1 xs.length ++ b, ?_, ?_, rfl, by unfold cleanF; simp [Pk.zero], rfl, rfl, rfl, ⟨by simp [Pk.zero, Ms.zero], by simp [Pk.zero], by show xs.length ≤ 64; omega, hc⟩⟩
      · unfold restW
        simp [Pk.zero, g, cat, h64]
      · rw [numP_bytes h2, numP_bytes h3, e]
        simp
    · obtain ⟨wh, r2, h2, h⟩ := andP_ok (show andP (procP r1) _ = _ from h)
      obtain ⟨sq, r3, h3, h⟩ := andP_ok h
      cases h
      obtain ⟨b, g, e⟩ := inv_proc _ _ _ h2
      refine ⟨b ++ NumM.be 4 sq, ?_, ?_, rfl, by unfold cleanF; simp [Pk.zero], rfl, rfl, rfl, ⟨by simp [Pk.zero, Ms.zero], by simp [Pk.zero], by simp [Pk.zero], nil64⟩⟩
      · unfold restW
        simp [Pk.zero, g, cat]
      · rw [e, numP_bytes h3]
        simp
    · obtain ⟨wh, r2, h2, h⟩ := andP_ok (show andP (procP r1) _ = _ from h)
      obtain ⟨m, r3, h3, h⟩ := andP_ok h
      cases h
      obtain ⟨b, g, e⟩ := inv_proc _ _ _ h2
      obtain ⟨⟨b2, g2, e2⟩, hs, hd⟩ := inv_msg h3
      refine ⟨b ++ b2, ?_, ?_, rfl, by unfold cleanF; simp [Pk.zero, ← hs], rfl, rfl, rfl, ⟨hd, by simp [Pk.zero], by simp [Pk.zero], nil64⟩⟩
      · unfold restW
        simp [Pk.zero, g, g2, cat]
      · rw [e, e2]
        simp
    · cases (show Except.ok (_, r1) = _ from h)
      exact ⟨[], rfl, rfl, rfl, by unfold cleanF; simp [Pk.zero], rfl, rfl, rfl, ⟨by simp [Pk.zero, Ms.zero], by simp [Pk.zero], by simp [Pk.zero], nil64⟩⟩
    · cases (show Except.ok (_, r1) = _ from h)
      exact ⟨[], rfl, rfl, rfl, by unfold cleanF; simp [Pk.zero], rfl, rfl, rfl, ⟨by simp [Pk.zero, Ms.zero], by simp [Pk.zero], by simp [Pk.zero], nil64⟩⟩
  · cases h
/-! ### No refusal bears the number 0 -/
def Nz {α : Type} (x : In α) : Prop := ∀ c, x = .error c → c ≠ 0
theorem nz_and {α β : Type} {x : In α} {f : α → List UInt8 → In β} (h : Nz x) (hf : ∀ a r, Nz (f a r)) : Nz (andP x f) := by
  intro c hc
  unfold andP at hc
  split at hc
  · cases hc; exact h c rfl
  · exact hf _ _ c hc
theorem nz_ok {α : Type} (y : α × List UInt8) : Nz (.ok y) := fun c h => by cases h
theorem nz_err {α : Type} {z : Int} (hz : z ≠ 0) : Nz (.error z : In α) := fun c h => by cases h; exact hz
theorem nz_ite {α : Type} {q : Prop} [Decidable q] {z : Int} (hz : z ≠ 0) {y : In α} (h : Nz y) : Nz (if q then .error z else y) := by
  split
  · exact nz_err hz
  · exact h
theorem nz_num (n : Nat) (l : List UInt8) : Nz (numP n l) := nz_ite (by decide) (nz_ok _)
theorem nz_proc (l : List UInt8) : Nz (procP l) := nz_and (nz_num _ _) fun _ _ => nz_ite (by decide) (nz_ok _)
theorem nz_conf (l : List UInt8) : Nz (confP l) := nz_and (nz_num _ _) fun _ _ => nz_and (nz_proc _) fun _ _ => nz_ok _
theorem nz_key (l : List UInt8) : Nz (keyP l) := nz_and (nz_num _ _) fun _ _ => nz_and (nz_proc _) fun _ _ => nz_ok _
theorem nz_fours : ∀ (n : Nat) (l : List UInt8), Nz (foursP n l)
  | 0, l => nz_ok _
  | n + 1, l => nz_and (nz_num _ _) fun _ _ => nz_and (nz_fours n _) fun _ _ => nz_ok _
theorem nz_vec (l : List UInt8) : Nz (vecP l) := nz_and (nz_num _ _) fun _ _ => nz_ite (by decide) (nz_fours _ _)
theorem nz_text (n : Nat) (l : List UInt8) : Nz (textP n l) := nz_ite (by decide) (nz_ok _)
theorem nz_msg (src : Int) (l : List UInt8) : Nz (msgP src l) :=
  nz_and (nz_num _ _) fun _ _ => nz_and (nz_num _ _) fun _ _ => nz_and (nz_num _ _) fun _ _ => nz_ite (by decide) (nz_and (nz_vec _) fun _ _ => nz_and (nz_num _ _) fun _ _ => nz_ite (by decide) (nz_and (nz_text _ _) fun _ _ => nz_ok _))
theorem nz_ex (l : List UInt8) : Nz (exP l) := nz_and (nz_proc _) fun _ _ => nz_and (nz_conf _) fun _ _ => nz_and (nz_vec _) fun _ _ => nz_and (nz_key _) fun _ _ => nz_ok _
theorem nz_exs : ∀ (n : Nat) (l : List UInt8), Nz (exsP n l)
  | 0, l => nz_ok _
  | n + 1, l => nz_and (nz_ex _) fun _ _ => nz_and (nz_exs n _) fun _ _ => nz_ok _
theorem nz_rest (p : Pk) (l : List UInt8) : Nz (restP p l) := by
  unfold restP
  split
  · exact nz_and (nz_msg _ _) fun _ _ => nz_ok _
  split
  · exact nz_and (nz_num _ _) fun _ _ => nz_and (nz_num _ _) fun _ _ => nz_and (nz_vec _) fun _ _ => nz_and (nz_num _ _) fun _ _ => nz_ok _
  split
  · exact nz_and (nz_proc _) fun _ _ => nz_and (nz_num _ _) fun _ _ => nz_ok _
  split
  · exact nz_and (nz_conf _) fun _ _ => nz_and (nz_num _ _) fun _ _ => nz_and (nz_num _ _) fun _ _ => nz_ok _
  split
  · exact nz_and (nz_num _ _) fun _ _ => nz_ok _
  split
  · exact nz_and (nz_ex _) fun _ _ => nz_ok _
  split
  · exact nz_and (nz_num _ _) fun _ _ => nz_and (nz_num _ _) fun _ _ => nz_ite (by decide) (nz_and (nz_exs _ _) fun _ _ => nz_ok _)
  split
  · exact nz_and (nz_proc _) fun _ _ => nz_and (nz_msg _ _) fun _ _ => nz_ok _
  · exact nz_ok _
theorem bodyP_zero {k f t : Int} {l : List UInt8} (h : bodyP k f t l = .error 0) : False := by
  unfold bodyP at h
  split at h
  · rename_i c hc
    cases h
    exact nz_and (nz_conf l) (fun c r => nz_rest _ r) _ hc rfl
  · split at h <;> cases h
theorem Pk.zero_small : Pk.zero.small 64 := ⟨Nat.zero_le _, Nat.zero_le _, Nat.zero_le _, fun e he => by cases he⟩
theorem printE_short {k f t : Int} {b : ByteArray} (h : printE k f t b = 0) : printE k f t ⟨#[]⟩ = 0 := by
  obtain ⟨⟨a1, a2⟩, ⟨a3, a4⟩, ⟨a5, a6⟩, _⟩ := printE_zero h
  rw [printE_rest a1 a2 a3 a4 a5 a6]
  rfl
theorem arr_list (b : ByteArray) : (⟨b.data.toList.toArray⟩ : ByteArray) = b := by simp
/-- whatever is parsed is clean, and printed to what it was parsed of. -/
theorem one_law (s : ByteArray) : (parseP s).1.small 64 ∧ ((parseP s).2 = 0 → printP (parseP s).1 = (s, 0) ∧ cleanF (parseP s).1 = (parseP s).1 ∧ (parseP s).1.kind = (parseF s).k ∧ (parseP s).1.src = (parseF s).f ∧ (parseP s).1.dst = (parseF s).t) ∧ ((parseP s).2 ≠ 0 → (parseP s).1 = .zero) := by
  unfold parseP
  by_cases he : (parseF s).e = 0
  · rw [if_neg (by simpa using he)]
    rcases parseF_cases s with ⟨e, h, hne⟩ | ⟨-, hp, hfr, hsz⟩
    · rw [h] at he
      exact absurd he hne
    cases hb : bodyP (parseF s).k (parseF s).f (parseF s).t (parseF s).b.data.toList with
    | error c =>
      dsimp only
      refine ⟨Pk.zero_small, fun hc => ?_, fun _ => rfl⟩
      exfalso
      subst hc
      exact bodyP_zero hb
    | ok p =>
      dsimp only
      obtain ⟨h1, h2, h3, h4, h5, h6⟩ := inv_body (printE_zero hp).1 hb
      refine ⟨h6, fun _ => ⟨?_, h2, h3, h4, h5⟩, fun h => absurd rfl h⟩
      unfold printP
      rw [h3, h4, h5, if_neg (by simpa using printE_short hp), h1]
      dsimp only
      rw [arr_list, printS_yes hp, hp, hfr]
  · rw [if_pos he]
    exact ⟨Pk.zero_small, fun h => absurd h he, fun _ => rfl⟩
end Go.Proofs.Ythkfgjdbgnbjkaa
