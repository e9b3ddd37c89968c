/- Packets, written, then read, in plain Lean. -/
import Derived.Test.YthkfgjdbgnbjkaaPkZ
namespace Go.Proofs.Ythkfgjdbgnbjkaa
set_option linter.unusedSimpArgs false
set_option linter.unusedVariables false

theorem numP_be {n v : Nat} (r : List UInt8) (h : v < 256 ^ n) : numP n (NumM.be n v ++ r) = .ok (v, r) := by
  unfold numP
  rw [if_neg (by rw [List.length_append, NumM.be_length]; omega), List.take_left' (NumM.be_length n v), List.drop_left' (NumM.be_length n v), NumM.val_be, Nat.mod_eq_of_lt h]
theorem fw_proc {p : Int} {b : List UInt8} (r : List UInt8) (h : procW p = .ok b) : procP (b ++ r) = .ok (p, r) := by
  unfold procW at h
  split at h
  · cases h
  · cases h
    rename_i hp
    unfold procP
    rw [numP_be r (by omega)]
    simp only [andP]
    rw [if_neg (by omega), Int.toNat_of_nonneg (by omega)]
theorem fw_conf {c : Cf} {b : List UInt8} (r : List UInt8) (hc : U64 c.e) (h : confW c = .ok b) : confP (b ++ r) = .ok (c, r) := by
  obtain ⟨x, y, hx, hy, rfl⟩ := cat_ok h
  cases hx
  unfold confP
  rw [List.append_assoc, numP_be _ hc]
  simp only [andP, fw_proc r hy]
theorem fw_key {c : Ky} {b : List UInt8} (r : List UInt8) (hc : U64 c.s) (h : keyW c = .ok b) : keyP (b ++ r) = .ok (c, r) := by
  obtain ⟨x, y, hx, hy, rfl⟩ := cat_ok h
  cases hx
  unfold keyP
  rw [List.append_assoc, numP_be _ hc]
  simp only [andP, fw_proc r hy]
theorem fw_fours : ∀ (l : List Nat) (r : List UInt8), (∀ v ∈ l, v < 4294967296) → foursP l.length (fours l ++ r) = .ok (l, r)
  | [], r, _ => rfl
  | v :: l, r, h => by
    rw [List.length_cons, foursP, fours, List.append_assoc, numP_be _ (h v (by simp))]
    simp only [andP, fw_fours l r (fun u hu => h u (by simp [hu]))]
theorem fw_vec {l : List Nat} {b : List UInt8} (r : List UInt8) (hl : ∀ v ∈ l, v < 4294967296) (h : vecW l = .ok b) : vecP (b ++ r) = .ok (l, r) := by
  unfold vecW at h
  split at h
  · cases h
  · cases h
    rename_i h64
    unfold vecP
    rw [List.append_assoc, numP_be _ (by omega)]
    simp only [andP]
    rw [if_neg h64, fw_fours l r hl]
theorem fw_text (t : ByteArray) (r : List UInt8) : textP t.size (t.data.toList ++ r) = .ok (t, r) := by
  have hl : t.data.toList.length = t.size := by simp
  unfold textP
  rw [if_neg (by rw [List.length_append, hl]; omega), List.take_left' hl, List.drop_left' hl]
theorem fw_msg {m : Ms} {b : List UInt8} (src : Int) (r : List UInt8) (hm : m.fits) (h : msgW m = .ok b) : msgP src (b ++ r) = .ok ({ m with src := src }, r) := by
  obtain ⟨f1, f2, f3⟩ := hm
  unfold msgW at h
  split at h
  · cases h
  rename_i hs
  split at h
  · cases h
  rename_i hp
  obtain ⟨x, y, hx, hy, rfl⟩ := cat_ok h
  obtain ⟨z, t, hz, ht, rfl⟩ := cat_ok hy
  cases hx
  cases ht
  unfold msgP
  simp only [List.append_assoc]
  rw [numP_be _ (show m.seq < 256 ^ 4 from f1)]
  simp only [andP]
  rw [numP_be _ (show m.stamp < 256 ^ 8 from f2)]
  simp only []
  rw [numP_be _ (show m.svc.toNat < 256 ^ 1 by omega)]
  simp only []
  rw [if_neg (by omega), fw_vec _ f3 hz]
  simp only []
  rw [numP_be _ (show m.pay.size < 256 ^ 2 by omega)]
  simp only []
  rw [if_neg hp, fw_text]
  simp only []
  rw [Int.toNat_of_nonneg (by omega)]
theorem fw_ex {x : Ex} {b : List UInt8} (r : List UInt8) (hf : x.fits) (h : exW x = .ok b) : exP (b ++ r) = .ok (x, r) := by
  obtain ⟨f1, f2, f3⟩ := hf
  obtain ⟨b1, y, h1, hy, rfl⟩ := cat_ok h
  obtain ⟨b2, z, h2, hz, rfl⟩ := cat_ok hy
  obtain ⟨b3, b4, h3, h4, rfl⟩ := cat_ok hz
  unfold exP
  simp only [List.append_assoc]
  rw [fw_proc _ h1]
  simp only [andP]
  rw [fw_conf _ f1 h2]
  simp only []
  rw [fw_vec _ f2 h3]
  simp only []
  rw [fw_key _ f3 h4]
theorem fw_exs : ∀ (l : List Ex) (b r : List UInt8), (∀ x ∈ l, x.fits) → exsW l = .ok b → exsP l.length (b ++ r) = .ok (l, r)
  | [], b, r, _, h => by cases h; rfl
  | x :: l, b, r, hf, h => by
    obtain ⟨b1, b2, h1, h2, rfl⟩ := cat_ok h
    rw [List.length_cons, exsP, List.append_assoc, fw_ex _ (hf x (by simp)) h1]
    simp only [andP, fw_exs l b2 r (fun u hu => hf u (by simp [hu])) h2]
theorem kinds {k : Int} (hk : 1 ≤ k ∧ k ≤ 11) : k = 1 ∨ k = 2 ∨ k = 3 ∨ k = 4 ∨ k = 5 ∨ k = 6 ∨ k = 7 ∨ k = 8 ∨ k = 9 ∨ k = 10 ∨ k = 11 := by omega
theorem fw_body {p : Pk} {b : List UInt8} (hk : 1 ≤ p.kind ∧ p.kind ≤ 11) (hf : p.fits) (h : bodyW p = .ok b) : bodyP p.kind p.src p.dst b = .ok (cleanF p) := by
  obtain ⟨kind, src, dst, conf, m, stamp, sent, got, horizon, whom, seq, members, prom, epoch, x⟩ := p
  obtain ⟨g1, g2, g3, g4, g5, g6, g7, g8, g9, g10, g11⟩ := hf
  dsimp only at *
  obtain ⟨b1, b2, h1, h2, rfl⟩ := cat_ok h
  suffices restP { Pk.zero with kind := kind, src := src, dst := dst, conf := conf } b2 = .ok (cleanF ⟨kind, src, dst, conf, m, stamp, sent, got, horizon, whom, seq, members, prom, epoch, x⟩, []) by
    unfold bodyP
    rw [fw_conf _ g1 h1]
    simp only [andP, this, if_true]
  clear h h1
  obtain rfl | rfl | rfl | rfl | rfl | rfl | rfl | rfl | rfl | rfl | rfl := kinds hk
  · have h2 : msgW m = .ok b2 := h2
    have := fw_msg src [] g2 h2
    rw [List.append_nil] at this
    show andP (msgP src b2) _ = _
    rw [this]
    simp [andP, cleanF, Pk.zero]
  · obtain ⟨y, z, hy, hz, rfl⟩ := cat_ok (show cat (.ok (NumM.be 8 stamp ++ NumM.be 4 sent)) (cat (vecW got) (.ok (NumM.be 8 horizon))) = .ok b2 from h2)
    obtain ⟨b3, b4, h3, h4, rfl⟩ := cat_ok hz
    cases hy
    cases h4
    unfold restP
    dsimp only
    rw [if_neg (by decide), if_pos rfl]
    simp only [List.append_assoc]
    rw [numP_be _ (show stamp < 256 ^ 8 from g3)]
    simp only [andP]
    rw [numP_be _ (show sent < 256 ^ 4 from g4)]
    simp only []
    rw [fw_vec _ g5 h3]
    simp only []
    have := numP_be [] (show horizon < 256 ^ 8 from g6)
    rw [List.append_nil] at this
    rw [this]
    simp [cleanF, Pk.zero]
  · obtain ⟨y, z, hy, hz, rfl⟩ := cat_ok (show cat (procW whom) (.ok (NumM.be 4 seq)) = .ok b2 from h2)
    cases hz
    show andP (procP _) _ = _
    rw [fw_proc _ hy]
    have := numP_be [] (show seq < 256 ^ 4 from g7)
    rw [List.append_nil] at this
    simp [andP, this, cleanF, Pk.zero]
  · obtain ⟨y, z, hy, hz, rfl⟩ := cat_ok (show cat (confW prom) (.ok (NumM.be 8 epoch ++ NumM.be 8 members)) = .ok b2 from h2)
    cases hz
    show andP (confP _) _ = _
    rw [fw_conf _ g9 hy]
    simp only [andP]
    rw [numP_be _ (show epoch < 256 ^ 8 from g10)]
    have := numP_be [] (show members < 256 ^ 8 from g8)
    rw [List.append_nil] at this
    simp [this, cleanF, Pk.zero]
  · cases (show Except.ok (NumM.be 8 members) = Except.ok b2 from h2)
    unfold restP
    dsimp only
    rw [if_neg (by decide), if_neg (by decide), if_neg (by decide), if_neg (by decide), if_pos rfl]
    have := numP_be [] (show members < 256 ^ 8 from g8)
    rw [List.append_nil] at this
    simp [andP, this, cleanF, Pk.zero]
  · have h2 : (match x with | [x] => exW x | _ => .error 1) = Except.ok b2 := h2
    rcases x with _ | ⟨y, _ | ⟨z, t⟩⟩
    · cases h2
    · have h2 : exW y = .ok b2 := h2
      show andP (exP b2) _ = _
      have := fw_ex [] (g11 y (by simp)) h2
      rw [List.append_nil] at this
      simp [andP, this, cleanF, Pk.zero]
    · cases h2
  · have h2 : (if 64 < x.length then .error 3 else cat (.ok (NumM.be 8 members ++ NumM.be 1 x.length)) (exsW x)) = Except.ok b2 := h2
    split at h2
    · cases h2
    rename_i h64
    obtain ⟨y, z, hy, hz, rfl⟩ := cat_ok h2
    cases hy
    unfold restP
    dsimp only
    rw [if_neg (by decide), if_neg (by decide), if_neg (by decide), if_neg (by decide), if_neg (by decide), if_neg (by decide), if_pos rfl]
    simp only [List.append_assoc]
    rw [numP_be _ (show members < 256 ^ 8 from g8)]
    simp only [andP]
    rw [numP_be _ (show x.length < 256 ^ 1 by omega)]
    simp only []
    have := fw_exs x z [] g11 hz
    rw [List.append_nil] at this
    rw [if_neg h64, this]
    simp [cleanF, Pk.zero]
  · obtain ⟨y, z, hy, hz, rfl⟩ := cat_ok (show cat (procW whom) (.ok (NumM.be 4 seq)) = .ok b2 from h2)
    cases hz
    show andP (procP _) _ = _
    rw [fw_proc _ hy]
    have := numP_be [] (show seq < 256 ^ 4 from g7)
    rw [List.append_nil] at this
    simp [andP, this, cleanF, Pk.zero]
  · obtain ⟨y, z, hy, hz, rfl⟩ := cat_ok (show cat (procW whom) (msgW m) = .ok b2 from h2)
    show andP (procP _) _ = _
    rw [fw_proc _ hy]
    have := fw_msg whom [] g2 hz
    rw [List.append_nil] at this
    simp [andP, this, cleanF, Pk.zero]
  · cases (show Except.ok [] = Except.ok b2 from h2)
    show Except.ok (_, _) = _
    simp [cleanF, Pk.zero]
  · cases (show Except.ok [] = Except.ok b2 from h2)
    show Except.ok (_, _) = _
    simp [cleanF, Pk.zero]
theorem clean_twice (p : Pk) : cleanF (cleanF p) = cleanF p := by
  obtain ⟨kind, src, dst, conf, m, stamp, sent, got, horizon, whom, seq, members, prom, epoch, x⟩ := p
  by_cases hk : 1 ≤ kind ∧ kind ≤ 11
  · obtain rfl | rfl | rfl | rfl | rfl | rfl | rfl | rfl | rfl | rfl | rfl := kinds hk <;> simp [cleanF]
  · simp [cleanF, hk, show ¬ kind = 1 by omega, show ¬ kind = 2 by omega, show ¬ kind = 3 by omega, show ¬ kind = 4 by omega, show ¬ kind = 5 by omega, show ¬ kind = 6 by omega, show ¬ kind = 7 by omega, show ¬ kind = 8 by omega, show ¬ kind = 9 by omega]
theorem clean_body (p : Pk) (hk : 1 ≤ p.kind ∧ p.kind ≤ 11) : bodyW (cleanF p) = bodyW p := by
  obtain ⟨kind, src, dst, conf, m, stamp, sent, got, horizon, whom, seq, members, prom, epoch, x⟩ := p
  obtain rfl | rfl | rfl | rfl | rfl | rfl | rfl | rfl | rfl | rfl | rfl := kinds hk <;> rfl
theorem clean_head (p : Pk) : (cleanF p).kind = p.kind ∧ (cleanF p).src = p.src ∧ (cleanF p).dst = p.dst := ⟨rfl, rfl, rfl⟩
theorem printE_kinds {k f t : Int} {b : ByteArray} (h : printE k f t b = 0) : 1 ≤ k ∧ k ≤ 11 := (printE_zero h).1
theorem clean_print (p : Pk) : printP (cleanF p) = printP p := by
  unfold printP
  obtain ⟨h1, h2, h3⟩ := clean_head p
  rw [h1, h2, h3]
  by_cases he : printE p.kind p.src p.dst ⟨#[]⟩ = 0
  · rw [if_neg (by simpa using he), if_neg (by simpa using he), clean_body p (printE_kinds he)]
  · rw [if_pos he, if_pos he]
theorem clean_fits {p : Pk} (h : p.fits) : (cleanF p).fits := by
  obtain ⟨g1, g2, g3, g4, g5, g6, g7, g8, g9, g10, g11⟩ := h
  refine ⟨?_, ?_, ?_, ?_, ?_, ?_, ?_, ?_, ?_, ?_, ?_⟩ <;> unfold cleanF <;> dsimp only
  · split
    · exact g1
    · exact z64
  · split
    · exact ⟨g2.seq, g2.stamp, g2.deps⟩
    · split
      · exact ⟨g2.seq, g2.stamp, g2.deps⟩
      · exact zms
  · split
    · exact g3
    · exact z64
  · split
    · exact g4
    · exact z32
  · split
    · exact g5
    · exact znil
  · split
    · exact g6
    · exact z64
  · split
    · exact g7
    · exact z32
  · split
    · exact g8
    · exact z64
  · split
    · exact g9
    · exact z64
  · split
    · exact g10
    · exact z64
  · split
    · exact g11
    · exact zex
theorem clean_okay {p : Pk} (h : p.okay) : (cleanF p).okay := by
  obtain ⟨g1, g2, g3, g4⟩ := h
  refine ⟨?_, ?_, ?_, ?_⟩ <;> unfold cleanF <;> dsimp only
  · split
    · exact g1
    · split
      · exact g1
      · exact Nat.zero_le _
  · split
    · exact g2
    · exact Nat.zero_le _
  · split
    · exact g3
    · exact Nat.zero_le _
  · split
    · exact g4
    · exact fun e he => by cases he
def NzW (x : Out) : Prop := ∀ c, x = .error c → c ≠ 0
theorem nzw_ok (l : List UInt8) : NzW (.ok l) := fun c h => by cases h
theorem nzw_err {z : Int} (hz : z ≠ 0) : NzW (.error z) := fun c h => by cases h; exact hz
theorem nzw_ite {q : Prop} [Decidable q] {z : Int} (hz : z ≠ 0) {y : Out} (h : NzW y) : NzW (if q then .error z else y) := by
  split
  · exact nzw_err hz
  · exact h
theorem nzw_cat {a b : Out} (ha : NzW a) (hb : NzW b) : NzW (cat a b) := by
  intro c h
  unfold cat at h
  split at h
  · cases h; exact ha c rfl
  · split at h
    · cases h; exact hb c rfl
    · cases h
theorem nzw_proc (p : Int) : NzW (procW p) := nzw_ite (by decide) (nzw_ok _)
theorem nzw_conf (c : Cf) : NzW (confW c) := nzw_cat (nzw_ok _) (nzw_proc _)
theorem nzw_key (c : Ky) : NzW (keyW c) := nzw_cat (nzw_ok _) (nzw_proc _)
theorem nzw_vec (l : List Nat) : NzW (vecW l) := nzw_ite (by decide) (nzw_ok _)
theorem nzw_msg (m : Ms) : NzW (msgW m) := nzw_ite (by decide) (nzw_ite (by decide) (nzw_cat (nzw_ok _) (nzw_cat (nzw_vec _) (nzw_ok _))))
theorem nzw_ex (x : Ex) : NzW (exW x) := nzw_cat (nzw_proc _) (nzw_cat (nzw_conf _) (nzw_cat (nzw_vec _) (nzw_key _)))
theorem nzw_exs : ∀ l : List Ex, NzW (exsW l)
  | [] => nzw_ok _
  | x :: l => nzw_cat (nzw_ex x) (nzw_exs l)
theorem nzw_rest (p : Pk) : NzW (restW p) := by
  unfold restW
  split
  · exact nzw_msg _
  split
  · exact nzw_cat (nzw_ok _) (nzw_cat (nzw_vec _) (nzw_ok _))
  split
  · exact nzw_cat (nzw_proc _) (nzw_ok _)
  split
  · exact nzw_cat (nzw_conf _) (nzw_ok _)
  split
  · exact nzw_ok _
  split
  · split
    · exact nzw_ex _
    · exact nzw_err (by decide)
  split
  · exact nzw_ite (by decide) (nzw_cat (nzw_ok _) (nzw_exs _))
  split
  · exact nzw_cat (nzw_proc _) (nzw_msg _)
  · exact nzw_ok _
theorem bodyW_zero {p : Pk} (h : bodyW p = .error 0) : False := nzw_cat (nzw_conf _) (nzw_rest _) 0 h rfl
/-- what was printed is parsed as its clean packet; what wasn't has no bytes. -/
theorem back_law {p : Pk} (hf : p.fits) : ((printP p).2 = 0 → (printP p).1.size ≤ 1000000 ∧ parseP (printP p).1 = (cleanF p, 0)) ∧ ((printP p).2 ≠ 0 → (printP p).1 = ⟨#[]⟩) := by
  unfold printP
  by_cases he : printE p.kind p.src p.dst ⟨#[]⟩ = 0
  · rw [if_neg (by simpa using he)]
    cases hb : bodyW p with
    | error c =>
      dsimp only
      refine ⟨fun hc => ?_, fun _ => rfl⟩
      exfalso
      subst hc
      exact bodyW_zero hb
    | ok b =>
      dsimp only
      have hlen := bodyW_len hb
      refine ⟨fun hc => ?_, fun hc => printS_no rfl hc⟩
      rw [printS_yes hc]
      have hbs : (⟨b.toArray⟩ : ByteArray).size = b.length := by rw [← size_data]
      refine ⟨by rw [frameB_size, hbs]; omega, ?_⟩
      unfold parseP
      rw [parse_print hc]
      dsimp only
      rw [if_neg (by simp), fw_body (printE_kinds he) hf hb]
  · rw [if_pos he]
    exact ⟨fun h => absurd h he, fun _ => rfl⟩
end Go.Proofs.Ythkfgjdbgnbjkaa
