/- The walk of the reference's Parse. (Printed by pktp.py.) -/
import Derived.Test.YthkfgjdbgnbjkaaPkTu
import Derived.StillTailTactics
namespace Go.Proofs.Ythkfgjdbgnbjkaa
open Go.RowKit Go.Sort
set_option linter.unusedSimpArgs false
set_option linter.unusedVariables false

theorem results45 (p : Nat) (cs : Array Value) (e : Value) (tmps : Array Value) (w : World) (h2 : tmps.getD 2 undef = .pointer (some ⟨p, 0, none⟩)) (h3 : tmps.getD 3 undef = e)
    (hp : w.heap[p]? = some (.cells cs 73 (0, 0))) (hs : cs.size = 22) : (results Try.f45 tmps).run Try.prog w = .ok (.tuple #[.agg cs, e]) w := by
  have h2' : tmps[2]?.getD undef = .pointer (some ⟨p, 0, none⟩) := by simpa using h2
  have h3' : tmps[3]?.getD undef = e := by simpa using h3
  have hl := run_loadVar_row (P := Try.prog) w p 73 73 cs (0, 0) _ hp Try.underlying73 rfl (by rw [hs]; exact info73)
  simp [results, Try.results45, h2', h3', asAddr, hl]
set_option maxRecDepth 8000 in
theorem yields_build73 {ops : Array Oper} {S : World → Prop} {o : Oper} {a : Act} (ho : o.op = .build 73 #[]) (hw : Region.wanted o (yielded ops a.tmps) = true) : YieldsIf Try.prog ops S o (.agg zpk) a :=
  Or.inl ⟨hw, fun w _ => by
    have h : (Instr.build 73 ((#[] : Array (Nat × Operand)).map fun (i, x) => (i, a.eval x))).run Try.prog w = .ok (.agg zpk) w := run_build w 73 _ zpk (by simpa using zpk_built)
    unfold execOp
    simp only [ho, Sem.run_bind, h, Result.andThen_ok]
    rfl⟩
theorem pkV_agg {p : Pk} {Am : Option Addr} {cm : Nat} {Ag : Option Addr} {cg : Nat} {Ax : Option Addr} {cx : Nat} {V : Array Value} (h : pkV p Am cm Ag cg Ax cx = .agg V) : V.size = 22 ∧ V.all (·.oneCell') = true := by
  unfold pkV at h
  injection h with h
  subst h
  exact ⟨rfl, by kernel_rfl⟩
theorem pkV_ex (p : Pk) (Am : Option Addr) (cm : Nat) (Ag : Option Addr) (cg : Nat) (Ax : Option Addr) (cx : Nat) : ∃ V, pkV p Am cm Ag cg Ax cx = .agg V := ⟨_, rfl⟩

set_option maxHeartbeats 3200000 in
set_option maxRecDepth 8000 in
theorem tparse_no (s : ByteArray) (w : World) (hs : s.size ≤ 1000004) (he : (parseF s).e ≠ 0) :
    Calls Try.prog 45 #[.string s] w fun e w' => e = .returned (.tuple #[.agg zpk, .int .i64 (parseF s).e]) ∧ Below w.heap.size w w' := by
  have HP := Lib.hid (rparse_any s (w.alloc (.cells #[.int .i64 0, .int .i64 0, .int .i64 0, .int .u64 0, .int .i64 0, .int .i64 0, .int .u32 0, .int .u64 0, .int .i64 0, .slice none 0 0, .string ⟨#[]⟩, .int .u64 0, .int .u32 0, .slice none 0 0, .int .u64 0, .int .i64 0, .int .u32 0, .int .u64 0, .int .u64 0, .int .i64 0, .int .u64 0, .slice none 0 0] 73)) hs)
  have hb0 := below_alloc (Below.refl w.heap.size w) (.cells #[.int .i64 0, .int .i64 0, .int .i64 0, .int .u64 0, .int .i64 0, .int .i64 0, .int .u32 0, .int .u64 0, .int .i64 0, .slice none 0 0, .string ⟨#[]⟩, .int .u64 0, .int .u32 0, .slice none 0 0, .int .u64 0, .int .i64 0, .int .u32 0, .int .u64 0, .int .u64 0, .int .i64 0, .int .u64 0, .slice none 0 0] 73)
  have A0 := Lib.hid (heap_alloc_new w (.cells #[.int .i64 0, .int .i64 0, .int .i64 0, .int .u64 0, .int .i64 0, .int .i64 0, .int .u32 0, .int .u64 0, .int .i64 0, .slice none 0 0, .string ⟨#[]⟩, .int .u64 0, .int .u32 0, .slice none 0 0, .int .u64 0, .int .i64 0, .int .u32 0, .int .u64 0, .int .u64 0, .int .i64 0, .int .u64 0, .slice none 0 0] 73))
  unfold FR.five at HP
  generalize parseF s = fr at *
  obtain ⟨k, f, t, b, c⟩ := fr
  have hc : c ≠ 0 := he
  have hdc : (c != 0) = true := by simpa using hc
  have hdd : decide (c = 0) = false := by simpa using hc
  clear he
  go_enter Try.func45, Try.ntmps45
  go_wp2_with fail
  refine HP.out.mono ?_
  rintro e w1 ⟨rfl, hb1⟩
  have B0 := (hb1.block w.heap.size (by simp)).trans A0.out
  have hbl := below_step hb0 hb1
  clear hb0 hb1 A0 HP
  go_wp2_with (refine wpList_store_row rfl 73 (.tmp 2) (.tmp 23) rfl w.heap.size #[.int .i64 0, .int .i64 0, .int .i64 0, .int .u64 0, .int .i64 0, .int .i64 0, .int .u32 0, .int .u64 0, .int .i64 0, .slice none 0 0, .string ⟨#[]⟩, .int .u64 0, .int .u32 0, .slice none 0 0, .int .u64 0, .int .i64 0, .int .u32 0, .int .u64 0, .int .u64 0, .int .i64 0, .int .u64 0, .slice none 0 0] (by simp [Act.eval, Act.put]) (by simp [Act.eval, Act.put]) 73 #[.int .i64 0, .int .i64 0, .int .i64 0, .int .u64 0, .int .i64 0, .int .i64 0, .int .u32 0, .int .u64 0, .int .i64 0, .slice none 0 0, .string ⟨#[]⟩, .int .u64 0, .int .u32 0, .slice none 0 0, .int .u64 0, .int .i64 0, .int .u32 0, .int .u64 0, .int .u64 0, .int .i64 0, .int .u64 0, .slice none 0 0] B0 info73 rfl (by kernel_rfl) ?_)
  refine bodyPost_ret (results45 w.heap.size #[.int .i64 0, .int .i64 0, .int .i64 0, .int .u64 0, .int .i64 0, .int .i64 0, .int .u32 0, .int .u64 0, .int .i64 0, .slice none 0 0, .string ⟨#[]⟩, .int .u64 0, .int .u32 0, .slice none 0 0, .int .u64 0, .int .i64 0, .int .u32 0, .int .u64 0, .int .u64 0, .int .i64 0, .int .u64 0, .slice none 0 0] (.int .i64 c) _ _ (by simp [Act.put]) (by simp [Act.put]) (setRow_heap _ _ _ _ _ _ B0) rfl) rfl ?_
  exact ⟨rfl, below_setRow hbl (Nat.le_refl _) _⟩

set_option maxHeartbeats 3200000 in
set_option maxRecDepth 8000 in
theorem tparse_yes (s : ByteArray) (w : World) (hs : s.size ≤ 100000) (he : (parseF s).e = 0) (X : Pk × Int)
    (hX : X = match foldP (rowN (parseF s).k) { Pk.zero with kind := (parseF s).k, src := (parseF s).f, dst := (parseF s).t } (parseF s).b.data.toList with
      | .error c => (.zero, c)
      | .ok (p, r) => if r = [] then (p, 0) else (.zero, 4)) :
    Calls Try.prog 45 #[.string s] w fun e w' => (∃ v, e = .returned (.tuple #[v, .int .i64 X.2]) ∧ OwnV w' w.heap.size X.1 v) ∧ Below w.heap.size w w' := by
  have HP := Lib.hid (rparse_any s (w.alloc (.cells #[.int .i64 0, .int .i64 0, .int .i64 0, .int .u64 0, .int .i64 0, .int .i64 0, .int .u32 0, .int .u64 0, .int .i64 0, .slice none 0 0, .string ⟨#[]⟩, .int .u64 0, .int .u32 0, .slice none 0 0, .int .u64 0, .int .i64 0, .int .u32 0, .int .u64 0, .int .u64 0, .int .i64 0, .int .u64 0, .slice none 0 0] 73)) (by omega))
  have hb0 := below_alloc (Below.refl w.heap.size w) (.cells #[.int .i64 0, .int .i64 0, .int .i64 0, .int .u64 0, .int .i64 0, .int .i64 0, .int .u32 0, .int .u64 0, .int .i64 0, .slice none 0 0, .string ⟨#[]⟩, .int .u64 0, .int .u32 0, .slice none 0 0, .int .u64 0, .int .i64 0, .int .u32 0, .int .u64 0, .int .u64 0, .int .i64 0, .int .u64 0, .slice none 0 0] 73)
  have A0 := Lib.hid (heap_alloc_new w (.cells #[.int .i64 0, .int .i64 0, .int .i64 0, .int .u64 0, .int .i64 0, .int .i64 0, .int .u32 0, .int .u64 0, .int .i64 0, .slice none 0 0, .string ⟨#[]⟩, .int .u64 0, .int .u32 0, .slice none 0 0, .int .u64 0, .int .i64 0, .int .u32 0, .int .u64 0, .int .u64 0, .int .i64 0, .int .u64 0, .slice none 0 0] 73))
  have hkk : 1 ≤ (parseF s).k ∧ (parseF s).k ≤ 11 := parseF_kind he
  have hbs := parseF_size s
  unfold FR.five at HP
  generalize parseF s = fr at *
  obtain ⟨k, f, t, b, c⟩ := fr
  obtain rfl : c = 0 := he
  dsimp only at hkk hbs hX
  obtain ⟨R, hR⟩ : ∃ R, R = foldP (rowN k) { Pk.zero with kind := k, src := f, dst := t } b.data.toList := ⟨_, rfl⟩
  rw [← hR] at hX
  obtain ⟨rs, hrs, hrow⟩ := row_any k w hkk
  have HX := Lib.hid hX
  have HRR := Lib.hid hR
  have HRS := Lib.hid hrs
  have HROW := Lib.hid hrow
  clear hX hR hrow
  have hlen : rs.size = (rowN k).length := by rw [← size_data, ← List.length_map (f := (·.toNat)), hrs]
  have hlen5 : rs.size ≤ 5 := by rw [hlen]; exact (rowN_len k).2
  have HLEN := Lib.hid hlen
  clear hlen hrs
  go_enter Try.func45, Try.ntmps45
  go_wp2_with fail
  refine HP.out.mono ?_
  rintro e w1 ⟨rfl, hb1⟩
  have hbl := below_step hb0 hb1
  have hsz := hb1.size
  rw [show (w.alloc (.cells #[.int .i64 0, .int .i64 0, .int .i64 0, .int .u64 0, .int .i64 0, .int .i64 0, .int .u32 0, .int .u64 0, .int .i64 0, .slice none 0 0, .string ⟨#[]⟩, .int .u64 0, .int .u32 0, .slice none 0 0, .int .u64 0, .int .i64 0, .int .u32 0, .int .u64 0, .int .u64 0, .int .i64 0, .int .u64 0, .slice none 0 0] 73)).heap.size = w.heap.size + 1 by simp] at hsz
  have B0 := Lib.hid ((hb1.block w.heap.size (by simp)).trans A0.out)
  have B1 := Lib.hid (heap_alloc_new w1 (.cells #[.int .i64 0, .int .i64 0, .int .i64 0, .int .u64 0, .int .i64 0, .int .i64 0, .int .u32 0, .int .u64 0, .int .i64 0, .slice none 0 0, .string ⟨#[]⟩, .int .u64 0, .int .u32 0, .slice none 0 0, .int .u64 0, .int .i64 0, .int .u32 0, .int .u64 0, .int .u64 0, .int .i64 0, .int .u64 0, .slice none 0 0] 73))
  obtain ⟨w2, hw2⟩ : ∃ W, W = (w1.alloc (.cells #[.int .i64 0, .int .i64 0, .int .i64 0, .int .u64 0, .int .i64 0, .int .i64 0, .int .u32 0, .int .u64 0, .int .i64 0, .slice none 0 0, .string ⟨#[]⟩, .int .u64 0, .int .u32 0, .slice none 0 0, .int .u64 0, .int .i64 0, .int .u32 0, .int .u64 0, .int .u64 0, .int .i64 0, .int .u64 0, .slice none 0 0] 73)).setRow w1.heap.size #[.int .i64 k, .int .i64 f, .int .i64 t, .int .u64 0, .int .i64 0, .int .i64 0, .int .u32 0, .int .u64 0, .int .i64 0, .slice none 0 0, .string ⟨#[]⟩, .int .u64 0, .int .u32 0, .slice none 0 0, .int .u64 0, .int .i64 0, .int .u32 0, .int .u64 0, .int .u64 0, .int .i64 0, .int .u64 0, .slice none 0 0] := ⟨_, rfl⟩
  have C0 : Hid (w2.heap[w.heap.size]? = some (.cells #[.int .i64 0, .int .i64 0, .int .i64 0, .int .u64 0, .int .i64 0, .int .i64 0, .int .u32 0, .int .u64 0, .int .i64 0, .slice none 0 0, .string ⟨#[]⟩, .int .u64 0, .int .u32 0, .slice none 0 0, .int .u64 0, .int .i64 0, .int .u32 0, .int .u64 0, .int .u64 0, .int .i64 0, .int .u64 0, .slice none 0 0] 73 (0, 0))) := Lib.hid (by rw [hw2]; exact (setRow_other _ _ _ _ (by omega)).trans ((Below.heap_alloc _ _ _ (by omega)).trans B0.out))
  have C1 : Hid (w2.heap[w1.heap.size]? = some (.cells #[.int .i64 k, .int .i64 f, .int .i64 t, .int .u64 0, .int .i64 0, .int .i64 0, .int .u32 0, .int .u64 0, .int .i64 0, .slice none 0 0, .string ⟨#[]⟩, .int .u64 0, .int .u32 0, .slice none 0 0, .int .u64 0, .int .i64 0, .int .u32 0, .int .u64 0, .int .u64 0, .int .i64 0, .int .u64 0, .slice none 0 0] 73 (0, 0))) := Lib.hid (by rw [hw2]; exact setRow_heap _ _ _ _ _ _ B1.out)
  have hbl2 : Below w.heap.size w w2 := by rw [hw2]; exact below_setRow (below_alloc hbl _) (by omega) _
  have hsz2 : w2.heap.size = w1.heap.size + 1 := by rw [hw2]; simp [World.setRow]
  have HW2 := Lib.hid hw2
  clear hb0 hb1 A0 HP hbl hw2 B0
  go_wp2_with (refine wpList_store_row rfl 73 (.tmp 9) (.tmp 28) rfl w1.heap.size #[.int .i64 k, .int .i64 f, .int .i64 t, .int .u64 0, .int .i64 0, .int .i64 0, .int .u32 0, .int .u64 0, .int .i64 0, .slice none 0 0, .string ⟨#[]⟩, .int .u64 0, .int .u32 0, .slice none 0 0, .int .u64 0, .int .i64 0, .int .u32 0, .int .u64 0, .int .u64 0, .int .i64 0, .int .u64 0, .slice none 0 0] (by simp [Act.eval, Act.put]) (by simp [Act.eval, Act.put]) 73 #[.int .i64 0, .int .i64 0, .int .i64 0, .int .u64 0, .int .i64 0, .int .i64 0, .int .u32 0, .int .u64 0, .int .i64 0, .slice none 0 0, .string ⟨#[]⟩, .int .u64 0, .int .u32 0, .slice none 0 0, .int .u64 0, .int .i64 0, .int .u32 0, .int .u64 0, .int .u64 0, .int .i64 0, .int .u64 0, .slice none 0 0] B1.out info73 rfl (by kernel_rfl) ?_; rw [← HW2.out]; clear HW2 B1)
  refine (HROW.out _).mono ?_
  rintro e w9 ⟨rfl, rfl⟩
  obtain ⟨w3, hw3⟩ : ∃ W, W = w2.alloc (.cells #[.string b, .int .i64 0, .int .i64 0] 115) := ⟨_, rfl⟩
  have hb3 := below_alloc (Below.refl w2.heap.size w2) (.cells #[.string b, .int .i64 0, .int .i64 0] 115)
  rw [← hw3] at hb3
  have D0 := Lib.hid ((hb3.block _ (blk_lt C0.out)).trans C0.out)
  have D1 := Lib.hid ((hb3.block _ (blk_lt C1.out)).trans C1.out)
  have D2 : w3.heap[w2.heap.size]? = some (.cells #[.string b, .int .i64 0, .int .i64 0] 115 (0, 0)) := by rw [hw3]; exact heap_alloc_new _ _
  have hbl3 := Lib.hid (show Below w.heap.size w w3 by rw [hw3]; exact below_alloc hbl2 _)
  have hsz3 : w3.heap.size = w2.heap.size + 1 := by rw [hw3]; simp
  rw [← hw3]
  clear hw3 hb3 hbl2 C0 C1
  obtain ⟨G, hG⟩ : ∃ G, G = w2.heap.size := ⟨_, rfl⟩
  obtain ⟨K1, hK1⟩ : ∃ K, K = w1.heap.size := ⟨_, rfl⟩
  obtain ⟨K0, hK0⟩ : ∃ K, K = w.heap.size := ⟨_, rfl⟩
  obtain ⟨B, hB⟩ : ∃ B, B = G + 1 := ⟨_, rfl⟩
  rw [← hG] at D2
  rw [← hsz2, ← hG]
  rw [← hK1] at D1 ⊢
  rw [← hK0] at D0 ⊢
  have hBs : B ≤ w3.heap.size := by omega
  have h01 : K0 < K1 := by omega
  have h1G : K1 < G := by omega
  have hGB : G < B := by omega
  have hwB : w.heap.size ≤ B := by omega
  have hwG : w.heap.size ≤ G := by omega
  have hwK0 : w.heap.size ≤ K0 := by omega
  have hwK1 : w.heap.size ≤ K1 := by omega
  have n0 : K0 ≠ G := by omega
  have n1 : K1 ≠ G := by omega
  have HK0 := Lib.hid hK0
  clear hsz hsz2 hsz3 hG hK1 hK0 hB
  have HT : Hid (Tk w3 G b (b.size + 150000 * 0) (.ok b.data.toList)) := Lib.hid ⟨0, by simpa using D2, by omega, rfl, by omega⟩
  obtain ⟨V0, hV0⟩ := pkV_ex { Pk.zero with kind := k, src := f, dst := t } none 0 none 0 none 0
  have DV : Hid (w3.heap[K1]? = some (.cells V0 73 (0, 0))) := Lib.hid (by
    refine D1.out.trans ?_
    have e : V0 = #[.int .i64 k, .int .i64 f, .int .i64 t, .int .u64 0, .int .i64 0, .int .i64 0, .int .u32 0, .int .u64 0, .int .i64 0, .slice none 0 0, .string ⟨#[]⟩, .int .u64 0, .int .u32 0, .slice none 0 0, .int .u64 0, .int .i64 0, .int .u32 0, .int .u64 0, .int .u64 0, .int .i64 0, .int .u64 0, .slice none 0 0] := by
      unfold pkV at hV0
      injection hV0 with hV0
      exact hV0.symm
    rw [e])
  have HR0 : Hid (R = via (fun l => foldP ((rowN k).drop 0) { Pk.zero with kind := k, src := f, dst := t } l) (.ok b.data.toList)) := HRR
  have HV0 := Lib.hid hV0
  clear D1 D2 hV0
  go_wp2_with fail
  go_loopw [12] (fun i wr => ∃ (q : Nat) (p : Pk) (Am : Option Addr) (cm : Nat) (Ag : Option Addr) (cg : Nat) (Ax : Option Addr) (cx : Nat) (st : St) (V : Array Value), q ≤ rs.size ∧ i = .int .i64 q ∧ Hid (R = via (fun l => foldP ((rowN k).drop q) p l) st) ∧ Hid (PkRows wr B p Am cm Ag cg Ax cx) ∧ Hid (Tk wr G b (b.size + 150000 * q) st) ∧ Hid (pkV p Am cm Ag cg Ax cx = .agg V) ∧
    Hid (wr.heap[K1]? = some (.cells V 73 (0, 0))) ∧ Hid (wr.heap[K0]? = some (.cells #[.int .i64 0, .int .i64 0, .int .i64 0, .int .u64 0, .int .i64 0, .int .i64 0, .int .u32 0, .int .u64 0, .int .i64 0, .slice none 0 0, .string ⟨#[]⟩, .int .u64 0, .int .u32 0, .slice none 0 0, .int .u64 0, .int .i64 0, .int .u32 0, .int .u64 0, .int .u64 0, .int .i64 0, .int .u64 0, .slice none 0 0] 73 (0, 0))) ∧ Hid (q < rs.size → p.x = [] ∧ Ax = none ∧ cx = 0) ∧ Hid (Below w.heap.size w wr) ∧ B ≤ wr.heap.size) (fun i _ => rs.size - (intOf i).toNat)
  case atStart => exact ⟨0, _, _, _, _, _, _, _, _, V0, by omega, rfl, HR0, Lib.hid ⟨World.ownsRow_nil _ _ _ _, World.ownsRow_nil _ _ _ _, XOwn.nil _ _⟩, HT, HV0, DV, D0, Lib.hid (fun _ => ⟨rfl, rfl, rfl⟩), hbl3, hBs⟩
  case round =>
    clear HR0 HT HV0 DV D0 hbl3 hBs
    obtain ⟨q, p, Am, cm, Ag, cg, Ax, cx, st, V, hq, rfl, HF, HRW, HT, HV, H1, H0, HE, HBL, hBs⟩ := hrel
    by_cases hlt : q < rs.size
    · have hdlt : decide ((q : Int) < (rs.size : Int)) = true := by simp; omega
      obtain ⟨p0, c0, hb0, hp0⟩ := HT.out.blk
      by_cases hst : ∃ c, st = .error c
      · obtain ⟨c1, rfl⟩ := hst
        obtain ⟨p3, hb3, hp3, hc3, _⟩ := HT.out
        have k2 := cell_of_row _ _ 2 _ _ _ hb3
        simp at k2
        have hdx : (c1 == 0) = false := by simpa using hc3
        have hdx2 : decide (c1 = 0) = false := by simpa using hc3
        have HRX := Lib.hid (show R = ret p (.error c1) from HF.out)
        clear hb0 hp0 hb3 hp3 hc3
        obtain ⟨p1, hb1, hp1, hc1, _⟩ := HT.out
        have y1 := cell_of_row _ _ 1 _ _ _ hb1
        simp at y1
        obtain ⟨bb, hbb⟩ : ∃ bb, decide (p1 < b.size) = bb := ⟨_, rfl⟩
        have hbb2 : decide ((p1 : Int) < (b.size : Int)) = bb := by rw [← hbb]; simp
        clear hb1 hp1 hc1
        have HBA := Lib.hid (tbad_any G b _ _ 4 bb wr HT.out (by decide))
        go_wp2_with fail
        refine HBA.out.mono ?_
        rintro e wE ⟨rfl, hT, ho⟩
        have ET : Hid (Tk wE G b _ (.error c1)) := Lib.hid hT
        have E0 := Lib.hid ((ho.block K0 (blk_lt H0.out) (by simpa using n0)).trans H0.out)
        have EB := Lib.hid (Only.below HBL.out ho (by omega) hwG)
        clear HBA hT ho y1 hbb hbb2 HT H0 H1 HBL HRW HV k2 hdx hdx2
        obtain ⟨p2, hb2, hp2, hc2, _⟩ := ET.out
        have z2 := cell_of_row _ _ 2 _ _ _ hb2
        simp at z2
        have hdc2 : (c1 != 0) = true := by simpa using hc2
        have z2d : wE.drew.cell? ⟨G, 2, none⟩ = some (.int .i64 c1) := z2
        have RBd : wE.drew.heap[K0]? = some (.cells #[.int .i64 0, .int .i64 0, .int .i64 0, .int .u64 0, .int .i64 0, .int .i64 0, .int .u32 0, .int .u64 0, .int .i64 0, .slice none 0 0, .string ⟨#[]⟩, .int .u64 0, .int .u32 0, .slice none 0 0, .int .u64 0, .int .i64 0, .int .u32 0, .int .u64 0, .int .u64 0, .int .i64 0, .int .u64 0, .slice none 0 0] 73 (0, 0)) := E0.out
        have EBd := Lib.hid EB.out.drew
        clear hb2 hp2
        go_wp2_with fail
        refine wp_region_held_drew (S := fun w' => w'.cell? ⟨G, 2, none⟩ = some (.int .i64 c1)) (by kernel_rfl) z2d (fun hHeld => ?_)
        generalize wE.drew = wF at *
        refine wpAnyH_take (i := 0) (v := .agg zpk) rfl (by kernel_rfl) (by kernel_rfl) (by kernel_rfl) (fun _ _ _ h => h) (yields_build73 rfl (by rfl)) (by assumption) ?_
        simp only [Act.put, List.getElem_toArray, List.getElem_cons_zero, List.getElem_cons_succ, List.setIfInBounds_toArray, List.set_cons_zero, List.set_cons_succ]
        refine wpAnyH_take (i := 1) (v := .pointer (some ⟨G, 0, none⟩)) rfl (by kernel_rfl) (by kernel_rfl) (by kernel_rfl) (fun _ _ _ h => h) (Or.inl ⟨by rfl, ?_⟩) (by assumption) ?_
        · intro w hSw; (try dsimp only at hSw); go_simp
        simp only [Act.put, List.getElem_toArray, List.getElem_cons_zero, List.getElem_cons_succ, List.setIfInBounds_toArray, List.set_cons_zero, List.set_cons_succ]
        refine wpAnyH_take (i := 2) (v := .pointer (some ⟨G, 0, none⟩)) rfl (by kernel_rfl) (by kernel_rfl) (by kernel_rfl) (fun _ _ _ h => h) (Or.inl ⟨by rfl, ?_⟩) (by assumption) ?_
        · intro w hSw; (try dsimp only at hSw); go_simp
        simp only [Act.put, List.getElem_toArray, List.getElem_cons_zero, List.getElem_cons_succ, List.setIfInBounds_toArray, List.set_cons_zero, List.set_cons_succ]
        refine wpAnyH_take (i := 3) (v := .pointer (some ⟨G, 2, none⟩)) rfl (by kernel_rfl) (by kernel_rfl) (by kernel_rfl) (fun _ _ _ h => h) (Or.inl ⟨by rfl, ?_⟩) (by assumption) ?_
        · intro w hSw; (try dsimp only at hSw); go_simp
        simp only [Act.put, List.getElem_toArray, List.getElem_cons_zero, List.getElem_cons_succ, List.setIfInBounds_toArray, List.set_cons_zero, List.set_cons_succ]
        refine wpAnyH_take (i := 4) (v := .int .i64 c1) rfl (by kernel_rfl) (by kernel_rfl) (by kernel_rfl) (fun _ _ _ h => h) (Or.inl ⟨by rfl, ?_⟩) (by assumption) ?_
        · intro w hSw; (try dsimp only at hSw); go_simp
        simp only [Act.put, List.getElem_toArray, List.getElem_cons_zero, List.getElem_cons_succ, List.setIfInBounds_toArray, List.set_cons_zero, List.set_cons_succ]
        refine wpAnyH_ready (rs := [5]) (by kernel_rfl) (by simp) ?_
        refine AllReadyH.cons rfl (fun K hK => ?_) AllReadyH.nil
        rw [if_pos (by rfl)]
        refine wp_store_row 73 (.tmp 2) (.tmp 67) rfl K0 zpk (by simp [Act.eval, Act.put]) (by simp [Act.eval, Act.put]) 73 #[.int .i64 0, .int .i64 0, .int .i64 0, .int .u64 0, .int .i64 0, .int .i64 0, .int .u32 0, .int .u64 0, .int .i64 0, .slice none 0 0, .string ⟨#[]⟩, .int .u64 0, .int .u32 0, .slice none 0 0, .int .u64 0, .int .i64 0, .int .u32 0, .int .u64 0, .int .u64 0, .int .i64 0, .int .u64 0, .slice none 0 0] RBd info73 rfl zpk_one ?_
        clear hHeld
        refine hK.out _ _ ((World.cell?_of_block (w := wF) (setRow_other wF K0 G _ (by omega))).trans z2d) (fun hHeld => ?_)
        clear hK K
        refine wpAnyH_take (i := 6) (v := .int .i64 c1) rfl (by kernel_rfl) (by kernel_rfl) (by kernel_rfl) (fun _ _ _ h => h) (Or.inl ⟨by rfl, ?_⟩) (by assumption) ?_
        · intro w hSw; (try dsimp only at hSw); go_simp
        simp only [Act.put, List.getElem_toArray, List.getElem_cons_zero, List.getElem_cons_succ, List.setIfInBounds_toArray, List.set_cons_zero, List.set_cons_succ]
        refine wpAnyH_done (by kernel_rfl) ?_ _
        clear hHeld
        go_wp2_with fail
        refine bodyPost_ret (results45 K0 zpk (.int .i64 c1) _ _ (by simp [Act.put]) (by simp [Act.put]) (setRow_heap _ _ _ _ _ _ RBd) rfl) rfl ?_
        have hXe : X = (.zero, c1) := by rw [HX.out, HRX.out]; rfl
        rw [hXe]
        exact ⟨⟨_, rfl, OwnV.zero _ _⟩, below_setRow EBd.out hwK0 _⟩
      · obtain ⟨l, rfl⟩ : ∃ l, st = .ok l := by
          cases st with
          | ok l => exact ⟨l, rfl⟩
          | error c => exact absurd ⟨c, rfl⟩ hst
        obtain ⟨p3, hb3, hp3, hl3, _⟩ := HT.out
        have k2 := cell_of_row _ _ 2 _ _ _ hb3
        simp at k2
        clear hb0 hp0 hb3 hp3 hl3 hst
        have hks : q < rs.size := hlt
        obtain ⟨fl, hfl⟩ : ∃ fl, fl = (rs[q]'hlt).toNat := ⟨_, rfl⟩
        have hgl : (rowN k)[q]? = some fl := by
          rw [← HRS.out, List.getElem?_map]
          have hn : q < rs.data.toList.length := by rw [size_data]; exact hlt
          rw [List.getElem?_eq_getElem hn, hfl]
          rfl
        have hdrop : (rowN k).drop q = fl :: (rowN k).drop (q + 1) := by
          have hql : q < (rowN k).length := by rw [← HLEN.out]; exact hlt
          rw [List.drop_eq_getElem_cons hql]
          congr 1
          rw [List.getElem?_eq_getElem hql] at hgl
          exact Option.some.inj hgl
        have hfm : fl ∈ lets := rowN_lets k fl (List.mem_of_getElem? hgl)
        have hlast : q + 1 < rs.size → fl ≠ 120 ∧ fl ≠ 108 := fun h => by
          have h2 := rowN_last k q (by rw [← HLEN.out]; exact h)
          rw [List.getD, hgl] at h2
          exact h2
        have HFL := Lib.hid hfl
        have HDR := Lib.hid hdrop
        have HFM := Lib.hid hfm
        have HLA := Lib.hid hlast
        clear hgl hdrop hfm hlast hfl
        go_wp2_with fail
        clear k2
        refine wp_region_held_drew (S := fun _ => True) (by kernel_rfl) trivial (fun hHeld => ?_)
        have H1d : Hid (wr.drew.heap[K1]? = _) := H1
        have H0d : Hid (wr.drew.heap[K0]? = _) := H0
        have HTd : Hid (Tk wr.drew G b (b.size + 150000 * q) (.ok l)) := HT
        have HRd : Hid (PkRows wr.drew B p Am cm Ag cg Ax cx) := HRW
        have HBd := Lib.hid HBL.out.drew
        have hBd : B ≤ wr.drew.heap.size := hBs
        clear H1 H0 HT HRW HBL hBs
        generalize wr.drew = w21 at *
        obtain ⟨hVs, hVo⟩ := pkV_agg HV.out
        refine wpAnyH_take (i := 0) (v := .pointer (some ⟨G, 0, none⟩)) rfl (by kernel_rfl) (by kernel_rfl) (by kernel_rfl) (fun _ _ _ h => h) (Or.inl ⟨by rfl, ?_⟩) (by assumption) ?_
        · intro w hSw; (try dsimp only at hSw); go_simp
        simp only [Act.put, List.getElem_toArray, List.getElem_cons_zero, List.getElem_cons_succ, List.setIfInBounds_toArray, List.set_cons_zero, List.set_cons_succ]
        refine wpAnyH_take (i := 1) (v := .string rs) rfl (by kernel_rfl) (by kernel_rfl) (by kernel_rfl) (fun _ _ _ h => h) (Or.inl ⟨by rfl, ?_⟩) (by assumption) ?_
        · intro w hSw; (try dsimp only at hSw); go_simp
        simp only [Act.put, List.getElem_toArray, List.getElem_cons_zero, List.getElem_cons_succ, List.setIfInBounds_toArray, List.set_cons_zero, List.set_cons_succ]
        refine wpAnyH_take (i := 2) (v := .int .i64 (q : Int)) rfl (by kernel_rfl) (by kernel_rfl) (by kernel_rfl) (fun _ _ _ h => h) (Or.inl ⟨by rfl, ?_⟩) (by assumption) ?_
        · intro w hSw; (try dsimp only at hSw); go_simp
        simp only [Act.put, List.getElem_toArray, List.getElem_cons_zero, List.getElem_cons_succ, List.setIfInBounds_toArray, List.set_cons_zero, List.set_cons_succ]
        refine wpAnyH_take (i := 3) (v := .int .u8 (fl : Int)) rfl (by kernel_rfl) (by kernel_rfl) (by kernel_rfl) (fun _ _ _ h => h) (Or.inl ⟨by rfl, ?_⟩) (by assumption) ?_
        · intro w hSw; (try dsimp only at hSw); rw [HFL.out]; go_simp
        simp only [Act.put, List.getElem_toArray, List.getElem_cons_zero, List.getElem_cons_succ, List.setIfInBounds_toArray, List.set_cons_zero, List.set_cons_succ]
        refine wpAnyH_ready (rs := [4]) (by kernel_rfl) (by simp) ?_
        refine AllReadyH.cons rfl (fun K hK => ?_) AllReadyH.nil
        rw [if_pos (by rfl)]
        refine wp_load_row 73 (.tmp 9) rfl K1 (by rfl) 73 V (0, 0) _ H1d.out Try.underlying73 rfl (by rw [hVs]; exact info73) ?_
        clear hHeld
        refine hK.out _ _ trivial (fun hHeld => ?_)
        clear hK K
        refine wpAnyH_ready (rs := [5]) (by kernel_rfl) (by simp) ?_
        refine AllReadyH.cons rfl (fun K hK => ?_) AllReadyH.nil
        go_simp
        rw [← HV.out]
        refine (tfield_any fl G b (b.size + 150000 * q) (.ok l) p Am cm Ag cg Ax cx B w21 HTd.out (by omega) (by omega) hGB hBd HRd.out HFM.out (fun _ => HE.out hlt)).mono ?_
        clear hHeld
        rintro e w22 ⟨p', Am', cm', Ag', cg', Ax', cx', st', rfl, hrows, hvia, hT, ho, hXX⟩
        obtain ⟨V', hV'⟩ := pkV_ex p' Am' cm' Ag' cg' Ax' cx'
        obtain ⟨hVs', hVo'⟩ := pkV_agg hV'
        have HR22 := Lib.hid hrows
        have HF22 := Lib.hid (show R = via (fun l => foldP ((rowN k).drop (q + 1)) p' l) st' from by
          rw [HF.out, HDR.out]
          exact via_and (P := fieldP fl p) (Q := fun q' r => foldP ((rowN k).drop (q + 1)) q' r) hvia)
        have HT22 := Lib.hid hT
        have H122 := Lib.hid ((ho.block K1 (blk_lt H1d.out) (by simpa using n1)).trans H1d.out)
        have H022 := Lib.hid ((ho.block K0 (blk_lt H0d.out) (by simpa using n0)).trans H0d.out)
        have HB22 := Lib.hid (Only.below HBd.out ho (by omega) hwG)
        have hB22 : B ≤ w22.heap.size := Nat.le_trans hBd ho.size
        have HE22 := Lib.hid (show q + 1 < rs.size → p'.x = [] ∧ Ax' = none ∧ cx' = 0 from fun h => by
          have h2 := HLA.out h
          have h3 := HE.out hlt
          have h4 := hXX _ (if_neg (by omega))
          injection h4 with h4 h5
          injection h5 with h5 h6
          exact ⟨h4.trans h3.1, h5.trans h3.2.1, h6.trans h3.2.2⟩)
        have HV22 := Lib.hid hV'
        clear hrows hvia hT ho hXX H1d H0d HTd HRd HBd hBd HE HF HDR HV
        rw [hV']
        refine hK.out _ _ trivial (fun hHeld => ?_)
        clear hK K hV'
        refine wpAnyH_ready (rs := [6]) (by kernel_rfl) (by simp) ?_
        refine AllReadyH.cons rfl (fun K hK => ?_) AllReadyH.nil
        rw [if_pos (by rfl)]
        refine wp_store_row 73 (.tmp 9) (.tmp 52) rfl K1 V' (by rfl) (by rfl) 73 V H122.out (by rw [hVs']; exact info73) (by rw [hVs, hVs']) hVo' ?_
        clear hHeld
        obtain ⟨w23, hw23⟩ : ∃ W, W = w22.setRow K1 V' := ⟨_, rfl⟩
        rw [← hw23]
        have H123 : Hid (w23.heap[K1]? = some (.cells V' 73 (0, 0))) := Lib.hid (by rw [hw23]; exact setRow_heap _ _ _ _ _ _ H122.out)
        have H023 : Hid (w23.heap[K0]? = some (.cells #[.int .i64 0, .int .i64 0, .int .i64 0, .int .u64 0, .int .i64 0, .int .i64 0, .int .u32 0, .int .u64 0, .int .i64 0, .slice none 0 0, .string ⟨#[]⟩, .int .u64 0, .int .u32 0, .slice none 0 0, .int .u64 0, .int .i64 0, .int .u32 0, .int .u64 0, .int .u64 0, .int .i64 0, .int .u64 0, .slice none 0 0] 73 (0, 0))) := Lib.hid (by rw [hw23]; exact (setRow_other _ _ _ _ (by omega)).trans H022.out)
        have HT23 : Hid (Tk w23 G b (b.size + 150000 * q + 150000) st') := Lib.hid (by rw [hw23]; exact tk_setRow HT22.out n1 _)
        have HB23 : Hid (Below w.heap.size w w23) := Lib.hid (by rw [hw23]; exact below_setRow HB22.out hwK1 _)
        have hB23 : B ≤ w23.heap.size := by rw [hw23]; simpa [World.setRow] using hB22
        have HR23 : Hid (PkRows w23 B p' Am' cm' Ag' cg' Ax' cx') := Lib.hid (by
          obtain ⟨hr1, hr2, hr3⟩ := HR22.out
          rw [hw23]
          exact ⟨own_setRow hr1 (by omega) _, own_setRow hr2 (by omega) _, XOwn.setRow hr3 (by omega) _⟩)
        clear H122 H022 HT22 HB22 hB22 HR22 hw23
        refine hK.out _ _ trivial (fun hHeld => ?_)
        clear hK K hHeld
        refine wpAnyH_done (by kernel_rfl) ?_ _
        go_wp2_with fail
        go_roundw
        case rel => exact ⟨q + 1, p', Am', cm', Ag', cg', Ax', cx', st', V', by omega, by go_num, HF22, HR23, Lib.hid (HT23.out.mono (by omega)), HV22, H123, H023, HE22, HB23, hB23⟩
        case measure => simp [intOf]; omega
    · obtain rfl : q = rs.size := by omega
      have hdlt : decide ((rs.size : Int) < (rs.size : Int)) = false := by simp
      have HRX := Lib.hid (show R = ret p st from by
        rw [HF.out, HLEN.out, List.drop_length]
        rfl)
      cases st with
      | error c =>
        obtain ⟨p1, hb1, hp1, hc1, _⟩ := HT.out
        have y1 := cell_of_row _ _ 1 _ _ _ hb1
        simp at y1
        obtain ⟨bb, hbb⟩ : ∃ bb, decide (p1 < b.size) = bb := ⟨_, rfl⟩
        have hbb2 : decide ((p1 : Int) < (b.size : Int)) = bb := by rw [← hbb]; simp
        clear hb1 hp1 hc1
        have HBA := Lib.hid (tbad_any G b _ _ 4 bb wr HT.out (by decide))
        go_wp2_with fail
        refine HBA.out.mono ?_
        rintro e wE ⟨rfl, hT, ho⟩
        have ET : Hid (Tk wE G b _ (.error c)) := Lib.hid hT
        have E0 := Lib.hid ((ho.block K0 (blk_lt H0.out) (by simpa using n0)).trans H0.out)
        have EB := Lib.hid (Only.below HBL.out ho (by omega) hwG)
        clear HBA hT ho y1 hbb hbb2 HT H0 H1 HBL HRW HV 
        obtain ⟨p2, hb2, hp2, hc2, _⟩ := ET.out
        have z2 := cell_of_row _ _ 2 _ _ _ hb2
        simp at z2
        have hdc2 : (c != 0) = true := by simpa using hc2
        have z2d : wE.drew.cell? ⟨G, 2, none⟩ = some (.int .i64 c) := z2
        have RBd : wE.drew.heap[K0]? = some (.cells #[.int .i64 0, .int .i64 0, .int .i64 0, .int .u64 0, .int .i64 0, .int .i64 0, .int .u32 0, .int .u64 0, .int .i64 0, .slice none 0 0, .string ⟨#[]⟩, .int .u64 0, .int .u32 0, .slice none 0 0, .int .u64 0, .int .i64 0, .int .u32 0, .int .u64 0, .int .u64 0, .int .i64 0, .int .u64 0, .slice none 0 0] 73 (0, 0)) := E0.out
        have EBd := Lib.hid EB.out.drew
        clear hb2 hp2
        go_wp2_with fail
        refine wp_region_held_drew (S := fun w' => w'.cell? ⟨G, 2, none⟩ = some (.int .i64 c)) (by kernel_rfl) z2d (fun hHeld => ?_)
        generalize wE.drew = wF at *
        refine wpAnyH_take (i := 0) (v := .agg zpk) rfl (by kernel_rfl) (by kernel_rfl) (by kernel_rfl) (fun _ _ _ h => h) (yields_build73 rfl (by rfl)) (by assumption) ?_
        simp only [Act.put, List.getElem_toArray, List.getElem_cons_zero, List.getElem_cons_succ, List.setIfInBounds_toArray, List.set_cons_zero, List.set_cons_succ]
        refine wpAnyH_take (i := 1) (v := .pointer (some ⟨G, 0, none⟩)) rfl (by kernel_rfl) (by kernel_rfl) (by kernel_rfl) (fun _ _ _ h => h) (Or.inl ⟨by rfl, ?_⟩) (by assumption) ?_
        · intro w hSw; (try dsimp only at hSw); go_simp
        simp only [Act.put, List.getElem_toArray, List.getElem_cons_zero, List.getElem_cons_succ, List.setIfInBounds_toArray, List.set_cons_zero, List.set_cons_succ]
        refine wpAnyH_take (i := 2) (v := .pointer (some ⟨G, 0, none⟩)) rfl (by kernel_rfl) (by kernel_rfl) (by kernel_rfl) (fun _ _ _ h => h) (Or.inl ⟨by rfl, ?_⟩) (by assumption) ?_
        · intro w hSw; (try dsimp only at hSw); go_simp
        simp only [Act.put, List.getElem_toArray, List.getElem_cons_zero, List.getElem_cons_succ, List.setIfInBounds_toArray, List.set_cons_zero, List.set_cons_succ]
        refine wpAnyH_take (i := 3) (v := .pointer (some ⟨G, 2, none⟩)) rfl (by kernel_rfl) (by kernel_rfl) (by kernel_rfl) (fun _ _ _ h => h) (Or.inl ⟨by rfl, ?_⟩) (by assumption) ?_
        · intro w hSw; (try dsimp only at hSw); go_simp
        simp only [Act.put, List.getElem_toArray, List.getElem_cons_zero, List.getElem_cons_succ, List.setIfInBounds_toArray, List.set_cons_zero, List.set_cons_succ]
        refine wpAnyH_take (i := 4) (v := .int .i64 c) rfl (by kernel_rfl) (by kernel_rfl) (by kernel_rfl) (fun _ _ _ h => h) (Or.inl ⟨by rfl, ?_⟩) (by assumption) ?_
        · intro w hSw; (try dsimp only at hSw); go_simp
        simp only [Act.put, List.getElem_toArray, List.getElem_cons_zero, List.getElem_cons_succ, List.setIfInBounds_toArray, List.set_cons_zero, List.set_cons_succ]
        refine wpAnyH_ready (rs := [5]) (by kernel_rfl) (by simp) ?_
        refine AllReadyH.cons rfl (fun K hK => ?_) AllReadyH.nil
        rw [if_pos (by rfl)]
        refine wp_store_row 73 (.tmp 2) (.tmp 67) rfl K0 zpk (by simp [Act.eval, Act.put]) (by simp [Act.eval, Act.put]) 73 #[.int .i64 0, .int .i64 0, .int .i64 0, .int .u64 0, .int .i64 0, .int .i64 0, .int .u32 0, .int .u64 0, .int .i64 0, .slice none 0 0, .string ⟨#[]⟩, .int .u64 0, .int .u32 0, .slice none 0 0, .int .u64 0, .int .i64 0, .int .u32 0, .int .u64 0, .int .u64 0, .int .i64 0, .int .u64 0, .slice none 0 0] RBd info73 rfl zpk_one ?_
        clear hHeld
        refine hK.out _ _ ((World.cell?_of_block (w := wF) (setRow_other wF K0 G _ (by omega))).trans z2d) (fun hHeld => ?_)
        clear hK K
        refine wpAnyH_take (i := 6) (v := .int .i64 c) rfl (by kernel_rfl) (by kernel_rfl) (by kernel_rfl) (fun _ _ _ h => h) (Or.inl ⟨by rfl, ?_⟩) (by assumption) ?_
        · intro w hSw; (try dsimp only at hSw); go_simp
        simp only [Act.put, List.getElem_toArray, List.getElem_cons_zero, List.getElem_cons_succ, List.setIfInBounds_toArray, List.set_cons_zero, List.set_cons_succ]
        refine wpAnyH_done (by kernel_rfl) ?_ _
        clear hHeld
        go_wp2_with fail
        refine bodyPost_ret (results45 K0 zpk (.int .i64 c) _ _ (by simp [Act.put]) (by simp [Act.put]) (setRow_heap _ _ _ _ _ _ RBd) rfl) rfl ?_
        have hXe : X = (.zero, c) := by rw [HX.out, HRX.out]; rfl
        rw [hXe]
        exact ⟨⟨_, rfl, OwnV.zero _ _⟩, below_setRow EBd.out hwK0 _⟩
      | ok l =>
        obtain ⟨p1, hb1, hp1, hl1, _⟩ := HT.out
        have y1 := cell_of_row _ _ 1 _ _ _ hb1
        simp at y1
        have hll : l.length = b.size - p1 := by rw [← hl1, List.length_drop, size_data]
        clear hb1 hl1
        cases hL : l with
        | cons x r =>
          have hbb : decide (p1 < b.size) = true := by rw [hL] at hll; simp at hll ⊢; omega
          have hbb2 : decide ((p1 : Int) < (b.size : Int)) = true := by rw [← hbb]; simp
          have HBA := Lib.hid (tbad_any G b _ _ 4 true wr HT.out (by decide))
          have HRL := Lib.hid hL
          clear hll hp1 hL
          go_wp2_with fail
          refine HBA.out.mono ?_
          rintro e wE ⟨rfl, hT, ho⟩
          have ET : Hid (Tk wE G b _ (.error 4)) := Lib.hid hT
          have E0 := Lib.hid ((ho.block K0 (blk_lt H0.out) (by simpa using n0)).trans H0.out)
          have EB := Lib.hid (Only.below HBL.out ho (by omega) hwG)
          clear HBA hT ho y1 hbb hbb2 HT H0 H1 HBL HRW HV
          obtain ⟨p2, hb2, hp2, hc2, _⟩ := ET.out
          have z2 := cell_of_row _ _ 2 _ _ _ hb2
          simp at z2
          clear hc2
          have z2d : wE.drew.cell? ⟨G, 2, none⟩ = some (.int .i64 4) := z2
          have RBd : wE.drew.heap[K0]? = some (.cells #[.int .i64 0, .int .i64 0, .int .i64 0, .int .u64 0, .int .i64 0, .int .i64 0, .int .u32 0, .int .u64 0, .int .i64 0, .slice none 0 0, .string ⟨#[]⟩, .int .u64 0, .int .u32 0, .slice none 0 0, .int .u64 0, .int .i64 0, .int .u32 0, .int .u64 0, .int .u64 0, .int .i64 0, .int .u64 0, .slice none 0 0] 73 (0, 0)) := E0.out
          have EBd := Lib.hid EB.out.drew
          clear hb2 hp2
          go_wp2_with fail
          refine wp_region_held_drew (S := fun w' => w'.cell? ⟨G, 2, none⟩ = some (.int .i64 4)) (by kernel_rfl) z2d (fun hHeld => ?_)
          generalize wE.drew = wF at *
          refine wpAnyH_take (i := 0) (v := .agg zpk) rfl (by kernel_rfl) (by kernel_rfl) (by kernel_rfl) (fun _ _ _ h => h) (yields_build73 rfl (by rfl)) (by assumption) ?_
          simp only [Act.put, List.getElem_toArray, List.getElem_cons_zero, List.getElem_cons_succ, List.setIfInBounds_toArray, List.set_cons_zero, List.set_cons_succ]
          refine wpAnyH_take (i := 1) (v := .pointer (some ⟨G, 0, none⟩)) rfl (by kernel_rfl) (by kernel_rfl) (by kernel_rfl) (fun _ _ _ h => h) (Or.inl ⟨by rfl, ?_⟩) (by assumption) ?_
          · intro w hSw; (try dsimp only at hSw); go_simp
          simp only [Act.put, List.getElem_toArray, List.getElem_cons_zero, List.getElem_cons_succ, List.setIfInBounds_toArray, List.set_cons_zero, List.set_cons_succ]
          refine wpAnyH_take (i := 2) (v := .pointer (some ⟨G, 0, none⟩)) rfl (by kernel_rfl) (by kernel_rfl) (by kernel_rfl) (fun _ _ _ h => h) (Or.inl ⟨by rfl, ?_⟩) (by assumption) ?_
          · intro w hSw; (try dsimp only at hSw); go_simp
          simp only [Act.put, List.getElem_toArray, List.getElem_cons_zero, List.getElem_cons_succ, List.setIfInBounds_toArray, List.set_cons_zero, List.set_cons_succ]
          refine wpAnyH_take (i := 3) (v := .pointer (some ⟨G, 2, none⟩)) rfl (by kernel_rfl) (by kernel_rfl) (by kernel_rfl) (fun _ _ _ h => h) (Or.inl ⟨by rfl, ?_⟩) (by assumption) ?_
          · intro w hSw; (try dsimp only at hSw); go_simp
          simp only [Act.put, List.getElem_toArray, List.getElem_cons_zero, List.getElem_cons_succ, List.setIfInBounds_toArray, List.set_cons_zero, List.set_cons_succ]
          refine wpAnyH_take (i := 4) (v := .int .i64 4) rfl (by kernel_rfl) (by kernel_rfl) (by kernel_rfl) (fun _ _ _ h => h) (Or.inl ⟨by rfl, ?_⟩) (by assumption) ?_
          · intro w hSw; (try dsimp only at hSw); go_simp
          simp only [Act.put, List.getElem_toArray, List.getElem_cons_zero, List.getElem_cons_succ, List.setIfInBounds_toArray, List.set_cons_zero, List.set_cons_succ]
          refine wpAnyH_ready (rs := [5]) (by kernel_rfl) (by simp) ?_
          refine AllReadyH.cons rfl (fun K hK => ?_) AllReadyH.nil
          rw [if_pos (by rfl)]
          refine wp_store_row 73 (.tmp 2) (.tmp 67) rfl K0 zpk (by simp [Act.eval, Act.put]) (by simp [Act.eval, Act.put]) 73 #[.int .i64 0, .int .i64 0, .int .i64 0, .int .u64 0, .int .i64 0, .int .i64 0, .int .u32 0, .int .u64 0, .int .i64 0, .slice none 0 0, .string ⟨#[]⟩, .int .u64 0, .int .u32 0, .slice none 0 0, .int .u64 0, .int .i64 0, .int .u32 0, .int .u64 0, .int .u64 0, .int .i64 0, .int .u64 0, .slice none 0 0] RBd info73 rfl zpk_one ?_
          clear hHeld
          refine hK.out _ _ ((World.cell?_of_block (w := wF) (setRow_other wF K0 G _ (by omega))).trans z2d) (fun hHeld => ?_)
          clear hK K
          refine wpAnyH_take (i := 6) (v := .int .i64 4) rfl (by kernel_rfl) (by kernel_rfl) (by kernel_rfl) (fun _ _ _ h => h) (Or.inl ⟨by rfl, ?_⟩) (by assumption) ?_
          · intro w hSw; (try dsimp only at hSw); go_simp
          simp only [Act.put, List.getElem_toArray, List.getElem_cons_zero, List.getElem_cons_succ, List.setIfInBounds_toArray, List.set_cons_zero, List.set_cons_succ]
          refine wpAnyH_done (by kernel_rfl) ?_ _
          clear hHeld
          go_wp2_with fail
          refine bodyPost_ret (results45 K0 zpk (.int .i64 4) _ _ (by simp [Act.put]) (by simp [Act.put]) (setRow_heap _ _ _ _ _ _ RBd) rfl) rfl ?_
          have hXe : X = (.zero, 4) := by rw [HX.out, HRX.out, HRL.out]; rfl
          rw [hXe]
          exact ⟨⟨_, rfl, OwnV.zero _ _⟩, below_setRow EBd.out hwK0 _⟩
        | nil =>
          have hbb : decide (p1 < b.size) = false := by rw [hL] at hll; simp at hll ⊢; omega
          have hbb2 : decide ((p1 : Int) < (b.size : Int)) = false := by rw [← hbb]; simp
          have HBA := Lib.hid (tbad_any G b _ _ 4 false wr HT.out (by decide))
          have HRL := Lib.hid hL
          clear hll hp1 hL
          go_wp2_with fail
          refine HBA.out.mono ?_
          rintro e wE ⟨rfl, hT, ho⟩
          have E0 := ((ho.block K0 (blk_lt H0.out) (by simpa using n0)).trans H0.out)
          have E1 := ((ho.block K1 (blk_lt H1.out) (by simpa using n1)).trans H1.out)
          have EB := Lib.hid (Only.below HBL.out ho (by omega) hwG)
          obtain ⟨hr1, hr2, hr3⟩ := HRW.out
          have ER := Lib.hid (show PkRows wE B p Am cm Ag cg Ax cx from ⟨own_keep_only hr1 ho hGB, own_keep_only hr2 ho hGB, XOwn.keep_only hr3 ho hGB⟩)
          obtain ⟨p2, hb2, hp2, _, _⟩ := hT
          have z2 := cell_of_row _ _ 2 _ _ _ hb2
          simp at z2
          clear HBA ho y1 hbb hbb2 HT H0 H1 HBL HRW hr1 hr2 hr3 hb2 hp2
          obtain ⟨hVs, hVo⟩ := pkV_agg HV.out
          have mk1 := True.intro
          go_wp2_with (first | (clear mk1; refine wpList_load_row rfl 73 (.tmp 9) rfl K1 (by simp [Act.eval, Act.put]) 73 V (0, 0) _ E1 Try.underlying73 rfl (by rw [hVs]; exact info73) ?_; have mk2 := True.intro) | (clear mk2; refine wpList_store_row rfl 73 (.tmp 2) (.tmp 72) rfl K0 V (by simp [Act.eval, Act.put]) (by simp [Act.eval, Act.put]) 73 #[.int .i64 0, .int .i64 0, .int .i64 0, .int .u64 0, .int .i64 0, .int .i64 0, .int .u32 0, .int .u64 0, .int .i64 0, .slice none 0 0, .string ⟨#[]⟩, .int .u64 0, .int .u32 0, .slice none 0 0, .int .u64 0, .int .i64 0, .int .u32 0, .int .u64 0, .int .u64 0, .int .i64 0, .int .u64 0, .slice none 0 0] E0 (by rw [hVs]; exact info73) (by rw [hVs]; rfl) hVo ?_))
          refine bodyPost_ret (results45 K0 V (.int .i64 0) _ _ (by simp [Act.put]) (by simp [Act.put]) (setRow_heap _ _ _ _ _ _ E0) hVs) rfl ?_
          have hXe : X = (p, 0) := by rw [HX.out, HRX.out, HRL.out]; rfl
          rw [hXe]
          obtain ⟨hr1, hr2, hr3⟩ := ER.out
          exact ⟨⟨_, rfl, Am, cm, Ag, cg, Ax, cx, HV.out.symm, own_low_any (own_setRow hr1 (by omega) _) hwB, own_low_any (own_setRow hr2 (by omega) _) hwB, XOwn.low (XOwn.setRow hr3 (by omega) _) hwB⟩, below_setRow EB.out hwK0 _⟩

theorem tparse_whole (s : ByteArray) (w : World) (hs : s.size ≤ 100000) :
    Calls Try.prog 45 #[.string s] w fun e w' => (∃ v, e = .returned (.tuple #[v, .int .i64 (parseP s).2]) ∧ OwnV w' w.heap.size (parseP s).1 v) ∧ Below w.heap.size w w' := by
  by_cases he : (parseF s).e = 0
  · refine tparse_yes s w hs he (parseP s) ?_
    unfold parseP
    rw [if_neg (by simpa using he), body_fold _ _ _ _ (parseF_kind he)]
    cases foldP (rowN (parseF s).k) { Pk.zero with kind := (parseF s).k, src := (parseF s).f, dst := (parseF s).t } (parseF s).b.data.toList with
    | error c => rfl
    | ok y =>
      obtain ⟨p, r⟩ := y
      show (match (if r = [] then .ok p else .error 4 : Except Int Pk) with | .error c => (Pk.zero, c) | .ok p => (p, 0)) = _
      dsimp only
      by_cases hr : r = []
      · rw [if_pos hr, if_pos hr]
      · rw [if_neg hr, if_neg hr]
  · unfold parseP
    rw [if_pos he]
    refine (tparse_no s w (by omega) he).mono ?_
    rintro e w' ⟨rfl, h⟩
    exact ⟨⟨_, rfl, OwnV.zero _ _⟩, h⟩
end Go.Proofs.Ythkfgjdbgnbjkaa
