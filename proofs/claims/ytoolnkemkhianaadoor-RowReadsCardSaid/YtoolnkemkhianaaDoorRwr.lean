/-
  row.take and row.Read, walked.
  Conditions: as each theorem states them.
-/
import Derived.Test.YtoolnkemkhianaaDoorRwb
namespace Go.Proofs.YtoolnkemkhianaaDoor
open Go Go.RowKit Go.Proofs.YtoolnkemkhianaaDoorW
set_option maxRecDepth 100000
set_option maxHeartbeats 1000000
set_option linter.unusedSimpArgs false
set_option linter.unusedVariables false
theorem aggk (n : Nat) : Value.agg #[.int .u8 (n : Int), .int .i64 0, .string ⟨#[]⟩, .bool false] = va ⟨n, 0, [], false⟩ := rfl
theorem aggz : Value.agg #[.int .u8 0, .int .i64 0, .string ⟨#[]⟩, .bool false] = va ⟨0, 0, [], false⟩ := rfl
theorem bdz : bdCells Tryd.prog 36 #[] = some #[.int .u8 0, .int .i64 0, .string ⟨#[]⟩, .bool false] := by kernel_rfl
attribute [go_sem] aggk aggz bdz
theorem ofInt_i64 (x : Int) : BitVec.ofInt 64 (IntKind.i64.wrap x) = BitVec.ofInt 64 x := by
  apply BitVec.eq_of_toNat_eq
  rw [BitVec.toNat_ofInt, BitVec.toNat_ofInt]
  congr 1
  unfold IntKind.wrap
  simp [IntKind.bits, IntKind.signed]
  omega
theorem or_i64 {n b j : Nat} (hj : j < 8) (hn : n < 256 ^ j) (hb : b < 256) : orI .i64 (IntKind.i64.wrap (n : Int)) (IntKind.i64.wrap ((b : Int) * 2 ^ min (8 * j) 64)) = IntKind.i64.wrap ((n + b * 256 ^ j : Nat) : Int) := by
  have e := pow_law ⟨j, hj⟩
  simp only [] at e
  have e0 : ((b : Int) * 2 ^ min (8 * j) 64) = ((b * 256 ^ j : Nat) : Int) := by rw [e, Int.natCast_mul]
  have h7 : 256 ^ j ≤ 256 ^ 7 := Nat.pow_le_pow_right (by decide) (by omega)
  have h7' : 256 ^ 7 = 72057594037927936 := by decide
  have hbm : b * 256 ^ j ≤ 255 * 256 ^ 7 := Nat.mul_le_mul (by omega) h7
  rw [e0]
  unfold orI
  have hbits : IntKind.i64.bits = 64 := rfl
  rw [hbits, ofInt_i64, ofInt_i64, BitVec.ofInt_natCast, BitVec.ofInt_natCast, BitVec.toNat_or, BitVec.toNat_ofNat, BitVec.toNat_ofNat]
  rw [Nat.mod_eq_of_lt (show n < 2 ^ 64 by omega), Nat.mod_eq_of_lt (show b * 256 ^ j < 2 ^ 64 by omega)]
  have h2 : 256 ^ j = 2 ^ (8 * j) := by rw [Nat.pow_mul]
  rw [h2] at hn ⊢
  have h := Nat.two_pow_add_eq_or_of_lt hn b
  rw [Nat.or_comm, Nat.mul_comm b, ← h, Nat.add_comm]
/-- What row.take gives. -/
def TwQ (w0 : World) (H : Hp) (k : UInt8) (p : List UInt8) (r : Value) : Prop :=
  match tkW k p with
  | some (x, q) => ∃ s, r = .tuple #[va x, s, .bool true] ∧ Bt w0 H s q
  | none => ∃ y s, r = .tuple #[va y, s, .bool false]
theorem TwQ.some {w0 : World} {H : Hp} {k : UInt8} {p q : List UInt8} {x : Va} {s : Value} (h : tkW k p = some (x, q)) (hb : Bt w0 H s q) : TwQ w0 H k p (.tuple #[va x, s, .bool true]) := by unfold TwQ; rw [h]; exact ⟨s, rfl, hb⟩
theorem TwQ.none {w0 : World} {H : Hp} {k : UInt8} {p : List UInt8} {y : Va} {s : Value} (h : tkW k p = none) : TwQ w0 H k p (.tuple #[va y, s, .bool false]) := by unfold TwQ; rw [h]; exact ⟨y, s, rfl⟩
theorem tkW1 {k : UInt8} (p : List UInt8) (h : k.toNat = 1) : tkW k p = if p.length < 8 then none else some (⟨1, IntKind.i64.wrap (leN (p.take 8) : Int), [], false⟩, p.drop 8) := by unfold tkW; rw [if_pos h]
theorem tkW2n {k : UInt8} (p : List UInt8) (h : k.toNat ≠ 1) (hp : p.length = 0) : tkW k p = none := by
  unfold tkW
  rw [if_neg h, List.eq_nil_of_length_eq_zero hp]
theorem tkW2 {k b : UInt8} {p : List UInt8} (h : k.toNat = 2) (hb : p[0]? = some b) : tkW k p = if p.length < 1 + b.toNat then none else if rightB ⟨2, 0, (p.drop 1).take b.toNat, false⟩ = true then some (⟨2, 0, (p.drop 1).take b.toNat, false⟩, p.drop (1 + b.toNat)) else none := by
  unfold tkW
  rw [if_neg (by omega)]
  cases p with
  | nil => cases hb
  | cons x r =>
    cases hb
    simp only []
    rw [if_pos h, List.length_cons, List.drop_succ_cons, List.drop_zero, Nat.add_comm 1, List.drop_succ_cons]
    by_cases c : r.length < b.toNat
    · rw [if_pos c, if_pos (show r.length + 1 < b.toNat + 1 by omega)]
    · rw [if_neg c, if_neg (show ¬ (r.length + 1 < b.toNat + 1) by omega)]
theorem tkW3 {k b : UInt8} {p : List UInt8} (h1 : k.toNat ≠ 1) (h2 : k.toNat ≠ 2) (hb : p[0]? = some b) : tkW k p = if b.toNat ≤ 1 then some (⟨3, 0, [], decide (b.toNat = 1)⟩, p.drop 1) else none := by
  unfold tkW
  rw [if_neg h1]
  cases p with
  | nil => cases hb
  | cons x r =>
    cases hb
    simp only []
    rw [if_neg h2]
    rfl
section
variable {w0 : World} {H Hb : Hp}
theorem Bt.low {u : Value} {p : List UInt8} {k : Nat} (h : Bt w0 H u p) (hk : k ≤ p.length) : ∃ (a : Option Addr) (n c : Nat) (rs : Value), u = .slice a n c ∧ n = p.length ∧ k ≤ n ∧ n ≤ c ∧ (.slice (if c = k then a else a.map (·.add (k * 1))) (n - k) (c - k)) = rs ∧ Bt w0 H rs (p.drop k) := by
  obtain ⟨a, c, e, hc⟩ := Rd.slice h
  subst e
  exact ⟨a, p.length, c, _, rfl, rfl, hk, hc, rfl, h.back hk⟩
def TwI (Hm : Hp) (u : Value) (b4 bz : Nat) (p : List UInt8) (m : Nat) (F : Fr) (H : Hp) : Prop :=
  ∃ j, j + m = 8 ∧ F 1 = u ∧ F 4 = .pointer (some ⟨b4, 0, none⟩) ∧ F 7 = .pointer (some ⟨bz, 0, none⟩) ∧ F 18 = .int .i64 (j : Int) ∧
    H bz = some (.cells (vc ⟨1, IntKind.i64.wrap (leN (p.take j) : Int), [], false⟩).toArray 36 (0, 0)) ∧ ∀ i, i ≠ bz → H i = Hm i
theorem rtake_ok {u : Value} {k : UInt8} {p : List UInt8} (ht : Tbl w0) (hp : Bt w0 H u p) (hk : kindOk k = true) (hn : p.length < 1000000000) : ACalls Tryd.prog w0 48 #[.int .u8 (k.toNat : Int), u] H fun r H' => TwQ w0 H k p r ∧ H' = H := by
  refine ACalls.forget (Q := fun r H' => TwQ w0 H k p r ∧ Sub H H') ?_ (fun r H' q => ⟨H, q.2, q.1, rfl⟩)
  refine acalls_hi fun hh => ?_
  have hk13 : 1 ≤ k.toNat ∧ k.toNat ≤ 3 := by unfold kindOk at hk; simpa using hk
  obtain ⟨pa, pc, eu, hpc⟩ := Rd.slice hp
  subst eu
  refine acalls_of3 Tryd.func48 rfl Tryd.ntmps48 r48 (by simp) ?_
  simp -implicitDefEqProofs only [go_sem, Nat.reduceEqDiff, Nat.reduceLT, Nat.reduceAdd, Nat.reduceMul, Int.reduceEq, Int.reduceLT, Int.reduceLE, Int.reduceNe, Int.reduceBEq, Int.reduceToNat, ↓reduceIte]
  refine newK_of ?_
  intro b4' H1 hb4 hn4 h1 s1 g1
  have hh1 : Hi w0 H1 := Hi.ne hh hb4 g1
  simp -implicitDefEqProofs only [go_sem, Nat.reduceEqDiff, Nat.reduceLT, Nat.reduceAdd, Nat.reduceMul, Int.reduceEq, Int.reduceLT, Int.reduceLE, Int.reduceNe, Int.reduceBEq, Int.reduceToNat, ↓reduceIte]
  refine newK_of ?_
  intro bz H2 hbz hnz h2 u2 g2
  have hh2 : Hi w0 H2 := Hi.ne hh1 hbz g2
  simp -implicitDefEqProofs only [go_sem, Nat.reduceEqDiff, Nat.reduceLT, Nat.reduceAdd, Nat.reduceMul, Int.reduceEq, Int.reduceLT, Int.reduceLE, Int.reduceNe, Int.reduceBEq, Int.reduceToNat, ↓reduceIte]
  refine store_all (cs := (vc ⟨k.toNat, 0, [], false⟩).toArray) h2 rfl rfl s36 ?_
  intro H3 h3z g3
  have hh3 : Hi w0 H3 := Hi.ne hh2 hbz g3
  have n4z : b4' ≠ bz := fun e => by rw [e, hnz] at h1; cases h1
  have h34 : H3 b4' = some (.cells (vc ⟨0, 0, [], false⟩).toArray 36 (0, 0)) := (g3 b4' n4z).trans (u2 _ _ h1)
  have s3' : Sub H H3 := fun i o hi => (g3 i fun e => by rw [e, s1.none hnz] at hi; cases hi).trans (u2 _ _ (s1 _ _ hi))
  have hp3 := hp.sub s3' hh3
  have l3 := ldc w0 (l := vc ⟨k.toNat, 0, [], false⟩) h3z 4
  -- what is left of the heap when t4 and t7 are written
  have fin : ∀ HF, (∀ i, i ≠ b4' → i ≠ bz → HF i = H3 i) → Sub H HF := fun HF gF i o hi => (gF i (fun e => by rw [e, hn4] at hi; cases hi) (fun e => by rw [e, s1.none hnz] at hi; cases hi)).trans (s3' _ _ hi)
  by_cases k1 : k.toNat = 1
  · have d1 : decide ((k.toNat : Int) = 1) = true := decide_eq_true (by omega)
    have et := tkW1 p k1
    by_cases c8 : p.length < 8
    · have d8 : decide ((p.length : Int) < 8) = true := decide_eq_true (by omega)
      simp -implicitDefEqProofs only [go_sem, Nat.reduceEqDiff, Nat.reduceLT, Nat.reduceAdd, Nat.reduceMul, Int.reduceEq, Int.reduceLT, Int.reduceLE, Int.reduceNe, Int.reduceBEq, Int.reduceToNat, ↓reduceIte, d1, d8, l3]
      refine store_all (cs := (vc ⟨k.toNat, 0, [], false⟩).toArray) h34 rfl rfl s36 ?_
      intro HF hF gF
      have lF := ldc w0 (l := vc ⟨k.toNat, 0, [], false⟩) hF 4
      simp -implicitDefEqProofs only [go_sem, Nat.reduceEqDiff, Nat.reduceLT, Nat.reduceAdd, Nat.reduceMul, Int.reduceEq, Int.reduceLT, Int.reduceLE, Int.reduceNe, Int.reduceBEq, Int.reduceToNat, ↓reduceIte, lF]
      exact ⟨TwQ.none (by rw [et, if_pos c8]), fin HF fun i h1 _ => gF i h1⟩
    · have d8 : decide ((p.length : Int) < 8) = false := decide_eq_false (by omega)
      simp -implicitDefEqProofs only [go_sem, Nat.reduceEqDiff, Nat.reduceLT, Nat.reduceAdd, Nat.reduceMul, Int.reduceEq, Int.reduceLT, Int.reduceLE, Int.reduceNe, Int.reduceBEq, Int.reduceToNat, ↓reduceIte, d1, d8]
      have h3z' : H3 bz = some (.cells (vc ⟨1, IntKind.i64.wrap (leN (p.take 0) : Int), [], false⟩).toArray 36 (0, 0)) := by rw [h3z, k1]; rfl
      refine AC.loop (TwI H3 (.slice pa p.length pc) b4' bz p) (n := 8) ⟨0, by omega, by simp -implicitDefEqProofs only [go_sem, Nat.reduceEqDiff, Nat.reduceLT, Nat.reduceAdd, Nat.reduceMul, Int.reduceEq, Int.reduceLT, Int.reduceLE, Int.reduceNe, Int.reduceBEq, Int.reduceToNat, ↓reduceIte], by simp -implicitDefEqProofs only [go_sem, Nat.reduceEqDiff, Nat.reduceLT, Nat.reduceAdd, Nat.reduceMul, Int.reduceEq, Int.reduceLT, Int.reduceLE, Int.reduceNe, Int.reduceBEq, Int.reduceToNat, ↓reduceIte], by simp -implicitDefEqProofs only [go_sem, Nat.reduceEqDiff, Nat.reduceLT, Nat.reduceAdd, Nat.reduceMul, Int.reduceEq, Int.reduceLT, Int.reduceLE, Int.reduceNe, Int.reduceBEq, Int.reduceToNat, ↓reduceIte], by simp -implicitDefEqProofs only [go_sem, Nat.reduceEqDiff, Nat.reduceLT, Nat.reduceAdd, Nat.reduceMul, Int.reduceEq, Int.reduceLT, Int.reduceLE, Int.reduceNe, Int.reduceBEq, Int.reduceToNat, ↓reduceIte] <;> rfl, h3z', fun i _ => rfl⟩ ?_
      rintro m F HL ⟨j, hj, f1, f4, f7, f18, hLz, gL⟩
      have qL := ld_own w0 hLz
      have hsL : Sub H HL := fin HL fun i _ h2 => gL i h2
      have hhL : Hi w0 HL := Hi.ne hh3 hbz gL
      have hpL := hp.sub hsL hhL
      by_cases cj : j < 8
      · have g1' : decide ((j : Int) < 8) = true := decide_eq_true (by omega)
        have g1'' : decide ((j : Int) < (p.length : Int)) = true := decide_eq_true (by omega)
        have g0 : decide ((0 : Int) ≤ (j : Int)) = true := decide_eq_true (by omega)
        have gw : IntKind.i64.wrap ((j : Int) + 1) = (j + 1 : Nat) := by rw [i64_in] <;> omega
        have w8 : IntKind.i64.wrap (8 * (j : Int)) = ((8 * j : Nat) : Int) := by rw [i64_in] <;> omega
        have c2 : decide ((0 : Int) ≤ ((8 * j : Nat) : Int)) = true := decide_eq_true (by omega)
        have wb : IntKind.i64.bits = 64 := rfl
        obtain ⟨b, hb⟩ : ∃ b, p[j]? = some b := ⟨_, List.getElem?_eq_getElem (by omega)⟩
        have hb8 := UInt8.toNat_lt b
        obtain ⟨qa, qc, eq, lq⟩ := Rd.at1 hpL (u8s_ix hb)
        have eqa : pa = some qa := by injection eq
        rw [eqa] at f1
        have wc : IntKind.i64.wrap (b.toNat : Int) = (b.toNat : Int) := by rw [i64_in] <;> omega
        have hlj : (p.take j).length = j := by rw [List.length_take]; omega
        have hlt := leN_lt (p.take j)
        rw [hlj] at hlt
        have ob := or_i64 cj hlt hb8
        have hsn : leN (p.take (j + 1)) = leN (p.take j) + b.toNat * 256 ^ j := by
          rw [List.take_add_one, hb]
          show leN (p.take j ++ [b]) = _
          rw [leN_snoc, hlj]
        rw [← hsn] at ob
        have hw := wr_own hLz 1 (by show 1 < 4; omega)
        simp -implicitDefEqProofs only [go_sem, Nat.reduceEqDiff, Nat.reduceLT, Nat.reduceAdd, Nat.reduceMul, Int.reduceEq, Int.reduceLT, Int.reduceLE, Int.reduceNe, Int.reduceBEq, Int.reduceToNat, ↓reduceIte, f1, f4, f7, f18, g1']
        refine vdraw_t [⟨0, .p, [], []⟩, ⟨1, .n, [], []⟩, ⟨2, .p, [], []⟩, ⟨3, .p, [], []⟩, ⟨4, .p, [], []⟩, ⟨5, .n, [], []⟩, ⟨6, .n, [], []⟩, ⟨7, .p, [], []⟩, ⟨8, .p, [], []⟩, ⟨9, .p, [], []⟩, ⟨10, .p, [], []⟩, ⟨11, .p, [], []⟩, ⟨12, .c, [], []⟩] [0, 1, 0, 0, 12, 28, 60, 0, 128, 508, 1023, 2047, 4095] mixed (by kernel_rfl) ?_
        simp -implicitDefEqProofs only [go_sem, Nat.reduceEqDiff, Nat.reduceLT, Nat.reduceAdd, Nat.reduceMul, Int.reduceEq, Int.reduceLT, Int.reduceLE, Int.reduceNe, Int.reduceBEq, Int.reduceToNat, ↓reduceIte, f1, f4, f7, f18, g0, g1', g1'', lq, qL, wc, w8, c2, wb, ob, hw]
        simp -implicitDefEqProofs only [go_sem, Nat.reduceEqDiff, Nat.reduceLT, Nat.reduceAdd, Nat.reduceMul, Int.reduceEq, Int.reduceLT, Int.reduceLE, Int.reduceNe, Int.reduceBEq, Int.reduceToNat, ↓reduceIte, f18, gw]
        exact ⟨m - 1, by omega, j + 1, by omega, by simp -implicitDefEqProofs only [go_sem, Nat.reduceEqDiff, Nat.reduceLT, Nat.reduceAdd, Nat.reduceMul, Int.reduceEq, Int.reduceLT, Int.reduceLE, Int.reduceNe, Int.reduceBEq, Int.reduceToNat, ↓reduceIte, f1]; rw [eqa], by simp -implicitDefEqProofs only [go_sem, Nat.reduceEqDiff, Nat.reduceLT, Nat.reduceAdd, Nat.reduceMul, Int.reduceEq, Int.reduceLT, Int.reduceLE, Int.reduceNe, Int.reduceBEq, Int.reduceToNat, ↓reduceIte, f4], by simp -implicitDefEqProofs only [go_sem, Nat.reduceEqDiff, Nat.reduceLT, Nat.reduceAdd, Nat.reduceMul, Int.reduceEq, Int.reduceLT, Int.reduceLE, Int.reduceNe, Int.reduceBEq, Int.reduceToNat, ↓reduceIte, f7], by simp -implicitDefEqProofs only [go_sem, Nat.reduceEqDiff, Nat.reduceLT, Nat.reduceAdd, Nat.reduceMul, Int.reduceEq, Int.reduceLT, Int.reduceLE, Int.reduceNe, Int.reduceBEq, Int.reduceToNat, ↓reduceIte], Hp.set_same _ _ _, fun i hi => (Hp.set_ne _ _ _ _ hi).trans (gL i hi)⟩
      · have hj8 : j = 8 := by omega
        subst hj8
        have g1' : decide (((8 : Nat) : Int) < 8) = false := rfl
        have g1'' : decide ((8 : Int) < 8) = false := rfl
        have lL := ldc w0 (l := vc ⟨1, IntKind.i64.wrap (leN (p.take 8) : Int), [], false⟩) hLz 4
        simp -implicitDefEqProofs only [go_sem, Nat.reduceEqDiff, Nat.reduceLT, Nat.reduceAdd, Nat.reduceMul, Int.reduceEq, Int.reduceLT, Int.reduceLE, Int.reduceNe, Int.reduceBEq, Int.reduceToNat, ↓reduceIte, f1, f4, f7, f18, g1', g1'']
        refine vdraw_t [⟨0, .n, [], []⟩, ⟨1, .p, [], []⟩, ⟨2, .n, [], []⟩, ⟨3, .c, [2], []⟩, ⟨4, .p, [], []⟩, ⟨5, .p, [], []⟩] [0, 0, 2, 1, 15, 31] mixed (by kernel_rfl) ?_
        simp -implicitDefEqProofs only [go_sem, Nat.reduceEqDiff, Nat.reduceLT, Nat.reduceAdd, Nat.reduceMul, Int.reduceEq, Int.reduceLT, Int.reduceLE, Int.reduceNe, Int.reduceBEq, Int.reduceToNat, ↓reduceIte, f1, f4, f7, lL]
        obtain ⟨a2, n2, c2, r2, e3, en2, hk2, hnc2, er2, hr2⟩ := Bt.low hp (k := 8) (by omega)
        have ea2 : pa = a2 := by injection e3
        have ec2 : pc = c2 := by injection e3
        subst ea2 ec2 en2
        refine ⟨r2, ?_, ?_⟩
        · refine slice_lo (dst := none) (ty := 0) (pos := "") (after := #[]) (g := none) (a := pa) (n := p.length) (c := pc) (l := 8) Tryd.underlying22 s5 (by simp -implicitDefEqProofs only [go_sem, Nat.reduceEqDiff, Nat.reduceLT, Nat.reduceAdd, Nat.reduceMul, Int.reduceEq, Int.reduceLT, Int.reduceLE, Int.reduceNe, Int.reduceBEq, Int.reduceToNat, ↓reduceIte]) rfl (by omega) ?_
          rw [er2]
          exact ⟨rfl, rfl⟩
        simp -implicitDefEqProofs only [go_sem, Nat.reduceEqDiff, Nat.reduceLT, Nat.reduceAdd, Nat.reduceMul, Int.reduceEq, Int.reduceLT, Int.reduceLE, Int.reduceNe, Int.reduceBEq, Int.reduceToNat, ↓reduceIte, f4]
        have hL4 := (gL b4' n4z).trans h34
        refine store_all (cs := (vc ⟨1, IntKind.i64.wrap (leN (p.take 8) : Int), [], false⟩).toArray) hL4 rfl rfl s36 ?_
        intro HF hF gF
        have lF := ldc w0 (l := vc ⟨1, IntKind.i64.wrap (leN (p.take 8) : Int), [], false⟩) hF 4
        simp -implicitDefEqProofs only [go_sem, Nat.reduceEqDiff, Nat.reduceLT, Nat.reduceAdd, Nat.reduceMul, Int.reduceEq, Int.reduceLT, Int.reduceLE, Int.reduceNe, Int.reduceBEq, Int.reduceToNat, ↓reduceIte, f4, lF]
        refine ⟨?_, TwQ.some (by rw [et, if_neg c8]) hr2, fin HF fun i h1 h2 => (gF i h1).trans (gL i h2)⟩
        refine slice_lo (dst := none) (ty := 0) (pos := "") (after := #[]) (g := none) (a := pa) (n := p.length) (c := pc) (l := 8) Tryd.underlying22 s5 (by simp -implicitDefEqProofs only [go_sem, Nat.reduceEqDiff, Nat.reduceLT, Nat.reduceAdd, Nat.reduceMul, Int.reduceEq, Int.reduceLT, Int.reduceLE, Int.reduceNe, Int.reduceBEq, Int.reduceToNat, ↓reduceIte]) rfl (by omega) ?_
        rw [er2]
        exact ⟨rfl, rfl⟩
  have d1 : decide ((k.toNat : Int) = 1) = false := decide_eq_false (by omega)
  rcases Nat.eq_zero_or_pos p.length with hz | hz
  · have dz : decide ((p.length : Int) = 0) = true := decide_eq_true (by omega)
    by_cases k2 : k.toNat = 2
    · have d2 : decide ((k.toNat : Int) = 2) = true := decide_eq_true (by omega)
      simp -implicitDefEqProofs only [go_sem, Nat.reduceEqDiff, Nat.reduceLT, Nat.reduceAdd, Nat.reduceMul, Int.reduceEq, Int.reduceLT, Int.reduceLE, Int.reduceNe, Int.reduceBEq, Int.reduceToNat, ↓reduceIte, d1, d2, dz, l3]
      refine store_all (cs := (vc ⟨k.toNat, 0, [], false⟩).toArray) h34 rfl rfl s36 ?_
      intro HF hF gF
      have lF := ldc w0 (l := vc ⟨k.toNat, 0, [], false⟩) hF 4
      simp -implicitDefEqProofs only [go_sem, Nat.reduceEqDiff, Nat.reduceLT, Nat.reduceAdd, Nat.reduceMul, Int.reduceEq, Int.reduceLT, Int.reduceLE, Int.reduceNe, Int.reduceBEq, Int.reduceToNat, ↓reduceIte, lF]
      exact ⟨TwQ.none (tkW2n p (by omega) hz), fin HF fun i h1 _ => gF i h1⟩
    · have d2 : decide ((k.toNat : Int) = 2) = false := decide_eq_false (by omega)
      simp -implicitDefEqProofs only [go_sem, Nat.reduceEqDiff, Nat.reduceLT, Nat.reduceAdd, Nat.reduceMul, Int.reduceEq, Int.reduceLT, Int.reduceLE, Int.reduceNe, Int.reduceBEq, Int.reduceToNat, ↓reduceIte, d1, d2, dz, l3]
      refine store_all (cs := (vc ⟨k.toNat, 0, [], false⟩).toArray) h34 rfl rfl s36 ?_
      intro HF hF gF
      have lF := ldc w0 (l := vc ⟨k.toNat, 0, [], false⟩) hF 4
      simp -implicitDefEqProofs only [go_sem, Nat.reduceEqDiff, Nat.reduceLT, Nat.reduceAdd, Nat.reduceMul, Int.reduceEq, Int.reduceLT, Int.reduceLE, Int.reduceNe, Int.reduceBEq, Int.reduceToNat, ↓reduceIte, lF]
      exact ⟨TwQ.none (tkW2n p (by omega) hz), fin HF fun i h1 _ => gF i h1⟩
  have dz : decide ((p.length : Int) = 0) = false := decide_eq_false (by omega)
  have dz' : decide ((0 : Int) < (p.length : Int)) = true := decide_eq_true (by omega)
  obtain ⟨b, hb⟩ : ∃ b, p[0]? = some b := ⟨_, List.getElem?_eq_getElem hz⟩
  have hb8 := UInt8.toNat_lt b
  obtain ⟨qa, qc, eq, lq⟩ := Rd.at1 hp3 (k := 0) (u8s_ix hb)
  have eqa : pa = some qa := by injection eq
  subst eqa
  have lq : ld w0 H3 qa = some (.int .u8 (b.toNat : Int)) := lq
  by_cases k2 : k.toNat = 2
  · have d2 : decide ((k.toNat : Int) = 2) = true := decide_eq_true (by omega)
    have et := tkW2 k2 hb
    have wc : IntKind.i64.wrap (b.toNat : Int) = (b.toNat : Int) := by rw [i64_in] <;> omega
    have w1 : IntKind.i64.wrap (1 + (b.toNat : Int)) = ((1 + b.toNat : Nat) : Int) := by rw [i64_in] <;> omega
    by_cases cl : p.length < 1 + b.toNat
    · have dl : decide ((p.length : Int) < ((1 + b.toNat : Nat) : Int)) = true := decide_eq_true (by omega)
      simp -implicitDefEqProofs only [go_sem, Nat.reduceEqDiff, Nat.reduceLT, Nat.reduceAdd, Nat.reduceMul, Int.reduceEq, Int.reduceLT, Int.reduceLE, Int.reduceNe, Int.reduceBEq, Int.reduceToNat, ↓reduceIte, d1, d2, dz, dz', lq, wc, w1, dl, l3]
      refine store_all (cs := (vc ⟨k.toNat, 0, [], false⟩).toArray) h34 rfl rfl s36 ?_
      intro HF hF gF
      have lF := ldc w0 (l := vc ⟨k.toNat, 0, [], false⟩) hF 4
      simp -implicitDefEqProofs only [go_sem, Nat.reduceEqDiff, Nat.reduceLT, Nat.reduceAdd, Nat.reduceMul, Int.reduceEq, Int.reduceLT, Int.reduceLE, Int.reduceNe, Int.reduceBEq, Int.reduceToNat, ↓reduceIte, lF]
      exact ⟨TwQ.none (by rw [et, if_pos cl]), fin HF fun i h1 _ => gF i h1⟩
    · have dl : decide ((p.length : Int) < ((1 + b.toNat : Nat) : Int)) = false := decide_eq_false (by omega)
      rw [if_neg cl] at et
      obtain ⟨sx, hsx⟩ : ∃ sx, sx = (p.drop 1).take b.toNat := ⟨_, rfl⟩
      obtain ⟨sl, hsl⟩ : ∃ sl, sl = Value.slice (if pc = 1 then some qa else (some qa).map (·.add (1 * 1))) (1 + b.toNat - 1) (pc - 1) := ⟨_, rfl⟩
      have hsb : Bt w0 H3 sl sx := by
        have h1 := (hp3.front (k := 1 + b.toNat) (by omega)).back (k := 1) (by rw [List.length_take]; omega)
        rw [List.drop_take, show 1 + b.toNat - 1 = b.toNat by omega] at h1
        rw [hsl, hsx, show 1 + b.toNat - 1 = b.toNat by omega]
        exact h1
      rw [← hsx] at et
      simp -implicitDefEqProofs only [go_sem, Nat.reduceEqDiff, Nat.reduceLT, Nat.reduceAdd, Nat.reduceMul, Int.reduceEq, Int.reduceLT, Int.reduceLE, Int.reduceNe, Int.reduceBEq, Int.reduceToNat, ↓reduceIte, d1, d2, dz, dz', lq, wc, w1, dl]
      refine slice_both (dst := none) (ty := 0) (pos := "") (after := #[]) (g := none) (a := some qa) (n := p.length) (c := pc) (l := 1) (h := 1 + b.toNat) Tryd.underlying22 s5 (by simp -implicitDefEqProofs only [go_sem, Nat.reduceEqDiff, Nat.reduceLT, Nat.reduceAdd, Nat.reduceMul, Int.reduceEq, Int.reduceLT, Int.reduceLE, Int.reduceNe, Int.reduceBEq, Int.reduceToNat, ↓reduceIte]) rfl (by simp -implicitDefEqProofs only [go_sem, Nat.reduceEqDiff, Nat.reduceLT, Nat.reduceAdd, Nat.reduceMul, Int.reduceEq, Int.reduceLT, Int.reduceLE, Int.reduceNe, Int.reduceBEq, Int.reduceToNat, ↓reduceIte]) (by omega) (by omega) ?_
      rw [← hsl]
      simp -implicitDefEqProofs only [go_sem, Nat.reduceEqDiff, Nat.reduceLT, Nat.reduceAdd, Nat.reduceMul, Int.reduceEq, Int.reduceLT, Int.reduceLE, Int.reduceNe, Int.reduceBEq, Int.reduceToNat, ↓reduceIte]
      refine conv_bytes (dst := none) (ty := 0) (pos := "") (after := #[]) (g := none) Tryd.underlying22 Tryd.underlying5 Tryd.underlying9 (by simp -implicitDefEqProofs only [go_sem, Nat.reduceEqDiff, Nat.reduceLT, Nat.reduceAdd, Nat.reduceMul, Int.reduceEq, Int.reduceLT, Int.reduceLE, Int.reduceNe, Int.reduceBEq, Int.reduceToNat, ↓reduceIte]) hsb ?_
      have hw := wr_own h3z 2 (by show 2 < 4; omega)
      simp -implicitDefEqProofs only [go_sem, Nat.reduceEqDiff, Nat.reduceLT, Nat.reduceAdd, Nat.reduceMul, Int.reduceEq, Int.reduceLT, Int.reduceLE, Int.reduceNe, Int.reduceBEq, Int.reduceToNat, ↓reduceIte, hw]
      have h4z := Hp.set_same H3 bz (.cells ((vc ⟨k.toNat, 0, [], false⟩).set 2 (.string (str sx))).toArray 36 (0, 0))
      have g4 : ∀ i, i ≠ bz → (H3.set bz (.cells ((vc ⟨k.toNat, 0, [], false⟩).set 2 (.string (str sx))).toArray 36 (0, 0))) i = H3 i := fun i hi => Hp.set_ne _ _ _ _ hi
      generalize H3.set bz (.cells ((vc ⟨k.toNat, 0, [], false⟩).set 2 (.string (str sx))).toArray 36 (0, 0)) = H4 at h4z g4 ⊢
      have h4z : H4 bz = some (.cells (vc ⟨2, 0, sx, false⟩).toArray 36 (0, 0)) := by rw [h4z, k2]; rfl
      have l4 := ldc w0 (l := vc ⟨2, 0, sx, false⟩) h4z 4
      have h44 := (g4 b4' n4z).trans h34
      have hh4 : Hi w0 H4 := Hi.ne hh3 hbz g4
      have hs4 : Sub H H4 := fin H4 fun i _ h2 => g4 i h2
      obtain ⟨ra, rc, er, lr⟩ := Rd.at1 (hp.sub hs4 hh4) (k := 0) (u8s_ix hb)
      have era : qa = ra := by injection er with e; exact Option.some.inj e
      subst era
      have lr : ld w0 H4 qa = some (.int .u8 (b.toNat : Int)) := lr
      refine vdraw_t [⟨0, .n, [], []⟩, ⟨1, .p, [], []⟩, ⟨2, .p, [], []⟩, ⟨3, .p, [], []⟩, ⟨4, .n, [], []⟩, ⟨5, .n, [], []⟩, ⟨6, .p, [], []⟩, ⟨7, .n, [], []⟩, ⟨8, .n, [], []⟩, ⟨9, .c, [0, 4, 5, 7], []⟩, ⟨10, .c, [4, 5, 7], []⟩, ⟨11, .p, [], []⟩, ⟨12, .p, [], []⟩] [0, 0, 0, 4, 12, 28, 60, 126, 0, 256, 769, 2047, 4095] mixed (by kernel_rfl) ?_
      obtain ⟨a2, n2, c2, r2, e3, en2, hk2, hnc2, er2, hr2⟩ := Bt.low hp (k := 1 + b.toNat) (by omega)
      have ea2 : a2 = some qa := by injection e3 with e; exact e.symm
      have ec2 : pc = c2 := by injection e3
      subst ea2 ec2 en2
      simp -implicitDefEqProofs only [go_sem, Nat.reduceEqDiff, Nat.reduceLT, Nat.reduceAdd, Nat.reduceMul, Int.reduceEq, Int.reduceLT, Int.reduceLE, Int.reduceNe, Int.reduceBEq, Int.reduceToNat, ↓reduceIte, l4, lr, dz', wc, w1]
      refine ⟨r2, ?_, ?_⟩
      · refine slice_lo (dst := none) (ty := 0) (pos := "") (after := #[]) (g := none) (a := some qa) (n := p.length) (c := pc) (l := 1 + b.toNat) Tryd.underlying22 s5 (by simp -implicitDefEqProofs only [go_sem, Nat.reduceEqDiff, Nat.reduceLT, Nat.reduceAdd, Nat.reduceMul, Int.reduceEq, Int.reduceLT, Int.reduceLE, Int.reduceNe, Int.reduceBEq, Int.reduceToNat, ↓reduceIte]) (by simp -implicitDefEqProofs only [go_sem, Nat.reduceEqDiff, Nat.reduceLT, Nat.reduceAdd, Nat.reduceMul, Int.reduceEq, Int.reduceLT, Int.reduceLE, Int.reduceNe, Int.reduceBEq, Int.reduceToNat, ↓reduceIte]) (by omega) ?_
        rw [er2]
        exact ⟨rfl, rfl⟩
      simp -implicitDefEqProofs only [go_sem, Nat.reduceEqDiff, Nat.reduceLT, Nat.reduceAdd, Nat.reduceMul, Int.reduceEq, Int.reduceLT, Int.reduceLE, Int.reduceNe, Int.reduceBEq, Int.reduceToNat, ↓reduceIte, l4]
      refine (cright_ok ht).mono ?_
      rintro r H5 ⟨rfl, rfl⟩
      simp -implicitDefEqProofs only [go_sem, Nat.reduceEqDiff, Nat.reduceLT, Nat.reduceAdd, Nat.reduceMul, Int.reduceEq, Int.reduceLT, Int.reduceLE, Int.reduceNe, Int.reduceBEq, Int.reduceToNat, ↓reduceIte, l4, lr, dz', wc, w1]
      refine ⟨?_, ?_⟩
      · refine slice_lo (dst := none) (ty := 0) (pos := "") (after := #[]) (g := none) (a := some qa) (n := p.length) (c := pc) (l := 1 + b.toNat) Tryd.underlying22 s5 (by simp -implicitDefEqProofs only [go_sem, Nat.reduceEqDiff, Nat.reduceLT, Nat.reduceAdd, Nat.reduceMul, Int.reduceEq, Int.reduceLT, Int.reduceLE, Int.reduceNe, Int.reduceBEq, Int.reduceToNat, ↓reduceIte]) (by simp -implicitDefEqProofs only [go_sem, Nat.reduceEqDiff, Nat.reduceLT, Nat.reduceAdd, Nat.reduceMul, Int.reduceEq, Int.reduceLT, Int.reduceLE, Int.reduceNe, Int.reduceBEq, Int.reduceToNat, ↓reduceIte]) (by omega) ?_
        rw [er2]
        exact ⟨rfl, rfl⟩
      refine store_all (cs := (vc ⟨2, 0, sx, false⟩).toArray) h44 rfl rfl s36 ?_
      intro HF hF gF
      have hhF : Hi w0 HF := Hi.ne hh4 hb4 gF
      have hsF : Sub H HF := fin HF (fun i h1 h2 => (gF i h1).trans (g4 i h2))
      obtain ⟨ta, tc, et1, lt⟩ := Rd.at1 (hp.sub hsF hhF) (k := 0) (u8s_ix hb)
      have eta : qa = ta := by injection et1 with e; exact Option.some.inj e
      subst eta
      have lt : ld w0 HF qa = some (.int .u8 (b.toNat : Int)) := lt
      have lF := ldc w0 (l := vc ⟨2, 0, sx, false⟩) hF 4
      simp -implicitDefEqProofs only [go_sem, Nat.reduceEqDiff, Nat.reduceLT, Nat.reduceAdd, Nat.reduceMul, Int.reduceEq, Int.reduceLT, Int.reduceLE, Int.reduceNe, Int.reduceBEq, Int.reduceToNat, ↓reduceIte, lt, lF, dz', wc, w1]
      refine ⟨?_, ?_, hsF⟩
      · refine slice_lo (dst := none) (ty := 0) (pos := "") (after := #[]) (g := none) (a := some qa) (n := p.length) (c := pc) (l := 1 + b.toNat) Tryd.underlying22 s5 (by simp -implicitDefEqProofs only [go_sem, Nat.reduceEqDiff, Nat.reduceLT, Nat.reduceAdd, Nat.reduceMul, Int.reduceEq, Int.reduceLT, Int.reduceLE, Int.reduceNe, Int.reduceBEq, Int.reduceToNat, ↓reduceIte]) (by simp -implicitDefEqProofs only [go_sem, Nat.reduceEqDiff, Nat.reduceLT, Nat.reduceAdd, Nat.reduceMul, Int.reduceEq, Int.reduceLT, Int.reduceLE, Int.reduceNe, Int.reduceBEq, Int.reduceToNat, ↓reduceIte]) (by omega) ?_
        rw [er2]
        exact ⟨rfl, rfl⟩
      cases hrb : rightB ⟨2, 0, sx, false⟩ with
      | true => exact TwQ.some (by rw [et, if_pos hrb]) hr2
      | false => exact TwQ.none (by rw [et, if_neg (by rw [hrb]; simp)])
  · have d2 : decide ((k.toNat : Int) = 2) = false := decide_eq_false (by omega)
    have k3 : k.toNat = 3 := by omega
    have et := tkW3 (by omega) k2 hb
    by_cases c1 : b.toNat ≤ 1
    · have db : decide ((1 : Int) < (b.toNat : Int)) = false := decide_eq_false (by omega)
      have de : decide ((b.toNat : Int) = 1) = decide (b.toNat = 1) := by
        by_cases q : b.toNat = 1
        · rw [decide_eq_true q, decide_eq_true (by omega)]
        · rw [decide_eq_false q, decide_eq_false (by omega)]
      have hw := wr_own h3z 3 (by show 3 < 4; omega)
      simp -implicitDefEqProofs only [go_sem, Nat.reduceEqDiff, Nat.reduceLT, Nat.reduceAdd, Nat.reduceMul, Int.reduceEq, Int.reduceLT, Int.reduceLE, Int.reduceNe, Int.reduceBEq, Int.reduceToNat, ↓reduceIte, d1, d2, dz, dz', lq, db, de, hw]
      have h4z := Hp.set_same H3 bz (.cells ((vc ⟨k.toNat, 0, [], false⟩).set 3 (.bool (decide (b.toNat = 1)))).toArray 36 (0, 0))
      have g4 : ∀ i, i ≠ bz → (H3.set bz (.cells ((vc ⟨k.toNat, 0, [], false⟩).set 3 (.bool (decide (b.toNat = 1)))).toArray 36 (0, 0))) i = H3 i := fun i hi => Hp.set_ne _ _ _ _ hi
      generalize H3.set bz (.cells ((vc ⟨k.toNat, 0, [], false⟩).set 3 (.bool (decide (b.toNat = 1)))).toArray 36 (0, 0)) = H4 at h4z g4 ⊢
      have h4z : H4 bz = some (.cells (vc ⟨3, 0, [], decide (b.toNat = 1)⟩).toArray 36 (0, 0)) := by rw [h4z, k3]; rfl
      have l4 := ldc w0 (l := vc ⟨3, 0, [], decide (b.toNat = 1)⟩) h4z 4
      have h44 := (g4 b4' n4z).trans h34
      refine vdraw_t [⟨0, .n, [], []⟩, ⟨1, .p, [], []⟩, ⟨2, .n, [], []⟩, ⟨3, .c, [2], []⟩, ⟨4, .p, [], []⟩, ⟨5, .p, [], []⟩] [0, 0, 2, 1, 15, 31] mixed (by kernel_rfl) ?_
      simp -implicitDefEqProofs only [go_sem, Nat.reduceEqDiff, Nat.reduceLT, Nat.reduceAdd, Nat.reduceMul, Int.reduceEq, Int.reduceLT, Int.reduceLE, Int.reduceNe, Int.reduceBEq, Int.reduceToNat, ↓reduceIte, l4]
      obtain ⟨a2, n2, c2, r2, e3, en2, hk2, hnc2, er2, hr2⟩ := Bt.low hp (k := 1) (by omega)
      have ea2 : a2 = some qa := by injection e3 with e; exact e.symm
      have ec2 : pc = c2 := by injection e3
      subst ea2 ec2 en2
      refine ⟨r2, ?_, ?_⟩
      · refine slice_lo (dst := none) (ty := 0) (pos := "") (after := #[]) (g := none) (a := some qa) (n := p.length) (c := pc) (l := 1) Tryd.underlying22 s5 (by simp -implicitDefEqProofs only [go_sem, Nat.reduceEqDiff, Nat.reduceLT, Nat.reduceAdd, Nat.reduceMul, Int.reduceEq, Int.reduceLT, Int.reduceLE, Int.reduceNe, Int.reduceBEq, Int.reduceToNat, ↓reduceIte]) rfl (by omega) ?_
        rw [er2]
        exact ⟨rfl, rfl⟩
      simp -implicitDefEqProofs only [go_sem, Nat.reduceEqDiff, Nat.reduceLT, Nat.reduceAdd, Nat.reduceMul, Int.reduceEq, Int.reduceLT, Int.reduceLE, Int.reduceNe, Int.reduceBEq, Int.reduceToNat, ↓reduceIte]
      refine store_all (cs := (vc ⟨3, 0, [], decide (b.toNat = 1)⟩).toArray) h44 rfl rfl s36 ?_
      intro HF hF gF
      have lF := ldc w0 (l := vc ⟨3, 0, [], decide (b.toNat = 1)⟩) hF 4
      simp -implicitDefEqProofs only [go_sem, Nat.reduceEqDiff, Nat.reduceLT, Nat.reduceAdd, Nat.reduceMul, Int.reduceEq, Int.reduceLT, Int.reduceLE, Int.reduceNe, Int.reduceBEq, Int.reduceToNat, ↓reduceIte, lF]
      refine ⟨?_, TwQ.some (by rw [et, if_pos c1]) hr2, fin HF fun i h1 h2 => (gF i h1).trans (g4 i h2)⟩
      refine slice_lo (dst := none) (ty := 0) (pos := "") (after := #[]) (g := none) (a := some qa) (n := p.length) (c := pc) (l := 1) Tryd.underlying22 s5 (by simp -implicitDefEqProofs only [go_sem, Nat.reduceEqDiff, Nat.reduceLT, Nat.reduceAdd, Nat.reduceMul, Int.reduceEq, Int.reduceLT, Int.reduceLE, Int.reduceNe, Int.reduceBEq, Int.reduceToNat, ↓reduceIte]) rfl (by omega) ?_
      rw [er2]
      exact ⟨rfl, rfl⟩
    · have db : decide ((1 : Int) < (b.toNat : Int)) = true := decide_eq_true (by omega)
      simp -implicitDefEqProofs only [go_sem, Nat.reduceEqDiff, Nat.reduceLT, Nat.reduceAdd, Nat.reduceMul, Int.reduceEq, Int.reduceLT, Int.reduceLE, Int.reduceNe, Int.reduceBEq, Int.reduceToNat, ↓reduceIte, d1, d2, dz, dz', lq, db, l3]
      refine store_all (cs := (vc ⟨k.toNat, 0, [], false⟩).toArray) h34 rfl rfl s36 ?_
      intro HF hF gF
      have lF := ldc w0 (l := vc ⟨k.toNat, 0, [], false⟩) hF 4
      simp -implicitDefEqProofs only [go_sem, Nat.reduceEqDiff, Nat.reduceLT, Nat.reduceAdd, Nat.reduceMul, Int.reduceEq, Int.reduceLT, Int.reduceLE, Int.reduceNe, Int.reduceBEq, Int.reduceToNat, ↓reduceIte, lF]
      exact ⟨TwQ.none (by rw [et, if_neg c1]), fin HF fun i h1 _ => gF i h1⟩
end
end Go.Proofs.YtoolnkemkhianaaDoor
