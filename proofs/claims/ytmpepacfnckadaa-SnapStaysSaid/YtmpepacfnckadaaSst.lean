/-
  The law SnapStays, walked.
  Conditions: the scripts' steps read as steps.
-/
import Derived.Test.YtmpepacfnckadaaHlf
namespace Go.Proofs.Ytmpepacfnckadaa
open Go Go.RowKit Go.Proofs.YtmpepacfnckadaaW
set_option maxRecDepth 100000
set_option linter.unusedSimpArgs false
set_option linter.unusedVariables false

/-- What was seen: a row of rows. -/
def WasAt (H : Hp) (sts : List Nat) (zs : List Shot) (ws : List Value) : Prop :=
  ∀ i z, zs[i]? = some z → i < ws.length → ∃ w, ws[i]? = some w ∧ Row H 4 1 w 60 (bools (seenK sts z 60))
def StaysI (w0 : World) (p l x : Nat) (S : Nat → Prop) (sts : List Nat) (zs : List Shot) (ss tt a : Value) (m : Nat) (F : Fr) (H : Hp) : Prop :=
  ∃ (i : Nat) (wv : Value) (ws : List Value), i + m = zs.length ∧ ws.length = i ∧ F 1 = a ∧ F 5 = ptr p ∧ F 7 = wv ∧ F 29 = ss ∧ F 30 = .int .i64 (zs.length : Int) ∧ F 31 = .int .i64 (i : Int) ∧
    HalfAt H p l x S sts zs ss tt ∧ Row H 67 1 wv i ws ∧ WasAt H sts zs ws ∧ (∀ w ∈ ws, cell1 w = true)
def StaysJ (w0 : World) (Hb : Hp) (z : Shot) (sts : List Nat) (p i b9 zn : Nat) (a wv ss : Value) (m : Nat) (F : Fr) (H : Hp) : Prop :=
  ∃ (y : Nat) (v : Value), y + m = 60 ∧ F 1 = a ∧ F 5 = ptr p ∧ F 7 = wv ∧ F 9 = ptr b9 ∧ F 10 = v ∧ F 29 = ss ∧ F 30 = .int .i64 (zn : Int) ∧ F 31 = .int .i64 (i : Int) ∧ F 35 = .int .u64 (y : Int) ∧
    Row H 4 1 v y (bools (seenK sts z y)) ∧ (∀ b, blk v = some b → Hb b = none ∧ w0.heap.size ≤ b) ∧ Sub Hb H
def StaysK (w0 : World) (p l x : Nat) (sts : List Nat) (zs : List Shot) (ws : List Value) (n : Nat) (ss tt a wv : Value) (m : Nat) (F : Fr) (H : Hp) : Prop :=
  ∃ (k : Nat) (S : Nat → Prop) (now : List Nat), k + m = n ∧ F 5 = ptr p ∧ F 7 = wv ∧ F 54 = a ∧ F 55 = .int .i64 (n : Int) ∧ F 56 = .int .i64 (k : Int) ∧
    HalfAt H p l x S now zs ss tt ∧ Row H 67 1 wv zs.length ws ∧ WasAt H sts zs ws ∧ now.length ≤ 30 + k ∧ k ≤ 30
def StaysL (w0 : World) (H0 : Hp) (p : Nat) (zs : List Shot) (wv ss : Value) (m : Nat) (F : Fr) (H : Hp) : Prop :=
  ∃ (i : Nat), i + m = zs.length ∧ F 5 = ptr p ∧ F 7 = wv ∧ F 95 = ss ∧ F 96 = .int .i64 (zs.length : Int) ∧ F 97 = .int .i64 (i : Int) ∧ Sub H0 H
def StaysM (w0 : World) (H0 : Hp) (p i b15 zn : Nat) (wv ss : Value) (m : Nat) (F : Fr) (H : Hp) : Prop :=
  ∃ (y : Nat), y + m = 60 ∧ F 5 = ptr p ∧ F 7 = wv ∧ F 14 = .int .i64 (i : Int) ∧ F 15 = ptr b15 ∧ F 95 = ss ∧ F 96 = .int .i64 (zn : Int) ∧ F 97 = .int .i64 (i : Int) ∧ F 102 = .int .u64 (y : Int) ∧ H = H0

theorem stays_ok (w0 : World) (a : Value) (n0 : Nat) (ha : Ops10Arg w0 a n0) (b : Value) (n : Nat) (hb : Ops10Arg w0 b n) :
    ACalls Try.prog w0 7 #[a, b] (fun _ => none) fun r H' => r = .bool true ∧ True := by
  obtain ⟨ad, c, rfl, hn, hops⟩ := hb
  refine acalls_of Try.func7 rfl Try.ntmps7 r7 (by simp) ?_
  simp -implicitDefEqProofs only [go_sem, Nat.reduceEqDiff, Nat.reduceLT, Nat.reduceAdd, Nat.reduceMul, Int.reduceEq, Int.reduceLT, Int.reduceLE, Int.reduceNe, Int.reduceBEq, Int.reduceToNat, ↓reduceIte]
  refine (awake10_ok w0 _).mono ?_
  rintro r H' ⟨rfl, rfl⟩
  simp -implicitDefEqProofs only [go_sem, Nat.reduceEqDiff, Nat.reduceLT, Nat.reduceAdd, Nat.reduceMul, Int.reduceEq, Int.reduceLT, Int.reduceLE, Int.reduceNe, Int.reduceBEq, Int.reduceToNat, ↓reduceIte]
  refine (play_ok w0 _ 30 (by omega) a n0 ha).mono ?_
  rintro r H0 ⟨p, l, x, P, sts, zs, ss, tt, rfl, hpl, hs2, hz2, hhi⟩
  obtain ⟨S, hhf⟩ := hpl.half
  have hlat : ∀ z ∈ zs, Later z.old sts := fun z hz => (hhf.2.2.2 z hz).2.1
  clear hpl hhi
  have lp := ld_own w0 hhf.1
  obtain ⟨sa, sc, hss⟩ := hhf.2.2.1.slice
  simp -implicitDefEqProofs only [go_sem, Nat.reduceEqDiff, Nat.reduceLT, Nat.reduceAdd, Nat.reduceMul, Int.reduceEq, Int.reduceLT, Int.reduceLE, Int.reduceNe, Int.reduceBEq, Int.reduceToNat, ↓reduceIte, lp, hss]
  rw [← hss]
  refine AC.loopH (StaysI w0 p l x S sts zs ss tt (.slice ad n c)) (n := zs.length) ⟨0, .slice none 0 0, [], by omega, rfl, rfl, rfl, rfl, by simp -implicitDefEqProofs only [go_sem, Nat.reduceEqDiff, Nat.reduceLT, Nat.reduceAdd, Nat.reduceMul, Int.reduceEq, Int.reduceLT, Int.reduceLE, Int.reduceNe, Int.reduceBEq, Int.reduceToNat, ↓reduceIte, hss], rfl, rfl, hhf, ⟨by simp, .inl ⟨rfl, rfl⟩⟩, fun i z _ hi => by simp at hi, by simp⟩ ?_
  clear hhf lp
  rintro m F H1 ⟨i, wv, ws, hi, hwl, f1, f5, f7, f29, f30, f31, hhf, hrw, hwas, hwc⟩ hhi1
  by_cases c1 : i < zs.length
  · have d1 : decide ((i : Int) < (zs.length : Int)) = true := by simp; omega
    have d0 : decide ((0 : Int) ≤ (i : Int)) = true := by simp
    have d2 : IntKind.i64.wrap ((i : Int) + 1) = (i + 1 : Nat) := by rw [i64_in] <;> omega
    have hz : zs[i]? = some zs[i] := by simp [c1]
    generalize zs[i] = z at hz
    have hzm := List.mem_of_getElem? hz
    obtain ⟨g1, cap1, hv1, hl1⟩ := hhf.2.2.1.at w0 rfl (fun z _ => z.cs_len) hz
    have hl1' : ldCells w0 H1 ⟨g1, i * 4, none⟩ 0 4 = some [.int .u64 (z.own : Int), .int .u64 (z.xmin : Int), .int .u64 (z.xmax : Int), z.v] := hl1
    rw [hv1] at f29
    have hc1 := hhf.2.2.2.cell hzm
    have hzl := hhf.2.2.2.run hzm
    simp -implicitDefEqProofs only [go_sem, Nat.reduceEqDiff, Nat.reduceLT, Nat.reduceAdd, Nat.reduceMul, Int.reduceEq, Int.reduceLT, Int.reduceLE, Int.reduceNe, Int.reduceBEq, Int.reduceToNat, ↓reduceIte, f1, f5, f7, f29, f30, f31, d1, d0, hl1', ldK_agg]
    refine newK_of ?_
    intro b9 H2 hb9 hn9 h9 s9 g9
    simp -implicitDefEqProofs only [go_sem, Nat.reduceEqDiff, Nat.reduceLT, Nat.reduceAdd, Nat.reduceMul, Int.reduceEq, Int.reduceLT, Int.reduceLE, Int.reduceNe, Int.reduceBEq, Int.reduceToNat, ↓reduceIte, f1, f5, f7, f29, f30, f31]
    refine store_all h9 rfl (by simp [cell1_int, hc1]) rfl ?_
    intro H3 h9 g9'
    have s3 : Sub H1 H3 := Sub.ne2 hn9 g9 g9'
    simp -implicitDefEqProofs only [go_sem, Nat.reduceEqDiff, Nat.reduceLT, Nat.reduceAdd, Nat.reduceMul, Int.reduceEq, Int.reduceLT, Int.reduceLE, Int.reduceNe, Int.reduceBEq, Int.reduceToNat, ↓reduceIte, f1, f5, f7, f29, f30, f31]
    refine AC.loop (StaysJ w0 H3 z sts p i b9 zs.length (.slice ad n c) wv ss) (n := 60) ⟨0, .slice none 0 0, by omega, by simp -implicitDefEqProofs only [go_sem, Nat.reduceEqDiff, Nat.reduceLT, Nat.reduceAdd, Nat.reduceMul, Int.reduceEq, Int.reduceLT, Int.reduceLE, Int.reduceNe, Int.reduceBEq, Int.reduceToNat, ↓reduceIte, f1], by simp -implicitDefEqProofs only [go_sem, Nat.reduceEqDiff, Nat.reduceLT, Nat.reduceAdd, Nat.reduceMul, Int.reduceEq, Int.reduceLT, Int.reduceLE, Int.reduceNe, Int.reduceBEq, Int.reduceToNat, ↓reduceIte, f5], by simp -implicitDefEqProofs only [go_sem, Nat.reduceEqDiff, Nat.reduceLT, Nat.reduceAdd, Nat.reduceMul, Int.reduceEq, Int.reduceLT, Int.reduceLE, Int.reduceNe, Int.reduceBEq, Int.reduceToNat, ↓reduceIte, f7], by simp -implicitDefEqProofs only [go_sem, Nat.reduceEqDiff, Nat.reduceLT, Nat.reduceAdd, Nat.reduceMul, Int.reduceEq, Int.reduceLT, Int.reduceLE, Int.reduceNe, Int.reduceBEq, Int.reduceToNat, ↓reduceIte], by simp -implicitDefEqProofs only [go_sem, Nat.reduceEqDiff, Nat.reduceLT, Nat.reduceAdd, Nat.reduceMul, Int.reduceEq, Int.reduceLT, Int.reduceLE, Int.reduceNe, Int.reduceBEq, Int.reduceToNat, ↓reduceIte], by simp -implicitDefEqProofs only [go_sem, Nat.reduceEqDiff, Nat.reduceLT, Nat.reduceAdd, Nat.reduceMul, Int.reduceEq, Int.reduceLT, Int.reduceLE, Int.reduceNe, Int.reduceBEq, Int.reduceToNat, ↓reduceIte, f29, hv1], by simp -implicitDefEqProofs only [go_sem, Nat.reduceEqDiff, Nat.reduceLT, Nat.reduceAdd, Nat.reduceMul, Int.reduceEq, Int.reduceLT, Int.reduceLE, Int.reduceNe, Int.reduceBEq, Int.reduceToNat, ↓reduceIte, f30], by simp -implicitDefEqProofs only [go_sem, Nat.reduceEqDiff, Nat.reduceLT, Nat.reduceAdd, Nat.reduceMul, Int.reduceEq, Int.reduceLT, Int.reduceLE, Int.reduceNe, Int.reduceBEq, Int.reduceToNat, ↓reduceIte, f31], by simp -implicitDefEqProofs only [go_sem, Nat.reduceEqDiff, Nat.reduceLT, Nat.reduceAdd, Nat.reduceMul, Int.reduceEq, Int.reduceLT, Int.reduceLE, Int.reduceNe, Int.reduceBEq, Int.reduceToNat, ↓reduceIte], ⟨by simp [seenK, bools], .inl ⟨rfl, rfl⟩⟩, by simp [blk], Sub.refl _⟩ ?_
    clear f1 f5 f7 f29 f30 f31
    have hhf3 := hhf.sub s3
    rintro m2 F H4 ⟨y, v, hy, f1, f5, f7, f9, f10, f29, f30, f31, f35, hrow, hfr, s4⟩
    by_cases cy : y < 60
    · have e1 : decide ((y : Int) < 60) = true := by simp; omega
      have e2 : IntKind.u64.wrap ((y : Int) + 1) = (y + 1 : Nat) := by rw [u64_in] <;> omega
      have hhf4 := hhf3.sub s4
      have lp := ld_own w0 hhf4.1
      have l9 := ldc w0 (s4 _ _ h9) 4
      have bs1 : ∀ t : Bool, bsCells Try.prog 4 1 #[(0, .bool t)] = some #[.bool t] := fun t => by kernel_rfl
      simp -implicitDefEqProofs only [go_sem, Nat.reduceEqDiff, Nat.reduceLT, Nat.reduceAdd, Nat.reduceMul, Int.reduceEq, Int.reduceLT, Int.reduceLE, Int.reduceNe, Int.reduceBEq, Int.reduceToNat, ↓reduceIte, f1, f5, f7, f9, f10, f29, f30, f31, f35, e1]
      refine vdraw_t [⟨0, .p, [], []⟩, ⟨1, .p, [], []⟩, ⟨2, .p, [], []⟩, ⟨3, .p, [], []⟩, ⟨4, .n, [], []⟩, ⟨5, .n, [], []⟩, ⟨6, .p, [], []⟩, ⟨7, .c, [], []⟩, ⟨8, .c, [], []⟩, ⟨9, .c, [], []⟩, ⟨10, .p, [], []⟩] [0, 0, 2, 6, 14, 0, 0, 126, 254, 511, 1023] mixed (by kernel_rfl) ?_
      simp -implicitDefEqProofs only [go_sem, Nat.reduceEqDiff, Nat.reduceLT, Nat.reduceAdd, Nat.reduceMul, Int.reduceEq, Int.reduceLT, Int.reduceLE, Int.reduceNe, Int.reduceBEq, Int.reduceToNat, ↓reduceIte, f1, f5, f7, f9, f10, f29, f30, f31, f35, lp, l9, ldK_agg]
      refine (sees_log hhf4.2.1 (by omega) (hhf4.2.2.2 z hzm).1 hzl y).mono ?_
      rintro r H5 ⟨rfl, rfl⟩
      simp -implicitDefEqProofs only [go_sem, Nat.reduceEqDiff, Nat.reduceLT, Nat.reduceAdd, Nat.reduceMul, Int.reduceEq, Int.reduceLT, Int.reduceLE, Int.reduceNe, Int.reduceBEq, Int.reduceToNat, ↓reduceIte, f1, f5, f7, f9, f10, f29, f30, f31, f35, bs1, lp, l9, ldK_agg, allocOf_bs Try.underlying67]
      refine newK_of ?_
      intro nb H6 hnb hnn h6 s6 g6
      simp -implicitDefEqProofs only [go_sem, Nat.reduceEqDiff, Nat.reduceLT, Nat.reduceAdd, Nat.reduceMul, Int.reduceEq, Int.reduceLT, Int.reduceLE, Int.reduceNe, Int.reduceBEq, Int.reduceToNat, ↓reduceIte, f1, f5, f7, f9, f10, f29, f30, f31, f35]
      refine aop_append_lit (t := 67) (x := .tmp 38) (y := .tmp 46) (c := 1) Try.underlying67 Go.Proofs.Ytmpepacfnckadaa.s4 Go.Proofs.Ytmpepacfnckadaa.b4 Go.Proofs.Ytmpepacfnckadaa.z4 rfl (v := v) (by simp -implicitDefEqProofs only [go_sem, Nat.reduceEqDiff, Nat.reduceLT, Nat.reduceAdd, Nat.reduceMul, Int.reduceEq, Int.reduceLT, Int.reduceLE, Int.reduceNe, Int.reduceBEq, Int.reduceToNat, ↓reduceIte]) (hrow.keep fun b o _ hb => s6 b o hb) h6 (by simp -implicitDefEqProofs only [go_sem, Nat.reduceEqDiff, Nat.reduceLT, Nat.reduceAdd, Nat.reduceMul, Int.reduceEq, Int.reduceLT, Int.reduceLE, Int.reduceNe, Int.reduceBEq, Int.reduceToNat, ↓reduceIte]) rfl (by simp [cell1_bool]) (by omega) (by omega) (by omega) ?_
      intro g H7 hg hH7 cap hrow7
      obtain ⟨s7, hgn, hgw⟩ := app_fresh (s4.trans s6) hfr hg hH7
      simp -implicitDefEqProofs only [go_sem, Nat.reduceEqDiff, Nat.reduceLT, Nat.reduceAdd, Nat.reduceMul, Int.reduceEq, Int.reduceLT, Int.reduceLE, Int.reduceNe, Int.reduceBEq, Int.reduceToNat, ↓reduceIte, f1, f5, f7, f9, f10, f29, f30, f31, f35, e2]
      refine ⟨m2 - 1, by omega, y + 1, .slice (some ⟨g, 0, none⟩) (y + 1) cap, by omega, by simp -implicitDefEqProofs only [go_sem, Nat.reduceEqDiff, Nat.reduceLT, Nat.reduceAdd, Nat.reduceMul, Int.reduceEq, Int.reduceLT, Int.reduceLE, Int.reduceNe, Int.reduceBEq, Int.reduceToNat, ↓reduceIte, f1], by simp -implicitDefEqProofs only [go_sem, Nat.reduceEqDiff, Nat.reduceLT, Nat.reduceAdd, Nat.reduceMul, Int.reduceEq, Int.reduceLT, Int.reduceLE, Int.reduceNe, Int.reduceBEq, Int.reduceToNat, ↓reduceIte, f5], by simp -implicitDefEqProofs only [go_sem, Nat.reduceEqDiff, Nat.reduceLT, Nat.reduceAdd, Nat.reduceMul, Int.reduceEq, Int.reduceLT, Int.reduceLE, Int.reduceNe, Int.reduceBEq, Int.reduceToNat, ↓reduceIte, f7], by simp -implicitDefEqProofs only [go_sem, Nat.reduceEqDiff, Nat.reduceLT, Nat.reduceAdd, Nat.reduceMul, Int.reduceEq, Int.reduceLT, Int.reduceLE, Int.reduceNe, Int.reduceBEq, Int.reduceToNat, ↓reduceIte, f9], by simp -implicitDefEqProofs only [go_sem, Nat.reduceEqDiff, Nat.reduceLT, Nat.reduceAdd, Nat.reduceMul, Int.reduceEq, Int.reduceLT, Int.reduceLE, Int.reduceNe, Int.reduceBEq, Int.reduceToNat, ↓reduceIte], by simp -implicitDefEqProofs only [go_sem, Nat.reduceEqDiff, Nat.reduceLT, Nat.reduceAdd, Nat.reduceMul, Int.reduceEq, Int.reduceLT, Int.reduceLE, Int.reduceNe, Int.reduceBEq, Int.reduceToNat, ↓reduceIte, f29], by simp -implicitDefEqProofs only [go_sem, Nat.reduceEqDiff, Nat.reduceLT, Nat.reduceAdd, Nat.reduceMul, Int.reduceEq, Int.reduceLT, Int.reduceLE, Int.reduceNe, Int.reduceBEq, Int.reduceToNat, ↓reduceIte, f30], by simp -implicitDefEqProofs only [go_sem, Nat.reduceEqDiff, Nat.reduceLT, Nat.reduceAdd, Nat.reduceMul, Int.reduceEq, Int.reduceLT, Int.reduceLE, Int.reduceNe, Int.reduceBEq, Int.reduceToNat, ↓reduceIte, f31], by simp -implicitDefEqProofs only [go_sem, Nat.reduceEqDiff, Nat.reduceLT, Nat.reduceAdd, Nat.reduceMul, Int.reduceEq, Int.reduceLT, Int.reduceLE, Int.reduceNe, Int.reduceBEq, Int.reduceToNat, ↓reduceIte], ?_, ?_, s7⟩
      · rw [seenK_succ]
        simp only [bools, List.map_append]
        exact hrow7
      · intro b hb
        simp only [blk, Option.some.injEq] at hb
        subst hb; exact ⟨hgn, hgw⟩
    · have e1 : decide ((y : Int) < 60) = false := by simp; omega
      have hy60 : y = 60 := by omega
      subst hy60
      have hhf4 := hhf3.sub s4
      have s14 := s3.trans s4
      have hvc : cell1 v = true := by obtain ⟨q1, q2, q⟩ := hrow.slice; rw [q]; exact cell1_slice
      have bs2 : bsCells Try.prog 67 1 #[(0, v)] = some #[v] := by obtain ⟨q1, q2, q⟩ := hrow.slice; rw [q]; kernel_rfl
      simp -implicitDefEqProofs only [go_sem, Nat.reduceEqDiff, Nat.reduceLT, Nat.reduceAdd, Nat.reduceMul, Int.reduceEq, Int.reduceLT, Int.reduceLE, Int.reduceNe, Int.reduceBEq, Int.reduceToNat, ↓reduceIte, f1, f5, f7, f9, f10, f29, f30, f31, f35, e1, bs2]
      refine newK_of ?_
      intro nb H6 hnb hnn h6 s6 g6
      simp -implicitDefEqProofs only [go_sem, Nat.reduceEqDiff, Nat.reduceLT, Nat.reduceAdd, Nat.reduceMul, Int.reduceEq, Int.reduceLT, Int.reduceLE, Int.reduceNe, Int.reduceBEq, Int.reduceToNat, ↓reduceIte, f1, f5, f7, f9, f10, f29, f30, f31, f35]
      have hrw6 := (hrw.keep (H' := H4) fun b o _ hb => s14 b o hb).keep (H' := H6) fun b o _ hb => s6 b o hb
      refine aop_append_lit (t := 60) (x := .tmp 49) (y := .tmp 51) (c := 1) Try.underlying60 s67 b67 z67 rfl (v := wv) (by simp -implicitDefEqProofs only [go_sem, Nat.reduceEqDiff, Nat.reduceLT, Nat.reduceAdd, Nat.reduceMul, Int.reduceEq, Int.reduceLT, Int.reduceLE, Int.reduceNe, Int.reduceBEq, Int.reduceToNat, ↓reduceIte]) hrw6 h6 (by simp -implicitDefEqProofs only [go_sem, Nat.reduceEqDiff, Nat.reduceLT, Nat.reduceAdd, Nat.reduceMul, Int.reduceEq, Int.reduceLT, Int.reduceLE, Int.reduceNe, Int.reduceBEq, Int.reduceToNat, ↓reduceIte]) rfl (by simp [hvc]) (by omega) (by omega) (by omega) ?_
      intro g H7 hg hH7 cap hrow7
      have keep7 : ∀ b o, tyAt H6 b ≠ some 67 → H6 b = some o → H7 b = some o := by
        intro b o ht ho
        have : b ≠ g := by
          rintro rfl
          rcases hg with e | ⟨e, _⟩
          · exact ht (Row.tyAt hrw6 e.symm)
          · rw [ho] at e; cases e
        rw [hH7 b this]; exact ho
      simp -implicitDefEqProofs only [go_sem, Nat.reduceEqDiff, Nat.reduceLT, Nat.reduceAdd, Nat.reduceMul, Int.reduceEq, Int.reduceLT, Int.reduceLE, Int.reduceNe, Int.reduceBEq, Int.reduceToNat, ↓reduceIte, f1, f5, f7, f9, f10, f29, f30, f31, f35, d2]
      refine ⟨m - 1, by omega, i + 1, .slice (some ⟨g, 0, none⟩) (i + 1) cap, ws ++ [v], by omega, by simp [hwl], by simp -implicitDefEqProofs only [go_sem, Nat.reduceEqDiff, Nat.reduceLT, Nat.reduceAdd, Nat.reduceMul, Int.reduceEq, Int.reduceLT, Int.reduceLE, Int.reduceNe, Int.reduceBEq, Int.reduceToNat, ↓reduceIte, f1], by simp -implicitDefEqProofs only [go_sem, Nat.reduceEqDiff, Nat.reduceLT, Nat.reduceAdd, Nat.reduceMul, Int.reduceEq, Int.reduceLT, Int.reduceLE, Int.reduceNe, Int.reduceBEq, Int.reduceToNat, ↓reduceIte, f5], by simp -implicitDefEqProofs only [go_sem, Nat.reduceEqDiff, Nat.reduceLT, Nat.reduceAdd, Nat.reduceMul, Int.reduceEq, Int.reduceLT, Int.reduceLE, Int.reduceNe, Int.reduceBEq, Int.reduceToNat, ↓reduceIte], by simp -implicitDefEqProofs only [go_sem, Nat.reduceEqDiff, Nat.reduceLT, Nat.reduceAdd, Nat.reduceMul, Int.reduceEq, Int.reduceLT, Int.reduceLE, Int.reduceNe, Int.reduceBEq, Int.reduceToNat, ↓reduceIte, f29], by simp -implicitDefEqProofs only [go_sem, Nat.reduceEqDiff, Nat.reduceLT, Nat.reduceAdd, Nat.reduceMul, Int.reduceEq, Int.reduceLT, Int.reduceLE, Int.reduceNe, Int.reduceBEq, Int.reduceToNat, ↓reduceIte, f30], by simp -implicitDefEqProofs only [go_sem, Nat.reduceEqDiff, Nat.reduceLT, Nat.reduceAdd, Nat.reduceMul, Int.reduceEq, Int.reduceLT, Int.reduceLE, Int.reduceNe, Int.reduceBEq, Int.reduceToNat, ↓reduceIte], ?_, ?_, ?_, ?_⟩
      · refine (hhf4.sub s6).keep fun b o ht ho => keep7 b o (fun e => by rw [e] at ht; cases ht) ho
      · exact hrow7
      · have kr : ∀ {w n xs}, Row H6 4 1 w n xs → Row H7 4 1 w n xs := fun hr => hr.keep fun b o hb ho => keep7 b o (by rw [Row.tyAt hr hb]; decide) ho
        intro j z' hz' hj
        rw [List.length_append, List.length_singleton] at hj
        by_cases ej : j = ws.length
        · subst ej
          rw [hwl, hz] at hz'
          cases hz'
          exact ⟨v, by simp, kr (hrow.keep fun b o _ hb => s6 b o hb)⟩
        · obtain ⟨w, q1, q2⟩ := hwas j z' hz' (by omega)
          exact ⟨w, by rw [List.getElem?_append_left (by omega)]; exact q1, kr (q2.keep fun b o _ hb => s6 b o (s14 b o hb))⟩
      · intro w hw
        simp only [List.mem_append, List.mem_singleton] at hw
        rcases hw with hw | rfl
        · exact hwc w hw
        · exact hvc
  · have d1 : decide ((i : Int) < (zs.length : Int)) = false := by simp; omega
    simp -implicitDefEqProofs only [go_sem, Nat.reduceEqDiff, Nat.reduceLT, Nat.reduceAdd, Nat.reduceMul, Int.reduceEq, Int.reduceLT, Int.reduceLE, Int.reduceNe, Int.reduceBEq, Int.reduceToNat, ↓reduceIte, f1, f5, f7, f29, f30, f31, d1]
    have hin : i = zs.length := by omega
    rw [hin] at hrw
    refine AC.loopH (StaysK w0 p l x sts zs ws n ss tt (.slice ad n c) wv) (n := n) ⟨0, S, sts, by omega, by simp -implicitDefEqProofs only [go_sem, Nat.reduceEqDiff, Nat.reduceLT, Nat.reduceAdd, Nat.reduceMul, Int.reduceEq, Int.reduceLT, Int.reduceLE, Int.reduceNe, Int.reduceBEq, Int.reduceToNat, ↓reduceIte, f5], by simp -implicitDefEqProofs only [go_sem, Nat.reduceEqDiff, Nat.reduceLT, Nat.reduceAdd, Nat.reduceMul, Int.reduceEq, Int.reduceLT, Int.reduceLE, Int.reduceNe, Int.reduceBEq, Int.reduceToNat, ↓reduceIte, f7], by simp -implicitDefEqProofs only [go_sem, Nat.reduceEqDiff, Nat.reduceLT, Nat.reduceAdd, Nat.reduceMul, Int.reduceEq, Int.reduceLT, Int.reduceLE, Int.reduceNe, Int.reduceBEq, Int.reduceToNat, ↓reduceIte, f1], by simp -implicitDefEqProofs only [go_sem, Nat.reduceEqDiff, Nat.reduceLT, Nat.reduceAdd, Nat.reduceMul, Int.reduceEq, Int.reduceLT, Int.reduceLE, Int.reduceNe, Int.reduceBEq, Int.reduceToNat, ↓reduceIte], by simp -implicitDefEqProofs only [go_sem, Nat.reduceEqDiff, Nat.reduceLT, Nat.reduceAdd, Nat.reduceMul, Int.reduceEq, Int.reduceLT, Int.reduceLE, Int.reduceNe, Int.reduceBEq, Int.reduceToNat, ↓reduceIte], hhf, hrw, hwas, by omega, by omega⟩ ?_
    clear f1 f5 f7 f29 f30 f31 hhf hrw hwas hhi1 hs2 d1 c1 hi
    rintro m F H2 ⟨k, S2, now, hk, f5, f7, f54, f55, f56, hhf, hrw, hwas, hnow, hk30⟩ hhi2
    by_cases c1 : k < n
    · have d1 : decide ((k : Int) < (n : Int)) = true := by simp; omega
      have d0 : decide ((0 : Int) ≤ (k : Int)) = true := by simp
      have d2 : IntKind.i64.wrap ((k : Int) + 1) = (k + 1 : Nat) := by rw [i64_in] <;> omega
      obtain ⟨ab, rfl, d, x', hd, hx', hc0, hc1⟩ := hops k c1
      have l0 := ld_arg hhi2 hc0
      have l1 := ld_arg hhi2 hc1
      have hl3 : ldCells w0 H2 (ab.add (k * 2)) 0 2 = some [.int .u8 (d : Int), .int .u64 (x' : Int)] := by
        simp only [ldCells, l0, l1, Option.bind_some, Option.map_some]
      simp -implicitDefEqProofs only [go_sem, Nat.reduceEqDiff, Nat.reduceLT, Nat.reduceAdd, Nat.reduceMul, Int.reduceEq, Int.reduceLT, Int.reduceLE, Int.reduceNe, Int.reduceBEq, Int.reduceToNat, ↓reduceIte, f5, f7, f54, f55, f56, d1, d0, ldK_agg, hl3]
      refine newK_of ?_
      intro b13 H3 hb13 hn13 h13 s13 g13
      simp -implicitDefEqProofs only [go_sem, Nat.reduceEqDiff, Nat.reduceLT, Nat.reduceAdd, Nat.reduceMul, Int.reduceEq, Int.reduceLT, Int.reduceLE, Int.reduceNe, Int.reduceBEq, Int.reduceToNat, ↓reduceIte, f5, f7, f54, f55, f56]
      refine store_all h13 rfl (by simp [cell1_int]) rfl ?_
      intro H4 h13 g13'
      have s4 : Sub H2 H4 := Sub.ne2 hn13 g13 g13'
      clear g13 g13' s13
      have hhf4 := hhf.sub s4
      have hrw4 := hrw.keep (H' := H4) fun b o _ hb => s4 b o hb
      have hwas4 : WasAt H4 sts zs ws := fun j z hz hj => by
        obtain ⟨w, q1, q2⟩ := hwas j z hz hj
        exact ⟨w, q1, q2.keep fun b o _ hb => s4 b o hb⟩
      by_cases c6 : k < 30
      · have d6 : decide ((30 : Int) ≤ (k : Int)) = false := by simp; omega
        have dm : (d : Int).tmod 4 = ((d % 4 : Nat) : Int) := by rw [Int.tmod_eq_emod_of_nonneg (by omega)]; omega
        have xm : (x' : Int).tmod 60 = ((x' % 60 : Nat) : Int) := by rw [Int.tmod_eq_emod_of_nonneg (by omega)]; omega
        have l13 := ld_own w0 h13
        have lp := ld_own w0 hhf4.1
        by_cases c7 : d % 4 = 0
        · have d7 : decide (((d % 4 : Nat) : Int) = 0) = true := by rw [dec_zero]; simp [c7]
          simp -implicitDefEqProofs only [go_sem, Nat.reduceEqDiff, Nat.reduceLT, Nat.reduceAdd, Nat.reduceMul, Int.reduceEq, Int.reduceLT, Int.reduceLE, Int.reduceNe, Int.reduceBEq, Int.reduceToNat, ↓reduceIte, f5, f7, f54, f55, f56, d6, dm, d7, l13, lp]
          refine (begin_log hhf4.2.1 (by omega)).mono ?_
          rintro r H5 ⟨rfl, S5, hlog5, _, hf5⟩
          simp -implicitDefEqProofs only [go_sem, Nat.reduceEqDiff, Nat.reduceLT, Nat.reduceAdd, Nat.reduceMul, Int.reduceEq, Int.reduceLT, Int.reduceLE, Int.reduceNe, Int.reduceBEq, Int.reduceToNat, ↓reduceIte, f5, f7, f54, f55, f56, d2]
          refine ⟨m - 1, by omega, k + 1, S5, now ++ [1], by omega, by simp -implicitDefEqProofs only [go_sem, Nat.reduceEqDiff, Nat.reduceLT, Nat.reduceAdd, Nat.reduceMul, Int.reduceEq, Int.reduceLT, Int.reduceLE, Int.reduceNe, Int.reduceBEq, Int.reduceToNat, ↓reduceIte, f5], by simp -implicitDefEqProofs only [go_sem, Nat.reduceEqDiff, Nat.reduceLT, Nat.reduceAdd, Nat.reduceMul, Int.reduceEq, Int.reduceLT, Int.reduceLE, Int.reduceNe, Int.reduceBEq, Int.reduceToNat, ↓reduceIte, f7], by simp -implicitDefEqProofs only [go_sem, Nat.reduceEqDiff, Nat.reduceLT, Nat.reduceAdd, Nat.reduceMul, Int.reduceEq, Int.reduceLT, Int.reduceLE, Int.reduceNe, Int.reduceBEq, Int.reduceToNat, ↓reduceIte, f54], by simp -implicitDefEqProofs only [go_sem, Nat.reduceEqDiff, Nat.reduceLT, Nat.reduceAdd, Nat.reduceMul, Int.reduceEq, Int.reduceLT, Int.reduceLE, Int.reduceNe, Int.reduceBEq, Int.reduceToNat, ↓reduceIte, f55], by simp -implicitDefEqProofs only [go_sem, Nat.reduceEqDiff, Nat.reduceLT, Nat.reduceAdd, Nat.reduceMul, Int.reduceEq, Int.reduceLT, Int.reduceLE, Int.reduceNe, Int.reduceBEq, Int.reduceToNat, ↓reduceIte], hhf4.step hlog5 hf5 (fun a h => h.push 1), log_row hhf4.2.1 hf5 hrw4 (by decide) (by decide), ?_, by rw [List.length_append]; simp; omega, by omega⟩
          intro j z hz hj
          obtain ⟨w, q1, q2⟩ := hwas4 j z hz hj
          exact ⟨w, q1, log_row hhf4.2.1 hf5 q2 (by decide) (by decide)⟩
        · have d7 : decide (((d % 4 : Nat) : Int) = 0) = false := by rw [dec_zero]; simp [c7]
          by_cases c8 : d % 4 = 1
          · have d8 : decide (((d % 4 : Nat) : Int) = 1) = true := by rw [dec_one]; simp [c8]
            simp -implicitDefEqProofs only [go_sem, Nat.reduceEqDiff, Nat.reduceLT, Nat.reduceAdd, Nat.reduceMul, Int.reduceEq, Int.reduceLT, Int.reduceLE, Int.reduceNe, Int.reduceBEq, Int.reduceToNat, ↓reduceIte, f5, f7, f54, f55, f56, d6, dm, d7, d8, l13, lp]
            refine vdraw_t [⟨0, .p, [], []⟩, ⟨1, .p, [], []⟩, ⟨2, .p, [], []⟩, ⟨3, .n, [], []⟩, ⟨4, .p, [], []⟩, ⟨5, .n, [], []⟩, ⟨6, .p, [], []⟩, ⟨7, .c, [], []⟩] [0, 1, 3, 7, 0, 16, 48, 127] mixed (by kernel_rfl) ?_
            simp -implicitDefEqProofs only [go_sem, Nat.reduceEqDiff, Nat.reduceLT, Nat.reduceAdd, Nat.reduceMul, Int.reduceEq, Int.reduceLT, Int.reduceLE, Int.reduceNe, Int.reduceBEq, Int.reduceToNat, ↓reduceIte, f5, f7, f54, f55, f56, xm, l13, lp]
            refine (abort_log hhf4.2.1 (by omega) (x := ((x' % 60 : Nat) : Int)) (by omega)).mono ?_
            rintro r H5 ⟨rfl, hlog5, hf5⟩
            simp -implicitDefEqProofs only [go_sem, Nat.reduceEqDiff, Nat.reduceLT, Nat.reduceAdd, Nat.reduceMul, Int.reduceEq, Int.reduceLT, Int.reduceLE, Int.reduceNe, Int.reduceBEq, Int.reduceToNat, ↓reduceIte, f5, f7, f54, f55, f56, d2]
            refine ⟨m - 1, by omega, k + 1, S2, _, by omega, by simp -implicitDefEqProofs only [go_sem, Nat.reduceEqDiff, Nat.reduceLT, Nat.reduceAdd, Nat.reduceMul, Int.reduceEq, Int.reduceLT, Int.reduceLE, Int.reduceNe, Int.reduceBEq, Int.reduceToNat, ↓reduceIte, f5], by simp -implicitDefEqProofs only [go_sem, Nat.reduceEqDiff, Nat.reduceLT, Nat.reduceAdd, Nat.reduceMul, Int.reduceEq, Int.reduceLT, Int.reduceLE, Int.reduceNe, Int.reduceBEq, Int.reduceToNat, ↓reduceIte, f7], by simp -implicitDefEqProofs only [go_sem, Nat.reduceEqDiff, Nat.reduceLT, Nat.reduceAdd, Nat.reduceMul, Int.reduceEq, Int.reduceLT, Int.reduceLE, Int.reduceNe, Int.reduceBEq, Int.reduceToNat, ↓reduceIte, f54], by simp -implicitDefEqProofs only [go_sem, Nat.reduceEqDiff, Nat.reduceLT, Nat.reduceAdd, Nat.reduceMul, Int.reduceEq, Int.reduceLT, Int.reduceLE, Int.reduceNe, Int.reduceBEq, Int.reduceToNat, ↓reduceIte, f55], by simp -implicitDefEqProofs only [go_sem, Nat.reduceEqDiff, Nat.reduceLT, Nat.reduceAdd, Nat.reduceMul, Int.reduceEq, Int.reduceLT, Int.reduceLE, Int.reduceNe, Int.reduceBEq, Int.reduceToNat, ↓reduceIte], hhf4.step hlog5 hf5 (fun a h => h.fin _ 3), log_row hhf4.2.1 hf5 hrw4 (by decide) (by decide), ?_, by rw [endSts_len]; omega, by omega⟩
            intro j z hz hj
            obtain ⟨w, q1, q2⟩ := hwas4 j z hz hj
            exact ⟨w, q1, log_row hhf4.2.1 hf5 q2 (by decide) (by decide)⟩
          · have d8 : decide (((d % 4 : Nat) : Int) = 1) = false := by rw [dec_one]; simp [c8]
            simp -implicitDefEqProofs only [go_sem, Nat.reduceEqDiff, Nat.reduceLT, Nat.reduceAdd, Nat.reduceMul, Int.reduceEq, Int.reduceLT, Int.reduceLE, Int.reduceNe, Int.reduceBEq, Int.reduceToNat, ↓reduceIte, f5, f7, f54, f55, f56, d6, dm, d7, d8, l13, lp]
            refine vdraw_t [⟨0, .p, [], []⟩, ⟨1, .p, [], []⟩, ⟨2, .p, [], []⟩, ⟨3, .n, [], []⟩, ⟨4, .p, [], []⟩, ⟨5, .n, [], []⟩, ⟨6, .p, [], []⟩, ⟨7, .c, [], []⟩] [0, 1, 3, 7, 0, 16, 48, 127] mixed (by kernel_rfl) ?_
            simp -implicitDefEqProofs only [go_sem, Nat.reduceEqDiff, Nat.reduceLT, Nat.reduceAdd, Nat.reduceMul, Int.reduceEq, Int.reduceLT, Int.reduceLE, Int.reduceNe, Int.reduceBEq, Int.reduceToNat, ↓reduceIte, f5, f7, f54, f55, f56, xm, l13, lp]
            refine (commit_log hhf4.2.1 (by omega) (x := ((x' % 60 : Nat) : Int)) (by omega)).mono ?_
            rintro r H5 ⟨rfl, hlog5, hf5⟩
            simp -implicitDefEqProofs only [go_sem, Nat.reduceEqDiff, Nat.reduceLT, Nat.reduceAdd, Nat.reduceMul, Int.reduceEq, Int.reduceLT, Int.reduceLE, Int.reduceNe, Int.reduceBEq, Int.reduceToNat, ↓reduceIte, f5, f7, f54, f55, f56, d2]
            refine ⟨m - 1, by omega, k + 1, S2, _, by omega, by simp -implicitDefEqProofs only [go_sem, Nat.reduceEqDiff, Nat.reduceLT, Nat.reduceAdd, Nat.reduceMul, Int.reduceEq, Int.reduceLT, Int.reduceLE, Int.reduceNe, Int.reduceBEq, Int.reduceToNat, ↓reduceIte, f5], by simp -implicitDefEqProofs only [go_sem, Nat.reduceEqDiff, Nat.reduceLT, Nat.reduceAdd, Nat.reduceMul, Int.reduceEq, Int.reduceLT, Int.reduceLE, Int.reduceNe, Int.reduceBEq, Int.reduceToNat, ↓reduceIte, f7], by simp -implicitDefEqProofs only [go_sem, Nat.reduceEqDiff, Nat.reduceLT, Nat.reduceAdd, Nat.reduceMul, Int.reduceEq, Int.reduceLT, Int.reduceLE, Int.reduceNe, Int.reduceBEq, Int.reduceToNat, ↓reduceIte, f54], by simp -implicitDefEqProofs only [go_sem, Nat.reduceEqDiff, Nat.reduceLT, Nat.reduceAdd, Nat.reduceMul, Int.reduceEq, Int.reduceLT, Int.reduceLE, Int.reduceNe, Int.reduceBEq, Int.reduceToNat, ↓reduceIte, f55], by simp -implicitDefEqProofs only [go_sem, Nat.reduceEqDiff, Nat.reduceLT, Nat.reduceAdd, Nat.reduceMul, Int.reduceEq, Int.reduceLT, Int.reduceLE, Int.reduceNe, Int.reduceBEq, Int.reduceToNat, ↓reduceIte], hhf4.step hlog5 hf5 (fun a h => h.fin _ 2), log_row hhf4.2.1 hf5 hrw4 (by decide) (by decide), ?_, by rw [endSts_len]; omega, by omega⟩
            intro j z hz hj
            obtain ⟨w, q1, q2⟩ := hwas4 j z hz hj
            exact ⟨w, q1, log_row hhf4.2.1 hf5 q2 (by decide) (by decide)⟩
      · have d6 : decide ((30 : Int) ≤ (k : Int)) = true := by simp; omega
        have lp := ld_own w0 hhf4.1
        simp -implicitDefEqProofs only [go_sem, Nat.reduceEqDiff, Nat.reduceLT, Nat.reduceAdd, Nat.reduceMul, Int.reduceEq, Int.reduceLT, Int.reduceLE, Int.reduceNe, Int.reduceBEq, Int.reduceToNat, ↓reduceIte, f5, f7, f54, f55, f56, d6, lp, hss]
        rw [← hss]
        have hhfR := hhf4
        have hrwR := hrw4
        have hwasR := hwas4
        refine AC.loop (StaysL w0 _ p zs wv ss) (n := zs.length) ⟨0, by omega, by simp -implicitDefEqProofs only [go_sem, Nat.reduceEqDiff, Nat.reduceLT, Nat.reduceAdd, Nat.reduceMul, Int.reduceEq, Int.reduceLT, Int.reduceLE, Int.reduceNe, Int.reduceBEq, Int.reduceToNat, ↓reduceIte, f5], by simp -implicitDefEqProofs only [go_sem, Nat.reduceEqDiff, Nat.reduceLT, Nat.reduceAdd, Nat.reduceMul, Int.reduceEq, Int.reduceLT, Int.reduceLE, Int.reduceNe, Int.reduceBEq, Int.reduceToNat, ↓reduceIte, f7], by simp -implicitDefEqProofs only [go_sem, Nat.reduceEqDiff, Nat.reduceLT, Nat.reduceAdd, Nat.reduceMul, Int.reduceEq, Int.reduceLT, Int.reduceLE, Int.reduceNe, Int.reduceBEq, Int.reduceToNat, ↓reduceIte, hss], by simp -implicitDefEqProofs only [go_sem, Nat.reduceEqDiff, Nat.reduceLT, Nat.reduceAdd, Nat.reduceMul, Int.reduceEq, Int.reduceLT, Int.reduceLE, Int.reduceNe, Int.reduceBEq, Int.reduceToNat, ↓reduceIte, hss], by simp -implicitDefEqProofs only [go_sem, Nat.reduceEqDiff, Nat.reduceLT, Nat.reduceAdd, Nat.reduceMul, Int.reduceEq, Int.reduceLT, Int.reduceLE, Int.reduceNe, Int.reduceBEq, Int.reduceToNat, ↓reduceIte], Sub.refl _⟩ ?_
        clear f5 f7 f54 f55 f56
        rintro m F HA ⟨i, hi, f5, f7, f95, f96, f97, sA⟩
        by_cases c1 : i < zs.length
        · have d1 : decide ((i : Int) < (zs.length : Int)) = true := by simp; omega
          have d0 : decide ((0 : Int) ≤ (i : Int)) = true := by simp
          have d2 : IntKind.i64.wrap ((i : Int) + 1) = (i + 1 : Nat) := by rw [i64_in] <;> omega
          have hz : zs[i]? = some zs[i] := by simp [c1]
          generalize zs[i] = z at hz
          have hzm := List.mem_of_getElem? hz
          have hhfA := hhfR.sub sA
          obtain ⟨g1, cap1, hv1, hl1⟩ := hhfA.2.2.1.at w0 rfl (fun z _ => z.cs_len) hz
          have hl1' : ldCells w0 HA ⟨g1, i * 4, none⟩ 0 4 = some [.int .u64 (z.own : Int), .int .u64 (z.xmin : Int), .int .u64 (z.xmax : Int), z.v] := hl1
          rw [hv1] at f95
          have hc1 := hhfA.2.2.2.cell hzm
          have hzl := hhfA.2.2.2.run hzm
          simp -implicitDefEqProofs only [go_sem, Nat.reduceEqDiff, Nat.reduceLT, Nat.reduceAdd, Nat.reduceMul, Int.reduceEq, Int.reduceLT, Int.reduceLE, Int.reduceNe, Int.reduceBEq, Int.reduceToNat, ↓reduceIte, f5, f7, f95, f96, f97, d1, d0, hl1', ldK_agg]
          refine newK_of ?_
          intro b15 HB hb15 hn15 h15 s15 g15
          simp -implicitDefEqProofs only [go_sem, Nat.reduceEqDiff, Nat.reduceLT, Nat.reduceAdd, Nat.reduceMul, Int.reduceEq, Int.reduceLT, Int.reduceLE, Int.reduceNe, Int.reduceBEq, Int.reduceToNat, ↓reduceIte, f5, f7, f95, f96, f97]
          refine store_all h15 rfl (by simp [cell1_int, hc1]) rfl ?_
          intro HC h15 g15'
          have sC : Sub HA HC := Sub.ne2 hn15 g15 g15'
          clear g15 g15' s15
          simp -implicitDefEqProofs only [go_sem, Nat.reduceEqDiff, Nat.reduceLT, Nat.reduceAdd, Nat.reduceMul, Int.reduceEq, Int.reduceLT, Int.reduceLE, Int.reduceNe, Int.reduceBEq, Int.reduceToNat, ↓reduceIte, f5, f7, f95, f96, f97]
          refine AC.loop (StaysM w0 HC p i b15 zs.length wv ss) (n := 60) ⟨0, by omega, by simp -implicitDefEqProofs only [go_sem, Nat.reduceEqDiff, Nat.reduceLT, Nat.reduceAdd, Nat.reduceMul, Int.reduceEq, Int.reduceLT, Int.reduceLE, Int.reduceNe, Int.reduceBEq, Int.reduceToNat, ↓reduceIte, f5], by simp -implicitDefEqProofs only [go_sem, Nat.reduceEqDiff, Nat.reduceLT, Nat.reduceAdd, Nat.reduceMul, Int.reduceEq, Int.reduceLT, Int.reduceLE, Int.reduceNe, Int.reduceBEq, Int.reduceToNat, ↓reduceIte, f7], by simp -implicitDefEqProofs only [go_sem, Nat.reduceEqDiff, Nat.reduceLT, Nat.reduceAdd, Nat.reduceMul, Int.reduceEq, Int.reduceLT, Int.reduceLE, Int.reduceNe, Int.reduceBEq, Int.reduceToNat, ↓reduceIte], by simp -implicitDefEqProofs only [go_sem, Nat.reduceEqDiff, Nat.reduceLT, Nat.reduceAdd, Nat.reduceMul, Int.reduceEq, Int.reduceLT, Int.reduceLE, Int.reduceNe, Int.reduceBEq, Int.reduceToNat, ↓reduceIte], by simp -implicitDefEqProofs only [go_sem, Nat.reduceEqDiff, Nat.reduceLT, Nat.reduceAdd, Nat.reduceMul, Int.reduceEq, Int.reduceLT, Int.reduceLE, Int.reduceNe, Int.reduceBEq, Int.reduceToNat, ↓reduceIte, f95, hv1], by simp -implicitDefEqProofs only [go_sem, Nat.reduceEqDiff, Nat.reduceLT, Nat.reduceAdd, Nat.reduceMul, Int.reduceEq, Int.reduceLT, Int.reduceLE, Int.reduceNe, Int.reduceBEq, Int.reduceToNat, ↓reduceIte, f96], by simp -implicitDefEqProofs only [go_sem, Nat.reduceEqDiff, Nat.reduceLT, Nat.reduceAdd, Nat.reduceMul, Int.reduceEq, Int.reduceLT, Int.reduceLE, Int.reduceNe, Int.reduceBEq, Int.reduceToNat, ↓reduceIte, f97], by simp -implicitDefEqProofs only [go_sem, Nat.reduceEqDiff, Nat.reduceLT, Nat.reduceAdd, Nat.reduceMul, Int.reduceEq, Int.reduceLT, Int.reduceLE, Int.reduceNe, Int.reduceBEq, Int.reduceToNat, ↓reduceIte], rfl⟩ ?_
          clear f5 f7 f95 f96 f97
          have hhfC := hhfA.sub sC
          have hrwC := (hrwR.keep (H' := HA) fun b o _ hb => sA b o hb).keep (H' := HC) fun b o _ hb => sC b o hb
          obtain ⟨w, hw, hrow⟩ := hwasR i z hz (by rw [hwl]; omega)
          have hrowC := (hrow.keep (H' := HA) fun b o _ hb => sA b o hb).keep (H' := HC) fun b o _ hb => sC b o hb
          rintro m2 F HD ⟨y, hy, f5, f7, f14, f15, f95, f96, f97, f102, rfl⟩
          by_cases cy : y < 60
          · have e1 : decide ((y : Int) < 60) = true := by simp; omega
            have e2 : IntKind.u64.wrap ((y : Int) + 1) = (y + 1 : Nat) := by rw [u64_in] <;> omega
            have e3 : decide ((0 : Int) ≤ (y : Int)) = true := by simp
            have lp := ld_own w0 hhfC.1
            have l15 := ldc w0 h15 4
            have l15' := ld_own w0 h15
            obtain ⟨gw, capw, curw, hwv, hgw, hcw1, hcw2, hcw3, hcw4⟩ := hrwC.open1 (by omega)
            have lgw := ld_own w0 hgw
            have lw : curw[i]? = some w := by rw [hcw3 i c1]; exact hw
            obtain ⟨gb, capb, curb, hwb, hgb, hcb1, hcb2, hcb3, hcb4⟩ := hrowC.open1 (by omega)
            have lgb := ld_own w0 hgb
            have lb : curb[y]? = some (.bool (seesB 1 sts z.own z.xmax z.run y)) := by
              rw [hcb3 y cy]; simp [bools, seenK_at sts z cy]
            simp -implicitDefEqProofs only [go_sem, Nat.reduceEqDiff, Nat.reduceLT, Nat.reduceAdd, Nat.reduceMul, Int.reduceEq, Int.reduceLT, Int.reduceLE, Int.reduceNe, Int.reduceBEq, Int.reduceToNat, ↓reduceIte, f5, f7, f14, f15, f95, f96, f97, f102, e1, lp, l15, l15']
            refine vdraw_t [⟨0, .p, [], []⟩, ⟨1, .p, [], []⟩, ⟨2, .n, [], []⟩, ⟨3, .p, [], []⟩, ⟨4, .p, [], []⟩, ⟨5, .p, [], []⟩, ⟨6, .p, [], []⟩, ⟨7, .p, [], []⟩, ⟨8, .n, [], []⟩, ⟨9, .n, [], []⟩, ⟨10, .p, [], []⟩, ⟨12, .p, [], []⟩, ⟨13, .p, [], []⟩, ⟨14, .p, [], []⟩, ⟨15, .n, [], []⟩, ⟨16, .p, [], []⟩, ⟨17, .p, [], []⟩, ⟨18, .n, [], []⟩, ⟨11, .c, [15, 18], []⟩, ⟨19, .p, [], []⟩, ⟨20, .p, [], []⟩] [0, 0, 2, 7, 15, 31, 63, 127, 255, 31, 31, 2047, 31, 31, 12319, 28703, 31, 127007, 258079, 524287, 1048575] mixed (by kernel_rfl) ?_
            by_cases co : y = z.own
            · have e4 : decide ((y : Int) = (z.own : Int)) = true := by rw [dec_nat]; simp [co]
              simp -implicitDefEqProofs only [go_sem, Nat.reduceEqDiff, Nat.reduceLT, Nat.reduceAdd, Nat.reduceMul, Int.reduceEq, Int.reduceLT, Int.reduceLE, Int.reduceNe, Int.reduceBEq, Int.reduceToNat, ↓reduceIte, f5, f7, f14, f15, f95, f96, f97, f102, e1, e2, e4, lp, l15, l15', ldK_agg, hwv, lgw, lw, hwb, lgb, lb, e3, d0, d1]
              exact ⟨m2 - 1, by omega, y + 1, by omega, by simp -implicitDefEqProofs only [go_sem, Nat.reduceEqDiff, Nat.reduceLT, Nat.reduceAdd, Nat.reduceMul, Int.reduceEq, Int.reduceLT, Int.reduceLE, Int.reduceNe, Int.reduceBEq, Int.reduceToNat, ↓reduceIte, f5], by simp -implicitDefEqProofs only [go_sem, Nat.reduceEqDiff, Nat.reduceLT, Nat.reduceAdd, Nat.reduceMul, Int.reduceEq, Int.reduceLT, Int.reduceLE, Int.reduceNe, Int.reduceBEq, Int.reduceToNat, ↓reduceIte, f7, hwv], by simp -implicitDefEqProofs only [go_sem, Nat.reduceEqDiff, Nat.reduceLT, Nat.reduceAdd, Nat.reduceMul, Int.reduceEq, Int.reduceLT, Int.reduceLE, Int.reduceNe, Int.reduceBEq, Int.reduceToNat, ↓reduceIte, f14], by simp -implicitDefEqProofs only [go_sem, Nat.reduceEqDiff, Nat.reduceLT, Nat.reduceAdd, Nat.reduceMul, Int.reduceEq, Int.reduceLT, Int.reduceLE, Int.reduceNe, Int.reduceBEq, Int.reduceToNat, ↓reduceIte, f15], by simp -implicitDefEqProofs only [go_sem, Nat.reduceEqDiff, Nat.reduceLT, Nat.reduceAdd, Nat.reduceMul, Int.reduceEq, Int.reduceLT, Int.reduceLE, Int.reduceNe, Int.reduceBEq, Int.reduceToNat, ↓reduceIte, f95], by simp -implicitDefEqProofs only [go_sem, Nat.reduceEqDiff, Nat.reduceLT, Nat.reduceAdd, Nat.reduceMul, Int.reduceEq, Int.reduceLT, Int.reduceLE, Int.reduceNe, Int.reduceBEq, Int.reduceToNat, ↓reduceIte, f96], by simp -implicitDefEqProofs only [go_sem, Nat.reduceEqDiff, Nat.reduceLT, Nat.reduceAdd, Nat.reduceMul, Int.reduceEq, Int.reduceLT, Int.reduceLE, Int.reduceNe, Int.reduceBEq, Int.reduceToNat, ↓reduceIte, f97], by simp -implicitDefEqProofs only [go_sem, Nat.reduceEqDiff, Nat.reduceLT, Nat.reduceAdd, Nat.reduceMul, Int.reduceEq, Int.reduceLT, Int.reduceLE, Int.reduceNe, Int.reduceBEq, Int.reduceToNat, ↓reduceIte], rfl⟩
            · have e4 : decide ((y : Int) = (z.own : Int)) = false := by rw [dec_nat]; simp [co]
              simp -implicitDefEqProofs only [go_sem, Nat.reduceEqDiff, Nat.reduceLT, Nat.reduceAdd, Nat.reduceMul, Int.reduceEq, Int.reduceLT, Int.reduceLE, Int.reduceNe, Int.reduceBEq, Int.reduceToNat, ↓reduceIte, f5, f7, f14, f15, f95, f96, f97, f102, e1, e2, e4, lp, l15, l15', ldK_agg, hwv, lgw, lw, hwb, lgb, lb, e3, d0, d1]
              obtain ⟨hrz, hlz, _⟩ := hhfC.2.2.2 z hzm
              refine (sees_log hhfC.2.1 (by omega) hrz hzl y).mono ?_
              rintro r HE ⟨rfl, rfl⟩
              rw [sees_old hlz co]
              have hq := sees_old (hlat z hzm) co
              simp -implicitDefEqProofs only [go_sem, Nat.reduceEqDiff, Nat.reduceLT, Nat.reduceAdd, Nat.reduceMul, Int.reduceEq, Int.reduceLT, Int.reduceLE, Int.reduceNe, Int.reduceBEq, Int.reduceToNat, ↓reduceIte, f5, f7, f14, f15, f95, f96, f97, f102, e1, e2, e4, lp, l15, l15', ldK_agg, hwv, lgw, lw, hwb, lgb, lb, e3, d0, d1, dec_ne_self, hq]
              exact ⟨m2 - 1, by omega, y + 1, by omega, by simp -implicitDefEqProofs only [go_sem, Nat.reduceEqDiff, Nat.reduceLT, Nat.reduceAdd, Nat.reduceMul, Int.reduceEq, Int.reduceLT, Int.reduceLE, Int.reduceNe, Int.reduceBEq, Int.reduceToNat, ↓reduceIte, f5], by simp -implicitDefEqProofs only [go_sem, Nat.reduceEqDiff, Nat.reduceLT, Nat.reduceAdd, Nat.reduceMul, Int.reduceEq, Int.reduceLT, Int.reduceLE, Int.reduceNe, Int.reduceBEq, Int.reduceToNat, ↓reduceIte, f7, hwv], by simp -implicitDefEqProofs only [go_sem, Nat.reduceEqDiff, Nat.reduceLT, Nat.reduceAdd, Nat.reduceMul, Int.reduceEq, Int.reduceLT, Int.reduceLE, Int.reduceNe, Int.reduceBEq, Int.reduceToNat, ↓reduceIte, f14], by simp -implicitDefEqProofs only [go_sem, Nat.reduceEqDiff, Nat.reduceLT, Nat.reduceAdd, Nat.reduceMul, Int.reduceEq, Int.reduceLT, Int.reduceLE, Int.reduceNe, Int.reduceBEq, Int.reduceToNat, ↓reduceIte, f15], by simp -implicitDefEqProofs only [go_sem, Nat.reduceEqDiff, Nat.reduceLT, Nat.reduceAdd, Nat.reduceMul, Int.reduceEq, Int.reduceLT, Int.reduceLE, Int.reduceNe, Int.reduceBEq, Int.reduceToNat, ↓reduceIte, f95], by simp -implicitDefEqProofs only [go_sem, Nat.reduceEqDiff, Nat.reduceLT, Nat.reduceAdd, Nat.reduceMul, Int.reduceEq, Int.reduceLT, Int.reduceLE, Int.reduceNe, Int.reduceBEq, Int.reduceToNat, ↓reduceIte, f96], by simp -implicitDefEqProofs only [go_sem, Nat.reduceEqDiff, Nat.reduceLT, Nat.reduceAdd, Nat.reduceMul, Int.reduceEq, Int.reduceLT, Int.reduceLE, Int.reduceNe, Int.reduceBEq, Int.reduceToNat, ↓reduceIte, f97], by simp -implicitDefEqProofs only [go_sem, Nat.reduceEqDiff, Nat.reduceLT, Nat.reduceAdd, Nat.reduceMul, Int.reduceEq, Int.reduceLT, Int.reduceLE, Int.reduceNe, Int.reduceBEq, Int.reduceToNat, ↓reduceIte], rfl⟩
          · have e1 : decide ((y : Int) < 60) = false := by simp; omega
            simp -implicitDefEqProofs only [go_sem, Nat.reduceEqDiff, Nat.reduceLT, Nat.reduceAdd, Nat.reduceMul, Int.reduceEq, Int.reduceLT, Int.reduceLE, Int.reduceNe, Int.reduceBEq, Int.reduceToNat, ↓reduceIte, f5, f7, f14, f15, f95, f96, f97, f102, e1, d2]
            exact ⟨m - 1, by omega, i + 1, by omega, by simp -implicitDefEqProofs only [go_sem, Nat.reduceEqDiff, Nat.reduceLT, Nat.reduceAdd, Nat.reduceMul, Int.reduceEq, Int.reduceLT, Int.reduceLE, Int.reduceNe, Int.reduceBEq, Int.reduceToNat, ↓reduceIte, f5], by simp -implicitDefEqProofs only [go_sem, Nat.reduceEqDiff, Nat.reduceLT, Nat.reduceAdd, Nat.reduceMul, Int.reduceEq, Int.reduceLT, Int.reduceLE, Int.reduceNe, Int.reduceBEq, Int.reduceToNat, ↓reduceIte, f7], by simp -implicitDefEqProofs only [go_sem, Nat.reduceEqDiff, Nat.reduceLT, Nat.reduceAdd, Nat.reduceMul, Int.reduceEq, Int.reduceLT, Int.reduceLE, Int.reduceNe, Int.reduceBEq, Int.reduceToNat, ↓reduceIte, f95], by simp -implicitDefEqProofs only [go_sem, Nat.reduceEqDiff, Nat.reduceLT, Nat.reduceAdd, Nat.reduceMul, Int.reduceEq, Int.reduceLT, Int.reduceLE, Int.reduceNe, Int.reduceBEq, Int.reduceToNat, ↓reduceIte, f96], by simp -implicitDefEqProofs only [go_sem, Nat.reduceEqDiff, Nat.reduceLT, Nat.reduceAdd, Nat.reduceMul, Int.reduceEq, Int.reduceLT, Int.reduceLE, Int.reduceNe, Int.reduceBEq, Int.reduceToNat, ↓reduceIte], sA.trans sC⟩
        · have d1 : decide ((i : Int) < (zs.length : Int)) = false := by simp; omega
          simp -implicitDefEqProofs only [go_sem, Nat.reduceEqDiff, Nat.reduceLT, Nat.reduceAdd, Nat.reduceMul, Int.reduceEq, Int.reduceLT, Int.reduceLE, Int.reduceNe, Int.reduceBEq, Int.reduceToNat, ↓reduceIte, f5, f7, f95, f96, f97, d1]
    · have d1 : decide ((k : Int) < (n : Int)) = false := by simp; omega
      have lp := ld_own w0 hhf.1
      simp -implicitDefEqProofs only [go_sem, Nat.reduceEqDiff, Nat.reduceLT, Nat.reduceAdd, Nat.reduceMul, Int.reduceEq, Int.reduceLT, Int.reduceLE, Int.reduceNe, Int.reduceBEq, Int.reduceToNat, ↓reduceIte, f5, f7, f54, f55, f56, d1, lp, hss]
      rw [← hss]
      have hhfR := hhf
      have hrwR := hrw
      have hwasR := hwas
      refine AC.loop (StaysL w0 _ p zs wv ss) (n := zs.length) ⟨0, by omega, by simp -implicitDefEqProofs only [go_sem, Nat.reduceEqDiff, Nat.reduceLT, Nat.reduceAdd, Nat.reduceMul, Int.reduceEq, Int.reduceLT, Int.reduceLE, Int.reduceNe, Int.reduceBEq, Int.reduceToNat, ↓reduceIte, f5], by simp -implicitDefEqProofs only [go_sem, Nat.reduceEqDiff, Nat.reduceLT, Nat.reduceAdd, Nat.reduceMul, Int.reduceEq, Int.reduceLT, Int.reduceLE, Int.reduceNe, Int.reduceBEq, Int.reduceToNat, ↓reduceIte, f7], by simp -implicitDefEqProofs only [go_sem, Nat.reduceEqDiff, Nat.reduceLT, Nat.reduceAdd, Nat.reduceMul, Int.reduceEq, Int.reduceLT, Int.reduceLE, Int.reduceNe, Int.reduceBEq, Int.reduceToNat, ↓reduceIte, hss], by simp -implicitDefEqProofs only [go_sem, Nat.reduceEqDiff, Nat.reduceLT, Nat.reduceAdd, Nat.reduceMul, Int.reduceEq, Int.reduceLT, Int.reduceLE, Int.reduceNe, Int.reduceBEq, Int.reduceToNat, ↓reduceIte, hss], by simp -implicitDefEqProofs only [go_sem, Nat.reduceEqDiff, Nat.reduceLT, Nat.reduceAdd, Nat.reduceMul, Int.reduceEq, Int.reduceLT, Int.reduceLE, Int.reduceNe, Int.reduceBEq, Int.reduceToNat, ↓reduceIte], Sub.refl _⟩ ?_
      clear f5 f7 f54 f55 f56
      rintro m F HA ⟨i, hi, f5, f7, f95, f96, f97, sA⟩
      by_cases c1 : i < zs.length
      · have d1 : decide ((i : Int) < (zs.length : Int)) = true := by simp; omega
        have d0 : decide ((0 : Int) ≤ (i : Int)) = true := by simp
        have d2 : IntKind.i64.wrap ((i : Int) + 1) = (i + 1 : Nat) := by rw [i64_in] <;> omega
        have hz : zs[i]? = some zs[i] := by simp [c1]
        generalize zs[i] = z at hz
        have hzm := List.mem_of_getElem? hz
        have hhfA := hhfR.sub sA
        obtain ⟨g1, cap1, hv1, hl1⟩ := hhfA.2.2.1.at w0 rfl (fun z _ => z.cs_len) hz
        have hl1' : ldCells w0 HA ⟨g1, i * 4, none⟩ 0 4 = some [.int .u64 (z.own : Int), .int .u64 (z.xmin : Int), .int .u64 (z.xmax : Int), z.v] := hl1
        rw [hv1] at f95
        have hc1 := hhfA.2.2.2.cell hzm
        have hzl := hhfA.2.2.2.run hzm
        simp -implicitDefEqProofs only [go_sem, Nat.reduceEqDiff, Nat.reduceLT, Nat.reduceAdd, Nat.reduceMul, Int.reduceEq, Int.reduceLT, Int.reduceLE, Int.reduceNe, Int.reduceBEq, Int.reduceToNat, ↓reduceIte, f5, f7, f95, f96, f97, d1, d0, hl1', ldK_agg]
        refine newK_of ?_
        intro b15 HB hb15 hn15 h15 s15 g15
        simp -implicitDefEqProofs only [go_sem, Nat.reduceEqDiff, Nat.reduceLT, Nat.reduceAdd, Nat.reduceMul, Int.reduceEq, Int.reduceLT, Int.reduceLE, Int.reduceNe, Int.reduceBEq, Int.reduceToNat, ↓reduceIte, f5, f7, f95, f96, f97]
        refine store_all h15 rfl (by simp [cell1_int, hc1]) rfl ?_
        intro HC h15 g15'
        have sC : Sub HA HC := Sub.ne2 hn15 g15 g15'
        clear g15 g15' s15
        simp -implicitDefEqProofs only [go_sem, Nat.reduceEqDiff, Nat.reduceLT, Nat.reduceAdd, Nat.reduceMul, Int.reduceEq, Int.reduceLT, Int.reduceLE, Int.reduceNe, Int.reduceBEq, Int.reduceToNat, ↓reduceIte, f5, f7, f95, f96, f97]
        refine AC.loop (StaysM w0 HC p i b15 zs.length wv ss) (n := 60) ⟨0, by omega, by simp -implicitDefEqProofs only [go_sem, Nat.reduceEqDiff, Nat.reduceLT, Nat.reduceAdd, Nat.reduceMul, Int.reduceEq, Int.reduceLT, Int.reduceLE, Int.reduceNe, Int.reduceBEq, Int.reduceToNat, ↓reduceIte, f5], by simp -implicitDefEqProofs only [go_sem, Nat.reduceEqDiff, Nat.reduceLT, Nat.reduceAdd, Nat.reduceMul, Int.reduceEq, Int.reduceLT, Int.reduceLE, Int.reduceNe, Int.reduceBEq, Int.reduceToNat, ↓reduceIte, f7], by simp -implicitDefEqProofs only [go_sem, Nat.reduceEqDiff, Nat.reduceLT, Nat.reduceAdd, Nat.reduceMul, Int.reduceEq, Int.reduceLT, Int.reduceLE, Int.reduceNe, Int.reduceBEq, Int.reduceToNat, ↓reduceIte], by simp -implicitDefEqProofs only [go_sem, Nat.reduceEqDiff, Nat.reduceLT, Nat.reduceAdd, Nat.reduceMul, Int.reduceEq, Int.reduceLT, Int.reduceLE, Int.reduceNe, Int.reduceBEq, Int.reduceToNat, ↓reduceIte], by simp -implicitDefEqProofs only [go_sem, Nat.reduceEqDiff, Nat.reduceLT, Nat.reduceAdd, Nat.reduceMul, Int.reduceEq, Int.reduceLT, Int.reduceLE, Int.reduceNe, Int.reduceBEq, Int.reduceToNat, ↓reduceIte, f95, hv1], by simp -implicitDefEqProofs only [go_sem, Nat.reduceEqDiff, Nat.reduceLT, Nat.reduceAdd, Nat.reduceMul, Int.reduceEq, Int.reduceLT, Int.reduceLE, Int.reduceNe, Int.reduceBEq, Int.reduceToNat, ↓reduceIte, f96], by simp -implicitDefEqProofs only [go_sem, Nat.reduceEqDiff, Nat.reduceLT, Nat.reduceAdd, Nat.reduceMul, Int.reduceEq, Int.reduceLT, Int.reduceLE, Int.reduceNe, Int.reduceBEq, Int.reduceToNat, ↓reduceIte, f97], by simp -implicitDefEqProofs only [go_sem, Nat.reduceEqDiff, Nat.reduceLT, Nat.reduceAdd, Nat.reduceMul, Int.reduceEq, Int.reduceLT, Int.reduceLE, Int.reduceNe, Int.reduceBEq, Int.reduceToNat, ↓reduceIte], rfl⟩ ?_
        clear f5 f7 f95 f96 f97
        have hhfC := hhfA.sub sC
        have hrwC := (hrwR.keep (H' := HA) fun b o _ hb => sA b o hb).keep (H' := HC) fun b o _ hb => sC b o hb
        obtain ⟨w, hw, hrow⟩ := hwasR i z hz (by rw [hwl]; omega)
        have hrowC := (hrow.keep (H' := HA) fun b o _ hb => sA b o hb).keep (H' := HC) fun b o _ hb => sC b o hb
        rintro m2 F HD ⟨y, hy, f5, f7, f14, f15, f95, f96, f97, f102, rfl⟩
        by_cases cy : y < 60
        · have e1 : decide ((y : Int) < 60) = true := by simp; omega
          have e2 : IntKind.u64.wrap ((y : Int) + 1) = (y + 1 : Nat) := by rw [u64_in] <;> omega
          have e3 : decide ((0 : Int) ≤ (y : Int)) = true := by simp
          have lp := ld_own w0 hhfC.1
          have l15 := ldc w0 h15 4
          have l15' := ld_own w0 h15
          obtain ⟨gw, capw, curw, hwv, hgw, hcw1, hcw2, hcw3, hcw4⟩ := hrwC.open1 (by omega)
          have lgw := ld_own w0 hgw
          have lw : curw[i]? = some w := by rw [hcw3 i c1]; exact hw
          obtain ⟨gb, capb, curb, hwb, hgb, hcb1, hcb2, hcb3, hcb4⟩ := hrowC.open1 (by omega)
          have lgb := ld_own w0 hgb
          have lb : curb[y]? = some (.bool (seesB 1 sts z.own z.xmax z.run y)) := by
            rw [hcb3 y cy]; simp [bools, seenK_at sts z cy]
          simp -implicitDefEqProofs only [go_sem, Nat.reduceEqDiff, Nat.reduceLT, Nat.reduceAdd, Nat.reduceMul, Int.reduceEq, Int.reduceLT, Int.reduceLE, Int.reduceNe, Int.reduceBEq, Int.reduceToNat, ↓reduceIte, f5, f7, f14, f15, f95, f96, f97, f102, e1, lp, l15, l15']
          refine vdraw_t [⟨0, .p, [], []⟩, ⟨1, .p, [], []⟩, ⟨2, .n, [], []⟩, ⟨3, .p, [], []⟩, ⟨4, .p, [], []⟩, ⟨5, .p, [], []⟩, ⟨6, .p, [], []⟩, ⟨7, .p, [], []⟩, ⟨8, .n, [], []⟩, ⟨9, .n, [], []⟩, ⟨10, .p, [], []⟩, ⟨12, .p, [], []⟩, ⟨13, .p, [], []⟩, ⟨14, .p, [], []⟩, ⟨15, .n, [], []⟩, ⟨16, .p, [], []⟩, ⟨17, .p, [], []⟩, ⟨18, .n, [], []⟩, ⟨11, .c, [15, 18], []⟩, ⟨19, .p, [], []⟩, ⟨20, .p, [], []⟩] [0, 0, 2, 7, 15, 31, 63, 127, 255, 31, 31, 2047, 31, 31, 12319, 28703, 31, 127007, 258079, 524287, 1048575] mixed (by kernel_rfl) ?_
          by_cases co : y = z.own
          · have e4 : decide ((y : Int) = (z.own : Int)) = true := by rw [dec_nat]; simp [co]
            simp -implicitDefEqProofs only [go_sem, Nat.reduceEqDiff, Nat.reduceLT, Nat.reduceAdd, Nat.reduceMul, Int.reduceEq, Int.reduceLT, Int.reduceLE, Int.reduceNe, Int.reduceBEq, Int.reduceToNat, ↓reduceIte, f5, f7, f14, f15, f95, f96, f97, f102, e1, e2, e4, lp, l15, l15', ldK_agg, hwv, lgw, lw, hwb, lgb, lb, e3, d0, d1]
            exact ⟨m2 - 1, by omega, y + 1, by omega, by simp -implicitDefEqProofs only [go_sem, Nat.reduceEqDiff, Nat.reduceLT, Nat.reduceAdd, Nat.reduceMul, Int.reduceEq, Int.reduceLT, Int.reduceLE, Int.reduceNe, Int.reduceBEq, Int.reduceToNat, ↓reduceIte, f5], by simp -implicitDefEqProofs only [go_sem, Nat.reduceEqDiff, Nat.reduceLT, Nat.reduceAdd, Nat.reduceMul, Int.reduceEq, Int.reduceLT, Int.reduceLE, Int.reduceNe, Int.reduceBEq, Int.reduceToNat, ↓reduceIte, f7, hwv], by simp -implicitDefEqProofs only [go_sem, Nat.reduceEqDiff, Nat.reduceLT, Nat.reduceAdd, Nat.reduceMul, Int.reduceEq, Int.reduceLT, Int.reduceLE, Int.reduceNe, Int.reduceBEq, Int.reduceToNat, ↓reduceIte, f14], by simp -implicitDefEqProofs only [go_sem, Nat.reduceEqDiff, Nat.reduceLT, Nat.reduceAdd, Nat.reduceMul, Int.reduceEq, Int.reduceLT, Int.reduceLE, Int.reduceNe, Int.reduceBEq, Int.reduceToNat, ↓reduceIte, f15], by simp -implicitDefEqProofs only [go_sem, Nat.reduceEqDiff, Nat.reduceLT, Nat.reduceAdd, Nat.reduceMul, Int.reduceEq, Int.reduceLT, Int.reduceLE, Int.reduceNe, Int.reduceBEq, Int.reduceToNat, ↓reduceIte, f95], by simp -implicitDefEqProofs only [go_sem, Nat.reduceEqDiff, Nat.reduceLT, Nat.reduceAdd, Nat.reduceMul, Int.reduceEq, Int.reduceLT, Int.reduceLE, Int.reduceNe, Int.reduceBEq, Int.reduceToNat, ↓reduceIte, f96], by simp -implicitDefEqProofs only [go_sem, Nat.reduceEqDiff, Nat.reduceLT, Nat.reduceAdd, Nat.reduceMul, Int.reduceEq, Int.reduceLT, Int.reduceLE, Int.reduceNe, Int.reduceBEq, Int.reduceToNat, ↓reduceIte, f97], by simp -implicitDefEqProofs only [go_sem, Nat.reduceEqDiff, Nat.reduceLT, Nat.reduceAdd, Nat.reduceMul, Int.reduceEq, Int.reduceLT, Int.reduceLE, Int.reduceNe, Int.reduceBEq, Int.reduceToNat, ↓reduceIte], rfl⟩
          · have e4 : decide ((y : Int) = (z.own : Int)) = false := by rw [dec_nat]; simp [co]
            simp -implicitDefEqProofs only [go_sem, Nat.reduceEqDiff, Nat.reduceLT, Nat.reduceAdd, Nat.reduceMul, Int.reduceEq, Int.reduceLT, Int.reduceLE, Int.reduceNe, Int.reduceBEq, Int.reduceToNat, ↓reduceIte, f5, f7, f14, f15, f95, f96, f97, f102, e1, e2, e4, lp, l15, l15', ldK_agg, hwv, lgw, lw, hwb, lgb, lb, e3, d0, d1]
            obtain ⟨hrz, hlz, _⟩ := hhfC.2.2.2 z hzm
            refine (sees_log hhfC.2.1 (by omega) hrz hzl y).mono ?_
            rintro r HE ⟨rfl, rfl⟩
            rw [sees_old hlz co]
            have hq := sees_old (hlat z hzm) co
            simp -implicitDefEqProofs only [go_sem, Nat.reduceEqDiff, Nat.reduceLT, Nat.reduceAdd, Nat.reduceMul, Int.reduceEq, Int.reduceLT, Int.reduceLE, Int.reduceNe, Int.reduceBEq, Int.reduceToNat, ↓reduceIte, f5, f7, f14, f15, f95, f96, f97, f102, e1, e2, e4, lp, l15, l15', ldK_agg, hwv, lgw, lw, hwb, lgb, lb, e3, d0, d1, dec_ne_self, hq]
            exact ⟨m2 - 1, by omega, y + 1, by omega, by simp -implicitDefEqProofs only [go_sem, Nat.reduceEqDiff, Nat.reduceLT, Nat.reduceAdd, Nat.reduceMul, Int.reduceEq, Int.reduceLT, Int.reduceLE, Int.reduceNe, Int.reduceBEq, Int.reduceToNat, ↓reduceIte, f5], by simp -implicitDefEqProofs only [go_sem, Nat.reduceEqDiff, Nat.reduceLT, Nat.reduceAdd, Nat.reduceMul, Int.reduceEq, Int.reduceLT, Int.reduceLE, Int.reduceNe, Int.reduceBEq, Int.reduceToNat, ↓reduceIte, f7, hwv], by simp -implicitDefEqProofs only [go_sem, Nat.reduceEqDiff, Nat.reduceLT, Nat.reduceAdd, Nat.reduceMul, Int.reduceEq, Int.reduceLT, Int.reduceLE, Int.reduceNe, Int.reduceBEq, Int.reduceToNat, ↓reduceIte, f14], by simp -implicitDefEqProofs only [go_sem, Nat.reduceEqDiff, Nat.reduceLT, Nat.reduceAdd, Nat.reduceMul, Int.reduceEq, Int.reduceLT, Int.reduceLE, Int.reduceNe, Int.reduceBEq, Int.reduceToNat, ↓reduceIte, f15], by simp -implicitDefEqProofs only [go_sem, Nat.reduceEqDiff, Nat.reduceLT, Nat.reduceAdd, Nat.reduceMul, Int.reduceEq, Int.reduceLT, Int.reduceLE, Int.reduceNe, Int.reduceBEq, Int.reduceToNat, ↓reduceIte, f95], by simp -implicitDefEqProofs only [go_sem, Nat.reduceEqDiff, Nat.reduceLT, Nat.reduceAdd, Nat.reduceMul, Int.reduceEq, Int.reduceLT, Int.reduceLE, Int.reduceNe, Int.reduceBEq, Int.reduceToNat, ↓reduceIte, f96], by simp -implicitDefEqProofs only [go_sem, Nat.reduceEqDiff, Nat.reduceLT, Nat.reduceAdd, Nat.reduceMul, Int.reduceEq, Int.reduceLT, Int.reduceLE, Int.reduceNe, Int.reduceBEq, Int.reduceToNat, ↓reduceIte, f97], by simp -implicitDefEqProofs only [go_sem, Nat.reduceEqDiff, Nat.reduceLT, Nat.reduceAdd, Nat.reduceMul, Int.reduceEq, Int.reduceLT, Int.reduceLE, Int.reduceNe, Int.reduceBEq, Int.reduceToNat, ↓reduceIte], rfl⟩
        · have e1 : decide ((y : Int) < 60) = false := by simp; omega
          simp -implicitDefEqProofs only [go_sem, Nat.reduceEqDiff, Nat.reduceLT, Nat.reduceAdd, Nat.reduceMul, Int.reduceEq, Int.reduceLT, Int.reduceLE, Int.reduceNe, Int.reduceBEq, Int.reduceToNat, ↓reduceIte, f5, f7, f14, f15, f95, f96, f97, f102, e1, d2]
          exact ⟨m - 1, by omega, i + 1, by omega, by simp -implicitDefEqProofs only [go_sem, Nat.reduceEqDiff, Nat.reduceLT, Nat.reduceAdd, Nat.reduceMul, Int.reduceEq, Int.reduceLT, Int.reduceLE, Int.reduceNe, Int.reduceBEq, Int.reduceToNat, ↓reduceIte, f5], by simp -implicitDefEqProofs only [go_sem, Nat.reduceEqDiff, Nat.reduceLT, Nat.reduceAdd, Nat.reduceMul, Int.reduceEq, Int.reduceLT, Int.reduceLE, Int.reduceNe, Int.reduceBEq, Int.reduceToNat, ↓reduceIte, f7], by simp -implicitDefEqProofs only [go_sem, Nat.reduceEqDiff, Nat.reduceLT, Nat.reduceAdd, Nat.reduceMul, Int.reduceEq, Int.reduceLT, Int.reduceLE, Int.reduceNe, Int.reduceBEq, Int.reduceToNat, ↓reduceIte, f95], by simp -implicitDefEqProofs only [go_sem, Nat.reduceEqDiff, Nat.reduceLT, Nat.reduceAdd, Nat.reduceMul, Int.reduceEq, Int.reduceLT, Int.reduceLE, Int.reduceNe, Int.reduceBEq, Int.reduceToNat, ↓reduceIte, f96], by simp -implicitDefEqProofs only [go_sem, Nat.reduceEqDiff, Nat.reduceLT, Nat.reduceAdd, Nat.reduceMul, Int.reduceEq, Int.reduceLT, Int.reduceLE, Int.reduceNe, Int.reduceBEq, Int.reduceToNat, ↓reduceIte], sA.trans sC⟩
      · have d1 : decide ((i : Int) < (zs.length : Int)) = false := by simp; omega
        simp -implicitDefEqProofs only [go_sem, Nat.reduceEqDiff, Nat.reduceLT, Nat.reduceAdd, Nat.reduceMul, Int.reduceEq, Int.reduceLT, Int.reduceLE, Int.reduceNe, Int.reduceBEq, Int.reduceToNat, ↓reduceIte, f5, f7, f95, f96, f97, d1]
end Go.Proofs.Ytmpepacfnckadaa
