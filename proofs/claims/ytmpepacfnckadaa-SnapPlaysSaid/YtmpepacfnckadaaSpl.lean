/-
  The law SnapPlays, walked.
  Conditions: the script's steps read as steps, the stamps as pairs.
-/
import Derived.Test.YtmpepacfnckadaaRho
import Derived.Test.YtmpepacfnckadaaAwq
namespace Go.Proofs.Ytmpepacfnckadaa
open Go Go.RowKit Go.Proofs.YtmpepacfnckadaaW
set_option maxRecDepth 100000
set_option maxHeartbeats 4000000
set_option linter.unusedSimpArgs false
set_option linter.unusedVariables false

theorem Hi.ne {w0 : World} {A B : Hp} (h : Hi w0 A) {b : Nat} (hb : w0.heap.size ≤ b) (g : ∀ i, i ≠ b → B i = A i) : Hi w0 B := fun i o hi => by
  by_cases e : i = b
  · rw [e]; exact hb
  · rw [g i e] at hi; exact h i o hi
theorem dec_ne_self {α : Type} [BEq α] [ReflBEq α] (a : α) : (!(a == a)) = false := by simp

def SplI (w0 : World) (H0 : Hp) (p n : Nat) (hz : Nat) (a : Value) (m : Nat) (F : Fr) (H : Hp) : Prop :=
  ∃ k : Nat, k + m = n ∧ F 5 = ptr p ∧ F 7 = .int .u64 (hz : Int) ∧ F 42 = a ∧ F 43 = .int .i64 (n : Int) ∧ F 44 = .int .i64 (k : Int) ∧ Sub H0 H ∧ Hi w0 H
def SplJ (w0 : World) (H0 : Hp) (p n hz k b9 b10 A B : Nat) (a ss : Value) (zn : Nat) (m : Nat) (F : Fr) (H : Hp) : Prop :=
  ∃ j : Nat, j + m = zn ∧ F 5 = ptr p ∧ F 7 = .int .u64 (hz : Int) ∧ F 9 = ptr b9 ∧ F 10 = ptr b10 ∧ F 42 = a ∧ F 43 = .int .i64 (n : Int) ∧ F 44 = .int .i64 (k : Int) ∧
    F 103 = ss ∧ F 104 = .int .i64 (zn : Int) ∧ F 105 = .int .i64 (j : Int) ∧ H b9 = some (.cells #[.int .u64 (A : Int), .int .u64 (B : Int)] 86 (0, 0)) ∧
    H b10 = some (.cells #[.int .u64 0, .int .u64 (A : Int), .int .u64 (B : Int), .int .i64 0, .int .i64 0, .slice none 0 0] 76 (0, 0)) ∧ Sub H0 H ∧ Hi w0 H

theorem splays_ok (w0 : World) (a : Value) (n0 : Nat) (ha : Ops10Arg w0 a n0) (b : Value) (n : Nat) (hb : PairsArg w0 b n) :
    ACalls Try.prog w0 11 #[a, b] (fun _ => none) fun r H' => r = .bool true ∧ True := by
  obtain ⟨ad, c, rfl, hn, hops⟩ := hb
  refine acalls_of Try.func11 rfl Try.ntmps11 r11 (by simp) ?_
  simp -implicitDefEqProofs only [go_sem, Nat.reduceEqDiff, Nat.reduceLT, Nat.reduceAdd, Nat.reduceMul, Int.reduceEq, Int.reduceLT, Int.reduceLE, Int.reduceNe, Int.reduceBEq, Int.reduceToNat, ↓reduceIte]
  refine (awake10_ok w0 _).mono ?_
  rintro r H' ⟨rfl, rfl⟩
  simp -implicitDefEqProofs only [go_sem, Nat.reduceEqDiff, Nat.reduceLT, Nat.reduceAdd, Nat.reduceMul, Int.reduceEq, Int.reduceLT, Int.reduceLE, Int.reduceNe, Int.reduceBEq, Int.reduceToNat, ↓reduceIte]
  refine (play_ok w0 _ 40 (by omega) a n0 ha).mono ?_
  rintro r H0 ⟨p, l, x, P, sts, zs, ss, tt, rfl, hpl, hs2, hz2, hhi⟩
  have lp := ld_own w0 hpl.1
  obtain ⟨S0, hlog⟩ := hpl.2.1.log
  obtain ⟨T0, href⟩ := hpl.2.1.ref
  have hsh : ∀ z ∈ zs, cell1 z.v = true := fun z hz => by
    obtain ⟨u1, u2, u⟩ := (hpl.2.2.2.2.1 z hz).1.slice; rw [u]; exact cell1_slice
  have hsr : ∀ z ∈ zs, Row H0 23 1 z.t z.run.length (u64s z.run) ∧ z.run.length < 10000000000000 := fun z hz => by
    obtain ⟨q1, q2, q3, q4, q5, q6⟩ := hpl.2.2.2.2.1 z hz
    refine ⟨q2, ?_⟩
    have := others_len z.own (runs 1 z.old); have := runsK_len 1 z.old z.old.length
    unfold runs at *; unfold Shot.run runs; omega
  simp -implicitDefEqProofs only [go_sem, Nat.reduceEqDiff, Nat.reduceLT, Nat.reduceAdd, Nat.reduceMul, Int.reduceEq, Int.reduceLT, Int.reduceLE, Int.reduceNe, Int.reduceBEq, Int.reduceToNat, ↓reduceIte]
  refine vdraw_t [⟨0, .p, [], []⟩, ⟨1, .p, [], []⟩, ⟨2, .p, [], []⟩, ⟨3, .n, [], []⟩, ⟨4, .p, [], []⟩, ⟨5, .p, [], []⟩, ⟨6, .p, [], []⟩, ⟨7, .n, [], []⟩, ⟨8, .c, [], []⟩, ⟨9, .p, [], []⟩] [0, 1, 3, 7, 0, 16, 48, 112, 255, 511] mixed (by kernel_rfl) ?_
  simp -implicitDefEqProofs only [go_sem, Nat.reduceEqDiff, Nat.reduceLT, Nat.reduceAdd, Nat.reduceMul, Int.reduceEq, Int.reduceLT, Int.reduceLE, Int.reduceNe, Int.reduceBEq, Int.reduceToNat, ↓reduceIte, lp]
  refine (horizon_log hlog (by omega) hpl.2.2.1 (by omega) hsh).mono ?_
  rintro r H1 ⟨rfl, rfl⟩
  simp -implicitDefEqProofs only [go_sem, Nat.reduceEqDiff, Nat.reduceLT, Nat.reduceAdd, Nat.reduceMul, Int.reduceEq, Int.reduceLT, Int.reduceLE, Int.reduceNe, Int.reduceBEq, Int.reduceToNat, ↓reduceIte, lp]
  refine vdraw_t [⟨0, .p, [], []⟩, ⟨1, .p, [], []⟩, ⟨2, .p, [], []⟩, ⟨3, .p, [], []⟩, ⟨4, .n, [], []⟩, ⟨5, .p, [], []⟩, ⟨6, .p, [], []⟩, ⟨7, .p, [], []⟩, ⟨8, .n, [], []⟩, ⟨9, .c, [], []⟩, ⟨10, .p, [], []⟩] [0, 0, 2, 6, 14, 0, 32, 96, 224, 510, 1023] mixed (by kernel_rfl) ?_
  simp -implicitDefEqProofs only [go_sem, Nat.reduceEqDiff, Nat.reduceLT, Nat.reduceAdd, Nat.reduceMul, Int.reduceEq, Int.reduceLT, Int.reduceLE, Int.reduceNe, Int.reduceBEq, Int.reduceToNat, ↓reduceIte, lp]
  refine (rhorizon_ref href (by omega) hpl.2.2.2.1 (by omega) hsr).mono ?_
  rintro r H0 ⟨rfl, rfl⟩
  have dn : ∀ x : Int, (!decide (x = x)) = false := fun x => by simp
  simp -implicitDefEqProofs only [go_sem, Nat.reduceEqDiff, Nat.reduceLT, Nat.reduceAdd, Nat.reduceMul, Int.reduceEq, Int.reduceLT, Int.reduceLE, Int.reduceNe, Int.reduceBEq, Int.reduceToNat, ↓reduceIte, lp, dn]
  generalize hzn (1 + sts.length) (zs.map Shot.xmin) = hz
  refine AC.loop (SplI w0 H0 p n hz (.slice ad n c)) (n := n) ⟨0, by omega, rfl, rfl, rfl, rfl, rfl, Sub.refl _, hhi⟩ ?_
  clear lp hlog href hsh hsr hhi S0 T0 dn
  rintro m F H1 ⟨k, hk, f5, f7, f42, f43, f44, s1, hhi1⟩
  by_cases c1 : k < n
  · have d1 : decide ((k : Int) < (n : Int)) = true := by simp; omega
    have d0 : decide ((0 : Int) ≤ (k : Int)) = true := by simp
    obtain ⟨ab, rfl, A0, B0, hA0, hB0, hc0, hc1⟩ := hops k c1
    have l0 := ld_arg hhi1 hc0
    have l1 := ld_arg hhi1 hc1
    have hl3 : ldCells w0 H1 (ab.add (k * 2)) 0 2 = some [.int .u64 (A0 : Int), .int .u64 (B0 : Int)] := by
      simp only [ldCells, l0, l1, Option.bind_some, Option.map_some]
    simp -implicitDefEqProofs only [go_sem, Nat.reduceEqDiff, Nat.reduceLT, Nat.reduceAdd, Nat.reduceMul, Int.reduceEq, Int.reduceLT, Int.reduceLE, Int.reduceNe, Int.reduceBEq, Int.reduceToNat, ↓reduceIte, f5, f7, f42, f43, f44, d1, d0, ldK_agg, hl3]
    refine newK_of ?_
    intro b9 H2 hb9 hn9 h9 s2 g2
    simp -implicitDefEqProofs only [go_sem, Nat.reduceEqDiff, Nat.reduceLT, Nat.reduceAdd, Nat.reduceMul, Int.reduceEq, Int.reduceLT, Int.reduceLE, Int.reduceNe, Int.reduceBEq, Int.reduceToNat, ↓reduceIte, f5, f7, f42, f43, f44]
    refine store_all h9 rfl (by simp [cell1_int]) rfl ?_
    intro H3 h9 g3
    have hhi3 := (hhi1.ne hb9 g2).ne hb9 g3
    have s03 : Sub H0 H3 := s1.trans (Sub.ne2 hn9 g2 g3)
    by_cases c6 : k < 20
    · have d6 : decide ((20 : Int) ≤ (k : Int)) = false := by simp; omega
      have d7 : (k : Int).tmod 4 = ((k % 4 : Nat) : Int) := by rw [Int.tmod_eq_emod_of_nonneg (by omega)]; omega
      by_cases c7 : k % 4 = 3
      · have d8 : decide (((k % 4 : Nat) : Int) = 3) = true := by rw [dec_three]; simp [c7]
        simp -implicitDefEqProofs only [go_sem, Nat.reduceEqDiff, Nat.reduceLT, Nat.reduceAdd, Nat.reduceMul, Int.reduceEq, Int.reduceLT, Int.reduceLE, Int.reduceNe, Int.reduceBEq, Int.reduceToNat, ↓reduceIte, f5, f7, f42, f43, f44, d6, d7, d8]
        obtain ⟨A, eA⟩ : ∃ A, A = A0 := ⟨_, rfl⟩
        obtain ⟨B, eB⟩ : ∃ B, B = B0 := ⟨_, rfl⟩
        rw [← eA, ← eB] at h9
        have hA : A < 18446744073709551616 := by omega
        have hB : B < 18446744073709551616 := by omega
        obtain ⟨H9, eH⟩ : ∃ H9, H9 = H3 := ⟨_, rfl⟩
        rw [← eH] at h9 hhi3 s03 ⊢
        have hhi9 := hhi3
        have s09 := s03
        clear eH hhi3 s03 eA eB g3 g2 s2 hl3 l0 l1
        have l9 := ld_own w0 h9
        have i0 : (0 : Int).toNat = 0 := rfl
        have i1 : (1 : Int).toNat = 1 := rfl
        simp -implicitDefEqProofs only [go_sem, Nat.reduceEqDiff, Nat.reduceLT, Nat.reduceAdd, Nat.reduceMul, Int.reduceEq, Int.reduceLT, Int.reduceLE, Int.reduceNe, Int.reduceBEq, Int.reduceToNat, ↓reduceIte, f5, f7, f42, f43, f44, l9, i0, i1, Nat.zero_mul, Nat.one_mul]
        refine (tuple_ok w0 _ A B).mono ?_
        rintro r H9' ⟨rfl, rfl⟩
        simp -implicitDefEqProofs only [go_sem, Nat.reduceEqDiff, Nat.reduceLT, Nat.reduceAdd, Nat.reduceMul, Int.reduceEq, Int.reduceLT, Int.reduceLE, Int.reduceNe, Int.reduceBEq, Int.reduceToNat, ↓reduceIte, f5, f7, f42, f43, f44]
        refine newK_of ?_
        intro b10 HA hb10 hn10 h10 s10 g10
        simp -implicitDefEqProofs only [go_sem, Nat.reduceEqDiff, Nat.reduceLT, Nat.reduceAdd, Nat.reduceMul, Int.reduceEq, Int.reduceLT, Int.reduceLE, Int.reduceNe, Int.reduceBEq, Int.reduceToNat, ↓reduceIte, f5, f7, f42, f43, f44]
        refine store_all h10 rfl (by simp [cell1_int, cell1_slice]) rfl ?_
        intro HB h10' g10'
        have sB : Sub H9' HB := Sub.ne2 hn10 g10 g10'
        have hhiB := (hhi9.ne hb10 g10).ne hb10 g10'
        have h9B := sB _ _ h9
        have s0B := s09.trans sB
        clear h10 s10 g10 g10' hhi9 s09 l9 hn10 sB
        have hplB := hpl.sub s0B
        have lp := ld_own w0 hplB.1
        have l9 := ld_own w0 h9B
        have l10 := ldc w0 h10' 6
        obtain ⟨SB, hlogB⟩ := hplB.2.1.log
        obtain ⟨TB, hrefB⟩ := hplB.2.1.ref
        obtain ⟨sa, sc, hss⟩ := hplB.2.2.1.slice
        simp -implicitDefEqProofs only [go_sem, Nat.reduceEqDiff, Nat.reduceLT, Nat.reduceAdd, Nat.reduceMul, Int.reduceEq, Int.reduceLT, Int.reduceLE, Int.reduceNe, Int.reduceBEq, Int.reduceToNat, ↓reduceIte, f5, f7, f42, f43, f44]
        refine vdraw_t [⟨0, .p, [], []⟩, ⟨1, .p, [], []⟩, ⟨2, .p, [], []⟩, ⟨3, .n, [], []⟩, ⟨4, .n, [], []⟩, ⟨5, .p, [], []⟩, ⟨7, .p, [], []⟩, ⟨8, .p, [], []⟩, ⟨9, .p, [], []⟩, ⟨10, .n, [], []⟩, ⟨11, .n, [], []⟩, ⟨12, .p, [], []⟩, ⟨6, .c, [10, 11], []⟩, ⟨13, .c, [], []⟩, ⟨14, .p, [], []⟩, ⟨15, .p, [], []⟩, ⟨16, .p, [], []⟩, ⟨17, .p, [], []⟩, ⟨18, .p, [], []⟩, ⟨19, .n, [], []⟩, ⟨20, .n, [], []⟩, ⟨21, .p, [], []⟩, ⟨22, .n, [], []⟩, ⟨24, .p, [], []⟩, ⟨25, .p, [], []⟩, ⟨26, .p, [], []⟩, ⟨27, .n, [], []⟩, ⟨28, .n, [], []⟩, ⟨29, .p, [], []⟩, ⟨30, .n, [], []⟩, ⟨23, .c, [27, 28, 30], []⟩, ⟨31, .c, [], []⟩, ⟨32, .p, [], []⟩, ⟨33, .p, [], []⟩] [0, 1, 3, 7, 0, 0, 63, 0, 128, 384, 896, 0, 0, 8191, 16383, 32767, 65535, 131071, 262143, 524287, 65535, 65535, 2162687, 8388607, 65535, 16842751, 50397183, 117506047, 65535, 65535, 536936447, 2147483647, 4294967295, 8589934591] mixed (by kernel_rfl) ?_
        simp -implicitDefEqProofs only [go_sem, Nat.reduceEqDiff, Nat.reduceLT, Nat.reduceAdd, Nat.reduceMul, Int.reduceEq, Int.reduceLT, Int.reduceLE, Int.reduceNe, Int.reduceBEq, Int.reduceToNat, ↓reduceIte, f5, f7, f42, f43, f44, lp, l9, l10, ldK_agg, i0, i1, Nat.zero_mul, Nat.one_mul]
        refine (dead_log hlogB (by omega) A B hz).mono ?_
        rintro r H3 ⟨rfl, rfl⟩
        simp -implicitDefEqProofs only [go_sem, Nat.reduceEqDiff, Nat.reduceLT, Nat.reduceAdd, Nat.reduceMul, Int.reduceEq, Int.reduceLT, Int.reduceLE, Int.reduceNe, Int.reduceBEq, Int.reduceToNat, ↓reduceIte, f5, f7, f42, f43, f44, lp, l9, l10, ldK_agg, i0, i1, Nat.zero_mul, Nat.one_mul]
        refine (rdead_ref hrefB (by omega) hA hB hz).mono ?_
        rintro r H3' ⟨rfl, rfl⟩
        simp -implicitDefEqProofs only [go_sem, Nat.reduceEqDiff, Nat.reduceLT, Nat.reduceAdd, Nat.reduceMul, Int.reduceEq, Int.reduceLT, Int.reduceLE, Int.reduceNe, Int.reduceBEq, Int.reduceToNat, ↓reduceIte, f5, f7, f42, f43, f44, lp, l9, l10, ldK_agg, i0, i1, Nat.zero_mul, Nat.one_mul, dec_ne_self]
        refine (dead_log hlogB (by omega) A B B).mono ?_
        rintro r H3 ⟨rfl, rfl⟩
        simp -implicitDefEqProofs only [go_sem, Nat.reduceEqDiff, Nat.reduceLT, Nat.reduceAdd, Nat.reduceMul, Int.reduceEq, Int.reduceLT, Int.reduceLE, Int.reduceNe, Int.reduceBEq, Int.reduceToNat, ↓reduceIte, f5, f7, f42, f43, f44, lp, l9, l10, ldK_agg, i0, i1, Nat.zero_mul, Nat.one_mul, dec_ne_self]
        refine (rdead_ref hrefB (by omega) hA hB B).mono ?_
        rintro r HB ⟨rfl, rfl⟩
        simp -implicitDefEqProofs only [go_sem, Nat.reduceEqDiff, Nat.reduceLT, Nat.reduceAdd, Nat.reduceMul, Int.reduceEq, Int.reduceLT, Int.reduceLE, Int.reduceNe, Int.reduceBEq, Int.reduceToNat, ↓reduceIte, f5, f7, f42, f43, f44, lp, l9, l10, ldK_agg, i0, i1, Nat.zero_mul, Nat.one_mul, dec_ne_self, hss]
        rw [← hss]
        refine AC.loop (SplJ w0 H0 p n hz k b9 b10 A B (.slice (some ab) n c) ss zs.length) (n := zs.length) ⟨0, by omega, by simp -implicitDefEqProofs only [go_sem, Nat.reduceEqDiff, Nat.reduceLT, Nat.reduceAdd, Nat.reduceMul, Int.reduceEq, Int.reduceLT, Int.reduceLE, Int.reduceNe, Int.reduceBEq, Int.reduceToNat, ↓reduceIte, f5], by simp -implicitDefEqProofs only [go_sem, Nat.reduceEqDiff, Nat.reduceLT, Nat.reduceAdd, Nat.reduceMul, Int.reduceEq, Int.reduceLT, Int.reduceLE, Int.reduceNe, Int.reduceBEq, Int.reduceToNat, ↓reduceIte, f7], by simp -implicitDefEqProofs only [go_sem, Nat.reduceEqDiff, Nat.reduceLT, Nat.reduceAdd, Nat.reduceMul, Int.reduceEq, Int.reduceLT, Int.reduceLE, Int.reduceNe, Int.reduceBEq, Int.reduceToNat, ↓reduceIte], by simp -implicitDefEqProofs only [go_sem, Nat.reduceEqDiff, Nat.reduceLT, Nat.reduceAdd, Nat.reduceMul, Int.reduceEq, Int.reduceLT, Int.reduceLE, Int.reduceNe, Int.reduceBEq, Int.reduceToNat, ↓reduceIte], by simp -implicitDefEqProofs only [go_sem, Nat.reduceEqDiff, Nat.reduceLT, Nat.reduceAdd, Nat.reduceMul, Int.reduceEq, Int.reduceLT, Int.reduceLE, Int.reduceNe, Int.reduceBEq, Int.reduceToNat, ↓reduceIte, f42], by simp -implicitDefEqProofs only [go_sem, Nat.reduceEqDiff, Nat.reduceLT, Nat.reduceAdd, Nat.reduceMul, Int.reduceEq, Int.reduceLT, Int.reduceLE, Int.reduceNe, Int.reduceBEq, Int.reduceToNat, ↓reduceIte, f43], by simp -implicitDefEqProofs only [go_sem, Nat.reduceEqDiff, Nat.reduceLT, Nat.reduceAdd, Nat.reduceMul, Int.reduceEq, Int.reduceLT, Int.reduceLE, Int.reduceNe, Int.reduceBEq, Int.reduceToNat, ↓reduceIte, f44], by simp -implicitDefEqProofs only [go_sem, Nat.reduceEqDiff, Nat.reduceLT, Nat.reduceAdd, Nat.reduceMul, Int.reduceEq, Int.reduceLT, Int.reduceLE, Int.reduceNe, Int.reduceBEq, Int.reduceToNat, ↓reduceIte, hss], by simp -implicitDefEqProofs only [go_sem, Nat.reduceEqDiff, Nat.reduceLT, Nat.reduceAdd, Nat.reduceMul, Int.reduceEq, Int.reduceLT, Int.reduceLE, Int.reduceNe, Int.reduceBEq, Int.reduceToNat, ↓reduceIte], by simp -implicitDefEqProofs only [go_sem, Nat.reduceEqDiff, Nat.reduceLT, Nat.reduceAdd, Nat.reduceMul, Int.reduceEq, Int.reduceLT, Int.reduceLE, Int.reduceNe, Int.reduceBEq, Int.reduceToNat, ↓reduceIte], h9B, h10', s0B, hhiB⟩ ?_
        clear hhiB hplB hlogB hrefB l9 l10 lp h9B h10' s0B f5 f7 f42 f43 f44 SB TB hss sa sc
        rintro m2 F H4 ⟨j, hj, f5, f7, f9, f10, f42, f43, f44, f103, f104, f105, h9, h10, s4, hhi4⟩
        by_cases cj : j < zs.length
        · have d1 : decide ((j : Int) < (zs.length : Int)) = true := by simp; omega
          have d2 : IntKind.i64.wrap ((j : Int) + 1) = (j + 1 : Nat) := by rw [i64_in] <;> omega
          have d3 : decide ((0 : Int) ≤ (j : Int)) = true := by simp
          have hzj : zs[j]? = some zs[j] := by simp [cj]
          generalize zs[j] = z at hzj
          have hpl4 := hpl.sub s4
          obtain ⟨g1, cap1, hv1, hl1⟩ := hpl4.2.2.1.at w0 rfl (fun z _ => z.cs_len) hzj
          have hl1' : ldCells w0 H4 ⟨g1, j * 4, none⟩ 0 4 = some [.int .u64 (z.own : Int), .int .u64 (z.xmin : Int), .int .u64 (z.xmax : Int), z.v] := hl1
          rw [hv1] at f103
          obtain ⟨q1, q2, q3, q4, q5, q6⟩ := hpl4.2.2.2.2.1 z (List.mem_of_getElem? hzj)
          have hc1 : cell1 z.v = true := by obtain ⟨u1, u2, u⟩ := q1.slice; rw [u]; exact cell1_slice
          have hzl : z.run.length < 10000000000000 := by
            have := others_len z.own (runs 1 z.old); have := runsK_len 1 z.old z.old.length
            unfold runs at *; unfold Shot.run runs; omega
          simp -implicitDefEqProofs only [go_sem, Nat.reduceEqDiff, Nat.reduceLT, Nat.reduceAdd, Nat.reduceMul, Int.reduceEq, Int.reduceLT, Int.reduceLE, Int.reduceNe, Int.reduceBEq, Int.reduceToNat, ↓reduceIte, f5, f7, f9, f10, f42, f43, f44, f103, f104, f105, d1, d3, hl1', ldK_agg]
          refine newK_of ?_
          intro b12 H5 hb12 hn12 h12 s12 g12
          simp -implicitDefEqProofs only [go_sem, Nat.reduceEqDiff, Nat.reduceLT, Nat.reduceAdd, Nat.reduceMul, Int.reduceEq, Int.reduceLT, Int.reduceLE, Int.reduceNe, Int.reduceBEq, Int.reduceToNat, ↓reduceIte, f5, f7, f9, f10, f42, f43, f44, f103, f104, f105]
          refine store_all h12 rfl (by simp [cell1_int, hc1]) rfl ?_
          intro H6 h12' g12'
          have s6 : Sub H4 H6 := Sub.ne2 hn12 g12 g12'
          have hhi6 := (hhi4.ne hb12 g12).ne hb12 g12'
          have h9' := s6 _ _ h9
          have h10' := s6 _ _ h10
          have s06 := s4.trans s6
          clear h12 s12 g12 g12' hhi4 hn12 s4 hpl4 hl1 hl1' q1 q2
          have hpl6 := hpl.sub s06
          have lp := ld_own w0 hpl6.1
          have l9 := ld_own w0 h9'
          have l10 := ldc w0 h10' 6
          have l12 := ldc w0 h12' 4
          obtain ⟨SB, hlog6⟩ := hpl6.2.1.log
          obtain ⟨TB, href6⟩ := hpl6.2.1.ref
          obtain ⟨g2, cap2, hv2, hl2⟩ := hpl6.2.2.2.1.at w0 rfl (fun z _ => z.ct_len) hzj
          have hl2' : ldCells w0 H6 ⟨g2, j * 3, none⟩ 0 3 = some [.int .u64 (z.own : Int), .int .u64 (z.xmax : Int), z.t] := hl2
          obtain ⟨q1, q2, _⟩ := hpl6.2.2.2.2.1 z (List.mem_of_getElem? hzj)
          have i0 : (0 : Int).toNat = 0 := rfl
          have dn : ∀ x : Int, (!decide (x = x)) = false := fun x => by simp
          simp -implicitDefEqProofs only [go_sem, Nat.reduceEqDiff, Nat.reduceLT, Nat.reduceAdd, Nat.reduceMul, Int.reduceEq, Int.reduceLT, Int.reduceLE, Int.reduceNe, Int.reduceBEq, Int.reduceToNat, ↓reduceIte, f5, f7, f9, f10, f42, f43, f44, f103, f104, f105]
          refine vdraw_t [⟨0, .p, [], []⟩, ⟨1, .p, [], []⟩, ⟨2, .p, [], []⟩, ⟨3, .n, [], []⟩, ⟨4, .n, [], []⟩, ⟨5, .p, [], []⟩, ⟨6, .n, [], []⟩, ⟨8, .p, [], []⟩, ⟨9, .p, [], []⟩, ⟨10, .p, [], []⟩, ⟨11, .n, [], []⟩, ⟨12, .p, [], []⟩, ⟨13, .p, [], []⟩, ⟨14, .p, [], []⟩, ⟨15, .n, [], []⟩, ⟨16, .p, [], []⟩, ⟨17, .p, [], []⟩, ⟨18, .n, [], []⟩, ⟨19, .p, [], []⟩, ⟨20, .n, [], []⟩, ⟨7, .c, [11, 15, 18, 20], []⟩, ⟨21, .c, [], []⟩, ⟨22, .p, [], []⟩, ⟨23, .p, [], []⟩, ⟨24, .p, [], []⟩, ⟨25, .p, [], []⟩, ⟨26, .p, [], []⟩, ⟨27, .n, [], []⟩, ⟨28, .n, [], []⟩, ⟨29, .n, [], []⟩, ⟨31, .p, [], []⟩, ⟨32, .p, [], []⟩, ⟨33, .p, [], []⟩, ⟨34, .n, [], []⟩, ⟨35, .p, [], []⟩, ⟨36, .p, [], []⟩, ⟨37, .p, [], []⟩, ⟨38, .n, [], []⟩, ⟨39, .p, [], []⟩, ⟨40, .p, [], []⟩, ⟨41, .n, [], []⟩, ⟨42, .n, [], []⟩, ⟨30, .c, [34, 38, 41, 42], []⟩, ⟨43, .c, [], []⟩, ⟨44, .p, [], []⟩, ⟨45, .p, [], []⟩, ⟨46, .p, [], []⟩, ⟨47, .p, [], []⟩, ⟨48, .p, [], []⟩, ⟨49, .p, [], []⟩, ⟨50, .n, [], []⟩, ⟨51, .n, [], []⟩, ⟨52, .n, [], []⟩, ⟨54, .p, [], []⟩, ⟨55, .p, [], []⟩, ⟨56, .p, [], []⟩, ⟨57, .n, [], []⟩, ⟨58, .p, [], []⟩, ⟨59, .p, [], []⟩, ⟨60, .p, [], []⟩, ⟨61, .n, [], []⟩, ⟨62, .p, [], []⟩, ⟨63, .p, [], []⟩, ⟨64, .n, [], []⟩, ⟨65, .n, [], []⟩, ⟨53, .c, [57, 61, 64, 65], []⟩, ⟨66, .c, [], []⟩, ⟨67, .p, [], []⟩, ⟨68, .p, [], []⟩] [0, 1, 3, 7, 0, 0, 32, 127, 0, 256, 768, 1792, 0, 4096, 12288, 28672, 0, 126976, 258048, 0, 524288, 2097151, 4194303, 8388607, 16777215, 33554431, 67108863, 134217727, 16777215, 16777215, 1073741823, 16777215, 2164260863, 6459228159, 15049162751, 16777215, 34376515583, 103095992319, 240534945791, 16777215, 1065168666623, 2164680294399, 16777215, 8796093022207, 17592186044415, 35184372088831, 70368744177663, 140737488355327, 281474976710655, 562949953421311, 1125899906842623, 140737488355327, 140737488355327, 9007199254740991, 140737488355327, 18155135997837311, 54183933016801279, 126241527054729215, 140737488355327, 288371113640067071, 864831865943490559, 2017753370550337535, 140737488355327, 8935282398191419391, 18158654435046195199, 140737488355327, 73786976294838206463, 147573952589676412927, 295147905179352825855] mixed (by kernel_rfl) ?_
          simp -implicitDefEqProofs only [go_sem, Nat.reduceEqDiff, Nat.reduceLT, Nat.reduceAdd, Nat.reduceMul, Int.reduceEq, Int.reduceLT, Int.reduceLE, Int.reduceNe, Int.reduceBEq, Int.reduceToNat, ↓reduceIte, f5, f7, f9, f10, f42, f43, f44, f103, f104, f105, lp, l9, l10, l12, hv2, hl2', ldK_agg, i0, d1, d3, Nat.zero_mul, Nat.one_mul, List.append_eq, List.cons_append, List.nil_append]
          refine (sees_log hlog6 (by omega) q1 hzl A).mono ?_
          rintro r H3 ⟨rfl, rfl⟩
          simp -implicitDefEqProofs only [go_sem, Nat.reduceEqDiff, Nat.reduceLT, Nat.reduceAdd, Nat.reduceMul, Int.reduceEq, Int.reduceLT, Int.reduceLE, Int.reduceNe, Int.reduceBEq, Int.reduceToNat, ↓reduceIte, f5, f7, f9, f10, f42, f43, f44, f103, f104, f105, lp, l9, l10, l12, hv2, hl2', ldK_agg, i0, d1, d3, Nat.zero_mul, Nat.one_mul]
          refine (rsees_ref href6 (by omega) q2 hzl hA).mono ?_
          rintro r H3 ⟨rfl, rfl⟩
          simp -implicitDefEqProofs only [go_sem, Nat.reduceEqDiff, Nat.reduceLT, Nat.reduceAdd, Nat.reduceMul, Int.reduceEq, Int.reduceLT, Int.reduceLE, Int.reduceNe, Int.reduceBEq, Int.reduceToNat, ↓reduceIte, f5, f7, f9, f10, f42, f43, f44, f103, f104, f105, lp, l9, l10, l12, hv2, hl2', ldK_agg, i0, d1, d3, Nat.zero_mul, Nat.one_mul, dec_ne_self]
          refine (vis_log hlog6 (by omega) q1 hzl A B).mono ?_
          rintro r H3 ⟨rfl, rfl⟩
          simp -implicitDefEqProofs only [go_sem, Nat.reduceEqDiff, Nat.reduceLT, Nat.reduceAdd, Nat.reduceMul, Int.reduceEq, Int.reduceLT, Int.reduceLE, Int.reduceNe, Int.reduceBEq, Int.reduceToNat, ↓reduceIte, f5, f7, f9, f10, f42, f43, f44, f103, f104, f105, lp, l9, l10, l12, hv2, hl2', ldK_agg, i0, d1, d3, Nat.zero_mul, Nat.one_mul, dec_ne_self]
          refine (rvis_ref href6 (by omega) q2 hzl hA hB).mono ?_
          rintro r H3 ⟨rfl, rfl⟩
          simp -implicitDefEqProofs only [go_sem, Nat.reduceEqDiff, Nat.reduceLT, Nat.reduceAdd, Nat.reduceMul, Int.reduceEq, Int.reduceLT, Int.reduceLE, Int.reduceNe, Int.reduceBEq, Int.reduceToNat, ↓reduceIte, f5, f7, f9, f10, f42, f43, f44, f103, f104, f105, lp, l9, l10, l12, hv2, hl2', ldK_agg, i0, d1, d3, Nat.zero_mul, Nat.one_mul, dec_ne_self]
          refine (free_log hlog6 (by omega) q1 hzl A B).mono ?_
          rintro r H3 ⟨rfl, rfl⟩
          simp -implicitDefEqProofs only [go_sem, Nat.reduceEqDiff, Nat.reduceLT, Nat.reduceAdd, Nat.reduceMul, Int.reduceEq, Int.reduceLT, Int.reduceLE, Int.reduceNe, Int.reduceBEq, Int.reduceToNat, ↓reduceIte, f5, f7, f9, f10, f42, f43, f44, f103, f104, f105, lp, l9, l10, l12, hv2, hl2', ldK_agg, i0, d1, d3, Nat.zero_mul, Nat.one_mul, dec_ne_self]
          refine (rfree_ref href6 (by omega) q2 hzl hA hB).mono ?_
          rintro r H3 ⟨rfl, rfl⟩
          simp -implicitDefEqProofs only [go_sem, Nat.reduceEqDiff, Nat.reduceLT, Nat.reduceAdd, Nat.reduceMul, Int.reduceEq, Int.reduceLT, Int.reduceLE, Int.reduceNe, Int.reduceBEq, Int.reduceToNat, ↓reduceIte, f5, f7, f9, f10, f42, f43, f44, f103, f104, f105, lp, l9, l10, l12, hv2, hl2', ldK_agg, i0, d1, d2, d3, Nat.zero_mul, Nat.one_mul, dn]
          exact ⟨m2 - 1, by omega, j + 1, by omega, by simp -implicitDefEqProofs only [go_sem, Nat.reduceEqDiff, Nat.reduceLT, Nat.reduceAdd, Nat.reduceMul, Int.reduceEq, Int.reduceLT, Int.reduceLE, Int.reduceNe, Int.reduceBEq, Int.reduceToNat, ↓reduceIte, f5], by simp -implicitDefEqProofs only [go_sem, Nat.reduceEqDiff, Nat.reduceLT, Nat.reduceAdd, Nat.reduceMul, Int.reduceEq, Int.reduceLT, Int.reduceLE, Int.reduceNe, Int.reduceBEq, Int.reduceToNat, ↓reduceIte, f7], by simp -implicitDefEqProofs only [go_sem, Nat.reduceEqDiff, Nat.reduceLT, Nat.reduceAdd, Nat.reduceMul, Int.reduceEq, Int.reduceLT, Int.reduceLE, Int.reduceNe, Int.reduceBEq, Int.reduceToNat, ↓reduceIte, f9], by simp -implicitDefEqProofs only [go_sem, Nat.reduceEqDiff, Nat.reduceLT, Nat.reduceAdd, Nat.reduceMul, Int.reduceEq, Int.reduceLT, Int.reduceLE, Int.reduceNe, Int.reduceBEq, Int.reduceToNat, ↓reduceIte, f10], by simp -implicitDefEqProofs only [go_sem, Nat.reduceEqDiff, Nat.reduceLT, Nat.reduceAdd, Nat.reduceMul, Int.reduceEq, Int.reduceLT, Int.reduceLE, Int.reduceNe, Int.reduceBEq, Int.reduceToNat, ↓reduceIte, f42], by simp -implicitDefEqProofs only [go_sem, Nat.reduceEqDiff, Nat.reduceLT, Nat.reduceAdd, Nat.reduceMul, Int.reduceEq, Int.reduceLT, Int.reduceLE, Int.reduceNe, Int.reduceBEq, Int.reduceToNat, ↓reduceIte, f43], by simp -implicitDefEqProofs only [go_sem, Nat.reduceEqDiff, Nat.reduceLT, Nat.reduceAdd, Nat.reduceMul, Int.reduceEq, Int.reduceLT, Int.reduceLE, Int.reduceNe, Int.reduceBEq, Int.reduceToNat, ↓reduceIte, f44], by simp -implicitDefEqProofs only [go_sem, Nat.reduceEqDiff, Nat.reduceLT, Nat.reduceAdd, Nat.reduceMul, Int.reduceEq, Int.reduceLT, Int.reduceLE, Int.reduceNe, Int.reduceBEq, Int.reduceToNat, ↓reduceIte, f103, hv1], by simp -implicitDefEqProofs only [go_sem, Nat.reduceEqDiff, Nat.reduceLT, Nat.reduceAdd, Nat.reduceMul, Int.reduceEq, Int.reduceLT, Int.reduceLE, Int.reduceNe, Int.reduceBEq, Int.reduceToNat, ↓reduceIte, f104], by simp -implicitDefEqProofs only [go_sem, Nat.reduceEqDiff, Nat.reduceLT, Nat.reduceAdd, Nat.reduceMul, Int.reduceEq, Int.reduceLT, Int.reduceLE, Int.reduceNe, Int.reduceBEq, Int.reduceToNat, ↓reduceIte], h9', h10', s06, hhi6⟩
        · have d1 : decide ((j : Int) < (zs.length : Int)) = false := by simp; omega
          have d2 : IntKind.i64.wrap ((k : Int) + 1) = (k + 1 : Nat) := by rw [i64_in] <;> omega
          simp -implicitDefEqProofs only [go_sem, Nat.reduceEqDiff, Nat.reduceLT, Nat.reduceAdd, Nat.reduceMul, Int.reduceEq, Int.reduceLT, Int.reduceLE, Int.reduceNe, Int.reduceBEq, Int.reduceToNat, ↓reduceIte, f5, f7, f9, f10, f42, f43, f44, f103, f104, f105, d1, d2]
          exact ⟨m - 1, by omega, k + 1, by omega, by simp -implicitDefEqProofs only [go_sem, Nat.reduceEqDiff, Nat.reduceLT, Nat.reduceAdd, Nat.reduceMul, Int.reduceEq, Int.reduceLT, Int.reduceLE, Int.reduceNe, Int.reduceBEq, Int.reduceToNat, ↓reduceIte, f5], by simp -implicitDefEqProofs only [go_sem, Nat.reduceEqDiff, Nat.reduceLT, Nat.reduceAdd, Nat.reduceMul, Int.reduceEq, Int.reduceLT, Int.reduceLE, Int.reduceNe, Int.reduceBEq, Int.reduceToNat, ↓reduceIte, f7], by simp -implicitDefEqProofs only [go_sem, Nat.reduceEqDiff, Nat.reduceLT, Nat.reduceAdd, Nat.reduceMul, Int.reduceEq, Int.reduceLT, Int.reduceLE, Int.reduceNe, Int.reduceBEq, Int.reduceToNat, ↓reduceIte, f42], by simp -implicitDefEqProofs only [go_sem, Nat.reduceEqDiff, Nat.reduceLT, Nat.reduceAdd, Nat.reduceMul, Int.reduceEq, Int.reduceLT, Int.reduceLE, Int.reduceNe, Int.reduceBEq, Int.reduceToNat, ↓reduceIte, f43], by simp -implicitDefEqProofs only [go_sem, Nat.reduceEqDiff, Nat.reduceLT, Nat.reduceAdd, Nat.reduceMul, Int.reduceEq, Int.reduceLT, Int.reduceLE, Int.reduceNe, Int.reduceBEq, Int.reduceToNat, ↓reduceIte], s4, hhi4⟩
      · have d8 : decide (((k % 4 : Nat) : Int) = 3) = false := by rw [dec_three]; simp [c7]
        have i0 : (0 : Int).toNat = 0 := rfl
        have i1 : (1 : Int).toNat = 1 := rfl
        have bd : ∀ u v : Int, bdCells Try.prog 86 #[(0, .int .u64 u), (1, .int .u64 v)] = some #[.int .u64 u, .int .u64 v] := fun u v => by kernel_rfl
        have l9 := ld_own w0 h9
        have mA : (A0 : Int).tmod 40 = ((A0 % 40 : Nat) : Int) := by rw [Int.tmod_eq_emod_of_nonneg (by omega)]; omega
        have mB : (B0 : Int).tmod 40 = ((B0 % 40 : Nat) : Int) := by rw [Int.tmod_eq_emod_of_nonneg (by omega)]; omega
        simp -implicitDefEqProofs only [go_sem, Nat.reduceEqDiff, Nat.reduceLT, Nat.reduceAdd, Nat.reduceMul, Int.reduceEq, Int.reduceLT, Int.reduceLE, Int.reduceNe, Int.reduceBEq, Int.reduceToNat, ↓reduceIte, f5, f7, f42, f43, f44, d6, d7, d8, l9, i0, i1, Nat.zero_mul, Nat.one_mul, mA, mB, bd]
        refine store_all h9 rfl (by simp [cell1_int]) rfl ?_
        intro H9 h9' g9
        have hhi9 := hhi3.ne hb9 g9
        have s09 : Sub H0 H9 := s1.trans (Sub.ne2 hn9 (fun i hi => (g3 i hi).trans (g2 i hi)) g9)
        obtain ⟨A, eA⟩ : ∃ A, A = A0 % 40 := ⟨_, rfl⟩
        obtain ⟨B, eB⟩ : ∃ B, B = B0 % 40 := ⟨_, rfl⟩
        rw [← eA, ← eB] at h9'
        have hA : A < 18446744073709551616 := by omega
        have hB : B < 18446744073709551616 := by omega
        clear hhi3 s03 eA eB g3 g2 s2 hl3 l0 l1 l9 h9 g9
        have h9 := h9'
        clear h9'
        have l9 := ld_own w0 h9
        have i0 : (0 : Int).toNat = 0 := rfl
        have i1 : (1 : Int).toNat = 1 := rfl
        simp -implicitDefEqProofs only [go_sem, Nat.reduceEqDiff, Nat.reduceLT, Nat.reduceAdd, Nat.reduceMul, Int.reduceEq, Int.reduceLT, Int.reduceLE, Int.reduceNe, Int.reduceBEq, Int.reduceToNat, ↓reduceIte, f5, f7, f42, f43, f44, l9, i0, i1, Nat.zero_mul, Nat.one_mul]
        refine (tuple_ok w0 _ A B).mono ?_
        rintro r H9' ⟨rfl, rfl⟩
        simp -implicitDefEqProofs only [go_sem, Nat.reduceEqDiff, Nat.reduceLT, Nat.reduceAdd, Nat.reduceMul, Int.reduceEq, Int.reduceLT, Int.reduceLE, Int.reduceNe, Int.reduceBEq, Int.reduceToNat, ↓reduceIte, f5, f7, f42, f43, f44]
        refine newK_of ?_
        intro b10 HA hb10 hn10 h10 s10 g10
        simp -implicitDefEqProofs only [go_sem, Nat.reduceEqDiff, Nat.reduceLT, Nat.reduceAdd, Nat.reduceMul, Int.reduceEq, Int.reduceLT, Int.reduceLE, Int.reduceNe, Int.reduceBEq, Int.reduceToNat, ↓reduceIte, f5, f7, f42, f43, f44]
        refine store_all h10 rfl (by simp [cell1_int, cell1_slice]) rfl ?_
        intro HB h10' g10'
        have sB : Sub H9' HB := Sub.ne2 hn10 g10 g10'
        have hhiB := (hhi9.ne hb10 g10).ne hb10 g10'
        have h9B := sB _ _ h9
        have s0B := s09.trans sB
        clear h10 s10 g10 g10' hhi9 s09 l9 hn10 sB
        have hplB := hpl.sub s0B
        have lp := ld_own w0 hplB.1
        have l9 := ld_own w0 h9B
        have l10 := ldc w0 h10' 6
        obtain ⟨SB, hlogB⟩ := hplB.2.1.log
        obtain ⟨TB, hrefB⟩ := hplB.2.1.ref
        obtain ⟨sa, sc, hss⟩ := hplB.2.2.1.slice
        simp -implicitDefEqProofs only [go_sem, Nat.reduceEqDiff, Nat.reduceLT, Nat.reduceAdd, Nat.reduceMul, Int.reduceEq, Int.reduceLT, Int.reduceLE, Int.reduceNe, Int.reduceBEq, Int.reduceToNat, ↓reduceIte, f5, f7, f42, f43, f44]
        refine vdraw_t [⟨0, .p, [], []⟩, ⟨1, .p, [], []⟩, ⟨2, .p, [], []⟩, ⟨3, .n, [], []⟩, ⟨4, .n, [], []⟩, ⟨5, .p, [], []⟩, ⟨7, .p, [], []⟩, ⟨8, .p, [], []⟩, ⟨9, .p, [], []⟩, ⟨10, .n, [], []⟩, ⟨11, .n, [], []⟩, ⟨12, .p, [], []⟩, ⟨6, .c, [10, 11], []⟩, ⟨13, .c, [], []⟩, ⟨14, .p, [], []⟩, ⟨15, .p, [], []⟩, ⟨16, .p, [], []⟩, ⟨17, .p, [], []⟩, ⟨18, .p, [], []⟩, ⟨19, .n, [], []⟩, ⟨20, .n, [], []⟩, ⟨21, .p, [], []⟩, ⟨22, .n, [], []⟩, ⟨24, .p, [], []⟩, ⟨25, .p, [], []⟩, ⟨26, .p, [], []⟩, ⟨27, .n, [], []⟩, ⟨28, .n, [], []⟩, ⟨29, .p, [], []⟩, ⟨30, .n, [], []⟩, ⟨23, .c, [27, 28, 30], []⟩, ⟨31, .c, [], []⟩, ⟨32, .p, [], []⟩, ⟨33, .p, [], []⟩] [0, 1, 3, 7, 0, 0, 63, 0, 128, 384, 896, 0, 0, 8191, 16383, 32767, 65535, 131071, 262143, 524287, 65535, 65535, 2162687, 8388607, 65535, 16842751, 50397183, 117506047, 65535, 65535, 536936447, 2147483647, 4294967295, 8589934591] mixed (by kernel_rfl) ?_
        simp -implicitDefEqProofs only [go_sem, Nat.reduceEqDiff, Nat.reduceLT, Nat.reduceAdd, Nat.reduceMul, Int.reduceEq, Int.reduceLT, Int.reduceLE, Int.reduceNe, Int.reduceBEq, Int.reduceToNat, ↓reduceIte, f5, f7, f42, f43, f44, lp, l9, l10, ldK_agg, i0, i1, Nat.zero_mul, Nat.one_mul]
        refine (dead_log hlogB (by omega) A B hz).mono ?_
        rintro r H3 ⟨rfl, rfl⟩
        simp -implicitDefEqProofs only [go_sem, Nat.reduceEqDiff, Nat.reduceLT, Nat.reduceAdd, Nat.reduceMul, Int.reduceEq, Int.reduceLT, Int.reduceLE, Int.reduceNe, Int.reduceBEq, Int.reduceToNat, ↓reduceIte, f5, f7, f42, f43, f44, lp, l9, l10, ldK_agg, i0, i1, Nat.zero_mul, Nat.one_mul]
        refine (rdead_ref hrefB (by omega) hA hB hz).mono ?_
        rintro r H3' ⟨rfl, rfl⟩
        simp -implicitDefEqProofs only [go_sem, Nat.reduceEqDiff, Nat.reduceLT, Nat.reduceAdd, Nat.reduceMul, Int.reduceEq, Int.reduceLT, Int.reduceLE, Int.reduceNe, Int.reduceBEq, Int.reduceToNat, ↓reduceIte, f5, f7, f42, f43, f44, lp, l9, l10, ldK_agg, i0, i1, Nat.zero_mul, Nat.one_mul, dec_ne_self]
        refine (dead_log hlogB (by omega) A B B).mono ?_
        rintro r H3 ⟨rfl, rfl⟩
        simp -implicitDefEqProofs only [go_sem, Nat.reduceEqDiff, Nat.reduceLT, Nat.reduceAdd, Nat.reduceMul, Int.reduceEq, Int.reduceLT, Int.reduceLE, Int.reduceNe, Int.reduceBEq, Int.reduceToNat, ↓reduceIte, f5, f7, f42, f43, f44, lp, l9, l10, ldK_agg, i0, i1, Nat.zero_mul, Nat.one_mul, dec_ne_self]
        refine (rdead_ref hrefB (by omega) hA hB B).mono ?_
        rintro r HB ⟨rfl, rfl⟩
        simp -implicitDefEqProofs only [go_sem, Nat.reduceEqDiff, Nat.reduceLT, Nat.reduceAdd, Nat.reduceMul, Int.reduceEq, Int.reduceLT, Int.reduceLE, Int.reduceNe, Int.reduceBEq, Int.reduceToNat, ↓reduceIte, f5, f7, f42, f43, f44, lp, l9, l10, ldK_agg, i0, i1, Nat.zero_mul, Nat.one_mul, dec_ne_self, hss]
        rw [← hss]
        refine AC.loop (SplJ w0 H0 p n hz k b9 b10 A B (.slice (some ab) n c) ss zs.length) (n := zs.length) ⟨0, by omega, by simp -implicitDefEqProofs only [go_sem, Nat.reduceEqDiff, Nat.reduceLT, Nat.reduceAdd, Nat.reduceMul, Int.reduceEq, Int.reduceLT, Int.reduceLE, Int.reduceNe, Int.reduceBEq, Int.reduceToNat, ↓reduceIte, f5], by simp -implicitDefEqProofs only [go_sem, Nat.reduceEqDiff, Nat.reduceLT, Nat.reduceAdd, Nat.reduceMul, Int.reduceEq, Int.reduceLT, Int.reduceLE, Int.reduceNe, Int.reduceBEq, Int.reduceToNat, ↓reduceIte, f7], by simp -implicitDefEqProofs only [go_sem, Nat.reduceEqDiff, Nat.reduceLT, Nat.reduceAdd, Nat.reduceMul, Int.reduceEq, Int.reduceLT, Int.reduceLE, Int.reduceNe, Int.reduceBEq, Int.reduceToNat, ↓reduceIte], by simp -implicitDefEqProofs only [go_sem, Nat.reduceEqDiff, Nat.reduceLT, Nat.reduceAdd, Nat.reduceMul, Int.reduceEq, Int.reduceLT, Int.reduceLE, Int.reduceNe, Int.reduceBEq, Int.reduceToNat, ↓reduceIte], by simp -implicitDefEqProofs only [go_sem, Nat.reduceEqDiff, Nat.reduceLT, Nat.reduceAdd, Nat.reduceMul, Int.reduceEq, Int.reduceLT, Int.reduceLE, Int.reduceNe, Int.reduceBEq, Int.reduceToNat, ↓reduceIte, f42], by simp -implicitDefEqProofs only [go_sem, Nat.reduceEqDiff, Nat.reduceLT, Nat.reduceAdd, Nat.reduceMul, Int.reduceEq, Int.reduceLT, Int.reduceLE, Int.reduceNe, Int.reduceBEq, Int.reduceToNat, ↓reduceIte, f43], by simp -implicitDefEqProofs only [go_sem, Nat.reduceEqDiff, Nat.reduceLT, Nat.reduceAdd, Nat.reduceMul, Int.reduceEq, Int.reduceLT, Int.reduceLE, Int.reduceNe, Int.reduceBEq, Int.reduceToNat, ↓reduceIte, f44], by simp -implicitDefEqProofs only [go_sem, Nat.reduceEqDiff, Nat.reduceLT, Nat.reduceAdd, Nat.reduceMul, Int.reduceEq, Int.reduceLT, Int.reduceLE, Int.reduceNe, Int.reduceBEq, Int.reduceToNat, ↓reduceIte, hss], by simp -implicitDefEqProofs only [go_sem, Nat.reduceEqDiff, Nat.reduceLT, Nat.reduceAdd, Nat.reduceMul, Int.reduceEq, Int.reduceLT, Int.reduceLE, Int.reduceNe, Int.reduceBEq, Int.reduceToNat, ↓reduceIte], by simp -implicitDefEqProofs only [go_sem, Nat.reduceEqDiff, Nat.reduceLT, Nat.reduceAdd, Nat.reduceMul, Int.reduceEq, Int.reduceLT, Int.reduceLE, Int.reduceNe, Int.reduceBEq, Int.reduceToNat, ↓reduceIte], h9B, h10', s0B, hhiB⟩ ?_
        clear hhiB hplB hlogB hrefB l9 l10 lp h9B h10' s0B f5 f7 f42 f43 f44 SB TB hss sa sc
        rintro m2 F H4 ⟨j, hj, f5, f7, f9, f10, f42, f43, f44, f103, f104, f105, h9, h10, s4, hhi4⟩
        by_cases cj : j < zs.length
        · have d1 : decide ((j : Int) < (zs.length : Int)) = true := by simp; omega
          have d2 : IntKind.i64.wrap ((j : Int) + 1) = (j + 1 : Nat) := by rw [i64_in] <;> omega
          have d3 : decide ((0 : Int) ≤ (j : Int)) = true := by simp
          have hzj : zs[j]? = some zs[j] := by simp [cj]
          generalize zs[j] = z at hzj
          have hpl4 := hpl.sub s4
          obtain ⟨g1, cap1, hv1, hl1⟩ := hpl4.2.2.1.at w0 rfl (fun z _ => z.cs_len) hzj
          have hl1' : ldCells w0 H4 ⟨g1, j * 4, none⟩ 0 4 = some [.int .u64 (z.own : Int), .int .u64 (z.xmin : Int), .int .u64 (z.xmax : Int), z.v] := hl1
          rw [hv1] at f103
          obtain ⟨q1, q2, q3, q4, q5, q6⟩ := hpl4.2.2.2.2.1 z (List.mem_of_getElem? hzj)
          have hc1 : cell1 z.v = true := by obtain ⟨u1, u2, u⟩ := q1.slice; rw [u]; exact cell1_slice
          have hzl : z.run.length < 10000000000000 := by
            have := others_len z.own (runs 1 z.old); have := runsK_len 1 z.old z.old.length
            unfold runs at *; unfold Shot.run runs; omega
          simp -implicitDefEqProofs only [go_sem, Nat.reduceEqDiff, Nat.reduceLT, Nat.reduceAdd, Nat.reduceMul, Int.reduceEq, Int.reduceLT, Int.reduceLE, Int.reduceNe, Int.reduceBEq, Int.reduceToNat, ↓reduceIte, f5, f7, f9, f10, f42, f43, f44, f103, f104, f105, d1, d3, hl1', ldK_agg]
          refine newK_of ?_
          intro b12 H5 hb12 hn12 h12 s12 g12
          simp -implicitDefEqProofs only [go_sem, Nat.reduceEqDiff, Nat.reduceLT, Nat.reduceAdd, Nat.reduceMul, Int.reduceEq, Int.reduceLT, Int.reduceLE, Int.reduceNe, Int.reduceBEq, Int.reduceToNat, ↓reduceIte, f5, f7, f9, f10, f42, f43, f44, f103, f104, f105]
          refine store_all h12 rfl (by simp [cell1_int, hc1]) rfl ?_
          intro H6 h12' g12'
          have s6 : Sub H4 H6 := Sub.ne2 hn12 g12 g12'
          have hhi6 := (hhi4.ne hb12 g12).ne hb12 g12'
          have h9' := s6 _ _ h9
          have h10' := s6 _ _ h10
          have s06 := s4.trans s6
          clear h12 s12 g12 g12' hhi4 hn12 s4 hpl4 hl1 hl1' q1 q2
          have hpl6 := hpl.sub s06
          have lp := ld_own w0 hpl6.1
          have l9 := ld_own w0 h9'
          have l10 := ldc w0 h10' 6
          have l12 := ldc w0 h12' 4
          obtain ⟨SB, hlog6⟩ := hpl6.2.1.log
          obtain ⟨TB, href6⟩ := hpl6.2.1.ref
          obtain ⟨g2, cap2, hv2, hl2⟩ := hpl6.2.2.2.1.at w0 rfl (fun z _ => z.ct_len) hzj
          have hl2' : ldCells w0 H6 ⟨g2, j * 3, none⟩ 0 3 = some [.int .u64 (z.own : Int), .int .u64 (z.xmax : Int), z.t] := hl2
          obtain ⟨q1, q2, _⟩ := hpl6.2.2.2.2.1 z (List.mem_of_getElem? hzj)
          have i0 : (0 : Int).toNat = 0 := rfl
          have dn : ∀ x : Int, (!decide (x = x)) = false := fun x => by simp
          simp -implicitDefEqProofs only [go_sem, Nat.reduceEqDiff, Nat.reduceLT, Nat.reduceAdd, Nat.reduceMul, Int.reduceEq, Int.reduceLT, Int.reduceLE, Int.reduceNe, Int.reduceBEq, Int.reduceToNat, ↓reduceIte, f5, f7, f9, f10, f42, f43, f44, f103, f104, f105]
          refine vdraw_t [⟨0, .p, [], []⟩, ⟨1, .p, [], []⟩, ⟨2, .p, [], []⟩, ⟨3, .n, [], []⟩, ⟨4, .n, [], []⟩, ⟨5, .p, [], []⟩, ⟨6, .n, [], []⟩, ⟨8, .p, [], []⟩, ⟨9, .p, [], []⟩, ⟨10, .p, [], []⟩, ⟨11, .n, [], []⟩, ⟨12, .p, [], []⟩, ⟨13, .p, [], []⟩, ⟨14, .p, [], []⟩, ⟨15, .n, [], []⟩, ⟨16, .p, [], []⟩, ⟨17, .p, [], []⟩, ⟨18, .n, [], []⟩, ⟨19, .p, [], []⟩, ⟨20, .n, [], []⟩, ⟨7, .c, [11, 15, 18, 20], []⟩, ⟨21, .c, [], []⟩, ⟨22, .p, [], []⟩, ⟨23, .p, [], []⟩, ⟨24, .p, [], []⟩, ⟨25, .p, [], []⟩, ⟨26, .p, [], []⟩, ⟨27, .n, [], []⟩, ⟨28, .n, [], []⟩, ⟨29, .n, [], []⟩, ⟨31, .p, [], []⟩, ⟨32, .p, [], []⟩, ⟨33, .p, [], []⟩, ⟨34, .n, [], []⟩, ⟨35, .p, [], []⟩, ⟨36, .p, [], []⟩, ⟨37, .p, [], []⟩, ⟨38, .n, [], []⟩, ⟨39, .p, [], []⟩, ⟨40, .p, [], []⟩, ⟨41, .n, [], []⟩, ⟨42, .n, [], []⟩, ⟨30, .c, [34, 38, 41, 42], []⟩, ⟨43, .c, [], []⟩, ⟨44, .p, [], []⟩, ⟨45, .p, [], []⟩, ⟨46, .p, [], []⟩, ⟨47, .p, [], []⟩, ⟨48, .p, [], []⟩, ⟨49, .p, [], []⟩, ⟨50, .n, [], []⟩, ⟨51, .n, [], []⟩, ⟨52, .n, [], []⟩, ⟨54, .p, [], []⟩, ⟨55, .p, [], []⟩, ⟨56, .p, [], []⟩, ⟨57, .n, [], []⟩, ⟨58, .p, [], []⟩, ⟨59, .p, [], []⟩, ⟨60, .p, [], []⟩, ⟨61, .n, [], []⟩, ⟨62, .p, [], []⟩, ⟨63, .p, [], []⟩, ⟨64, .n, [], []⟩, ⟨65, .n, [], []⟩, ⟨53, .c, [57, 61, 64, 65], []⟩, ⟨66, .c, [], []⟩, ⟨67, .p, [], []⟩, ⟨68, .p, [], []⟩] [0, 1, 3, 7, 0, 0, 32, 127, 0, 256, 768, 1792, 0, 4096, 12288, 28672, 0, 126976, 258048, 0, 524288, 2097151, 4194303, 8388607, 16777215, 33554431, 67108863, 134217727, 16777215, 16777215, 1073741823, 16777215, 2164260863, 6459228159, 15049162751, 16777215, 34376515583, 103095992319, 240534945791, 16777215, 1065168666623, 2164680294399, 16777215, 8796093022207, 17592186044415, 35184372088831, 70368744177663, 140737488355327, 281474976710655, 562949953421311, 1125899906842623, 140737488355327, 140737488355327, 9007199254740991, 140737488355327, 18155135997837311, 54183933016801279, 126241527054729215, 140737488355327, 288371113640067071, 864831865943490559, 2017753370550337535, 140737488355327, 8935282398191419391, 18158654435046195199, 140737488355327, 73786976294838206463, 147573952589676412927, 295147905179352825855] mixed (by kernel_rfl) ?_
          simp -implicitDefEqProofs only [go_sem, Nat.reduceEqDiff, Nat.reduceLT, Nat.reduceAdd, Nat.reduceMul, Int.reduceEq, Int.reduceLT, Int.reduceLE, Int.reduceNe, Int.reduceBEq, Int.reduceToNat, ↓reduceIte, f5, f7, f9, f10, f42, f43, f44, f103, f104, f105, lp, l9, l10, l12, hv2, hl2', ldK_agg, i0, d1, d3, Nat.zero_mul, Nat.one_mul, List.append_eq, List.cons_append, List.nil_append]
          refine (sees_log hlog6 (by omega) q1 hzl A).mono ?_
          rintro r H3 ⟨rfl, rfl⟩
          simp -implicitDefEqProofs only [go_sem, Nat.reduceEqDiff, Nat.reduceLT, Nat.reduceAdd, Nat.reduceMul, Int.reduceEq, Int.reduceLT, Int.reduceLE, Int.reduceNe, Int.reduceBEq, Int.reduceToNat, ↓reduceIte, f5, f7, f9, f10, f42, f43, f44, f103, f104, f105, lp, l9, l10, l12, hv2, hl2', ldK_agg, i0, d1, d3, Nat.zero_mul, Nat.one_mul]
          refine (rsees_ref href6 (by omega) q2 hzl hA).mono ?_
          rintro r H3 ⟨rfl, rfl⟩
          simp -implicitDefEqProofs only [go_sem, Nat.reduceEqDiff, Nat.reduceLT, Nat.reduceAdd, Nat.reduceMul, Int.reduceEq, Int.reduceLT, Int.reduceLE, Int.reduceNe, Int.reduceBEq, Int.reduceToNat, ↓reduceIte, f5, f7, f9, f10, f42, f43, f44, f103, f104, f105, lp, l9, l10, l12, hv2, hl2', ldK_agg, i0, d1, d3, Nat.zero_mul, Nat.one_mul, dec_ne_self]
          refine (vis_log hlog6 (by omega) q1 hzl A B).mono ?_
          rintro r H3 ⟨rfl, rfl⟩
          simp -implicitDefEqProofs only [go_sem, Nat.reduceEqDiff, Nat.reduceLT, Nat.reduceAdd, Nat.reduceMul, Int.reduceEq, Int.reduceLT, Int.reduceLE, Int.reduceNe, Int.reduceBEq, Int.reduceToNat, ↓reduceIte, f5, f7, f9, f10, f42, f43, f44, f103, f104, f105, lp, l9, l10, l12, hv2, hl2', ldK_agg, i0, d1, d3, Nat.zero_mul, Nat.one_mul, dec_ne_self]
          refine (rvis_ref href6 (by omega) q2 hzl hA hB).mono ?_
          rintro r H3 ⟨rfl, rfl⟩
          simp -implicitDefEqProofs only [go_sem, Nat.reduceEqDiff, Nat.reduceLT, Nat.reduceAdd, Nat.reduceMul, Int.reduceEq, Int.reduceLT, Int.reduceLE, Int.reduceNe, Int.reduceBEq, Int.reduceToNat, ↓reduceIte, f5, f7, f9, f10, f42, f43, f44, f103, f104, f105, lp, l9, l10, l12, hv2, hl2', ldK_agg, i0, d1, d3, Nat.zero_mul, Nat.one_mul, dec_ne_self]
          refine (free_log hlog6 (by omega) q1 hzl A B).mono ?_
          rintro r H3 ⟨rfl, rfl⟩
          simp -implicitDefEqProofs only [go_sem, Nat.reduceEqDiff, Nat.reduceLT, Nat.reduceAdd, Nat.reduceMul, Int.reduceEq, Int.reduceLT, Int.reduceLE, Int.reduceNe, Int.reduceBEq, Int.reduceToNat, ↓reduceIte, f5, f7, f9, f10, f42, f43, f44, f103, f104, f105, lp, l9, l10, l12, hv2, hl2', ldK_agg, i0, d1, d3, Nat.zero_mul, Nat.one_mul, dec_ne_self]
          refine (rfree_ref href6 (by omega) q2 hzl hA hB).mono ?_
          rintro r H3 ⟨rfl, rfl⟩
          simp -implicitDefEqProofs only [go_sem, Nat.reduceEqDiff, Nat.reduceLT, Nat.reduceAdd, Nat.reduceMul, Int.reduceEq, Int.reduceLT, Int.reduceLE, Int.reduceNe, Int.reduceBEq, Int.reduceToNat, ↓reduceIte, f5, f7, f9, f10, f42, f43, f44, f103, f104, f105, lp, l9, l10, l12, hv2, hl2', ldK_agg, i0, d1, d2, d3, Nat.zero_mul, Nat.one_mul, dn]
          exact ⟨m2 - 1, by omega, j + 1, by omega, by simp -implicitDefEqProofs only [go_sem, Nat.reduceEqDiff, Nat.reduceLT, Nat.reduceAdd, Nat.reduceMul, Int.reduceEq, Int.reduceLT, Int.reduceLE, Int.reduceNe, Int.reduceBEq, Int.reduceToNat, ↓reduceIte, f5], by simp -implicitDefEqProofs only [go_sem, Nat.reduceEqDiff, Nat.reduceLT, Nat.reduceAdd, Nat.reduceMul, Int.reduceEq, Int.reduceLT, Int.reduceLE, Int.reduceNe, Int.reduceBEq, Int.reduceToNat, ↓reduceIte, f7], by simp -implicitDefEqProofs only [go_sem, Nat.reduceEqDiff, Nat.reduceLT, Nat.reduceAdd, Nat.reduceMul, Int.reduceEq, Int.reduceLT, Int.reduceLE, Int.reduceNe, Int.reduceBEq, Int.reduceToNat, ↓reduceIte, f9], by simp -implicitDefEqProofs only [go_sem, Nat.reduceEqDiff, Nat.reduceLT, Nat.reduceAdd, Nat.reduceMul, Int.reduceEq, Int.reduceLT, Int.reduceLE, Int.reduceNe, Int.reduceBEq, Int.reduceToNat, ↓reduceIte, f10], by simp -implicitDefEqProofs only [go_sem, Nat.reduceEqDiff, Nat.reduceLT, Nat.reduceAdd, Nat.reduceMul, Int.reduceEq, Int.reduceLT, Int.reduceLE, Int.reduceNe, Int.reduceBEq, Int.reduceToNat, ↓reduceIte, f42], by simp -implicitDefEqProofs only [go_sem, Nat.reduceEqDiff, Nat.reduceLT, Nat.reduceAdd, Nat.reduceMul, Int.reduceEq, Int.reduceLT, Int.reduceLE, Int.reduceNe, Int.reduceBEq, Int.reduceToNat, ↓reduceIte, f43], by simp -implicitDefEqProofs only [go_sem, Nat.reduceEqDiff, Nat.reduceLT, Nat.reduceAdd, Nat.reduceMul, Int.reduceEq, Int.reduceLT, Int.reduceLE, Int.reduceNe, Int.reduceBEq, Int.reduceToNat, ↓reduceIte, f44], by simp -implicitDefEqProofs only [go_sem, Nat.reduceEqDiff, Nat.reduceLT, Nat.reduceAdd, Nat.reduceMul, Int.reduceEq, Int.reduceLT, Int.reduceLE, Int.reduceNe, Int.reduceBEq, Int.reduceToNat, ↓reduceIte, f103, hv1], by simp -implicitDefEqProofs only [go_sem, Nat.reduceEqDiff, Nat.reduceLT, Nat.reduceAdd, Nat.reduceMul, Int.reduceEq, Int.reduceLT, Int.reduceLE, Int.reduceNe, Int.reduceBEq, Int.reduceToNat, ↓reduceIte, f104], by simp -implicitDefEqProofs only [go_sem, Nat.reduceEqDiff, Nat.reduceLT, Nat.reduceAdd, Nat.reduceMul, Int.reduceEq, Int.reduceLT, Int.reduceLE, Int.reduceNe, Int.reduceBEq, Int.reduceToNat, ↓reduceIte], h9', h10', s06, hhi6⟩
        · have d1 : decide ((j : Int) < (zs.length : Int)) = false := by simp; omega
          have d2 : IntKind.i64.wrap ((k : Int) + 1) = (k + 1 : Nat) := by rw [i64_in] <;> omega
          simp -implicitDefEqProofs only [go_sem, Nat.reduceEqDiff, Nat.reduceLT, Nat.reduceAdd, Nat.reduceMul, Int.reduceEq, Int.reduceLT, Int.reduceLE, Int.reduceNe, Int.reduceBEq, Int.reduceToNat, ↓reduceIte, f5, f7, f9, f10, f42, f43, f44, f103, f104, f105, d1, d2]
          exact ⟨m - 1, by omega, k + 1, by omega, by simp -implicitDefEqProofs only [go_sem, Nat.reduceEqDiff, Nat.reduceLT, Nat.reduceAdd, Nat.reduceMul, Int.reduceEq, Int.reduceLT, Int.reduceLE, Int.reduceNe, Int.reduceBEq, Int.reduceToNat, ↓reduceIte, f5], by simp -implicitDefEqProofs only [go_sem, Nat.reduceEqDiff, Nat.reduceLT, Nat.reduceAdd, Nat.reduceMul, Int.reduceEq, Int.reduceLT, Int.reduceLE, Int.reduceNe, Int.reduceBEq, Int.reduceToNat, ↓reduceIte, f7], by simp -implicitDefEqProofs only [go_sem, Nat.reduceEqDiff, Nat.reduceLT, Nat.reduceAdd, Nat.reduceMul, Int.reduceEq, Int.reduceLT, Int.reduceLE, Int.reduceNe, Int.reduceBEq, Int.reduceToNat, ↓reduceIte, f42], by simp -implicitDefEqProofs only [go_sem, Nat.reduceEqDiff, Nat.reduceLT, Nat.reduceAdd, Nat.reduceMul, Int.reduceEq, Int.reduceLT, Int.reduceLE, Int.reduceNe, Int.reduceBEq, Int.reduceToNat, ↓reduceIte, f43], by simp -implicitDefEqProofs only [go_sem, Nat.reduceEqDiff, Nat.reduceLT, Nat.reduceAdd, Nat.reduceMul, Int.reduceEq, Int.reduceLT, Int.reduceLE, Int.reduceNe, Int.reduceBEq, Int.reduceToNat, ↓reduceIte], s4, hhi4⟩
    · have d6 : decide ((20 : Int) ≤ (k : Int)) = true := by simp; omega
      simp -implicitDefEqProofs only [go_sem, Nat.reduceEqDiff, Nat.reduceLT, Nat.reduceAdd, Nat.reduceMul, Int.reduceEq, Int.reduceLT, Int.reduceLE, Int.reduceNe, Int.reduceBEq, Int.reduceToNat, ↓reduceIte, f5, f7, f42, f43, f44, d6]
  · have d1 : decide ((k : Int) < (n : Int)) = false := by simp; omega
    simp -implicitDefEqProofs only [go_sem, Nat.reduceEqDiff, Nat.reduceLT, Nat.reduceAdd, Nat.reduceMul, Int.reduceEq, Int.reduceLT, Int.reduceLE, Int.reduceNe, Int.reduceBEq, Int.reduceToNat, ↓reduceIte, f5, f7, f42, f43, f44, d1]
end Go.Proofs.Ytmpepacfnckadaa
