/-
  The law RowKinds, walked.
  Conditions: as each theorem states them.
-/
import Derived.Test.YtoolnkemkhianaaDoorRwb
namespace Go.Proofs.YtoolnkemkhianaaDoor
open Go Go.RowKit Go.Proofs.YtoolnkemkhianaaDoorW
set_option maxRecDepth 100000
set_option maxHeartbeats 1000000
set_option linter.unusedSimpArgs false
set_option linter.unusedVariables false
theorem bsvr (x : Va) : bsCells Tryd.prog 36 1 #[(0, va x)] = some (vc x).toArray := by kernel_rfl
attribute [go_sem] bsvr
section
variable {w0 : World} {H Hb : Hp}
theorem fit_one {kk : UInt8} {x : Va} (h1 : 1 ≤ kk.toNat) (h3 : kk.toNat ≤ 3) : fitN [kk] [x] = if rightB x = false then 3 else if typeOk kk x = false then 8 else 0 := by
  have hk : rightK [kk] = true := by unfold rightK kindOk; simp [h1, h3]
  unfold fitN
  rw [hk]
  cases hr : rightB x with
  | false => simp [hr]
  | true =>
    have hl := encv_len hr
    have e1 : encB [x] = encv x := by simp [encB]
    cases ht : typeOk kk x with
    | false => simp [hr, typesOk, ht]
    | true =>
      rw [e1]
      simp [hr, typesOk, ht]
      omega
theorem rowKinds_law {n : Nat} {x : Va} (ht : Tbl w0) (hn : n < 256) (hx : x.wf) :
    ACalls Tryd.prog w0 11 #[.int .u8 (n : Int), va x] (fun _ => none) fun r H' => r = .bool true ∧ True := by
  refine acalls_of Tryd.func11 rfl Tryd.ntmps11 r11 (by simp) ?_
  simp -implicitDefEqProofs only [go_sem, Nat.reduceEqDiff, Nat.reduceLT, Nat.reduceAdd, Nat.reduceMul, Int.reduceEq, Int.reduceLT, Int.reduceLE, Int.reduceNe, Int.reduceBEq, Int.reduceToNat, ↓reduceIte]
  refine newK_of ?_
  intro b1 H1 hb1 hn1 h1 s1 g1
  have l1 := ldc w0 (l := vc x) h1 4
  have q1 := ld_own w0 (c := (vc x).toArray) h1
  obtain ⟨kk, hkk⟩ : ∃ kk : UInt8, kk = UInt8.ofNat (1 + n % 3) := ⟨_, rfl⟩
  have hkn : kk.toNat = 1 + n % 3 := by rw [hkk]; exact ofNat_lt (by omega)
  have wt : ((n : Int).tmod 3) = ((n % 3 : Nat) : Int) := tmod_nat n 3
  have wk : IntKind.u8.wrap (1 + ((n % 3 : Nat) : Int)) = (kk.toNat : Int) := by rw [hkn, u8_in] <;> omega
  have hfit := fit_one (kk := kk) (x := x) (by omega) (by omega)
  simp -implicitDefEqProofs only [go_sem, Nat.reduceEqDiff, Nat.reduceLT, Nat.reduceAdd, Nat.reduceMul, Int.reduceEq, Int.reduceLT, Int.reduceLE, Int.reduceNe, Int.reduceBEq, Int.reduceToNat, ↓reduceIte]
  refine (awake4_ok ht).mono ?_
  rintro r H ⟨rfl, rfl⟩
  simp -implicitDefEqProofs only [go_sem, Nat.reduceEqDiff, Nat.reduceLT, Nat.reduceAdd, Nat.reduceMul, Int.reduceEq, Int.reduceLT, Int.reduceLE, Int.reduceNe, Int.reduceBEq, Int.reduceToNat, ↓reduceIte, l1]
  refine rright_ok.mono ?_
  rintro r H2 ⟨rfl, rfl⟩
  cases hr : rightB x with
  | false =>
    rw [if_pos hr] at hfit
    simp -implicitDefEqProofs only [go_sem, Nat.reduceEqDiff, Nat.reduceLT, Nat.reduceAdd, Nat.reduceMul, Int.reduceEq, Int.reduceLT, Int.reduceLE, Int.reduceNe, Int.reduceBEq, Int.reduceToNat, ↓reduceIte, wt, wk]
    refine newK_of ?_
    intro b3 H3 hb3 hn3 h3 s3 g3
    have l3 := ldc w0 (l := vc x) (s3 _ _ h1) 4
    simp -implicitDefEqProofs only [go_sem, Nat.reduceEqDiff, Nat.reduceLT, Nat.reduceAdd, Nat.reduceMul, Int.reduceEq, Int.reduceLT, Int.reduceLE, Int.reduceNe, Int.reduceBEq, Int.reduceToNat, ↓reduceIte, l3]
    refine newK_of ?_
    intro b4 H4 hb4 hn4 h4 s4' g4
    have hone : H4 b4 = some (.cells ([x].flatMap vc).toArray 36 (0, 0)) := by rw [h4]; simp
    simp -implicitDefEqProofs only [go_sem, Nat.reduceEqDiff, Nat.reduceLT, Nat.reduceAdd, Nat.reduceMul, Int.reduceEq, Int.reduceLT, Int.reduceLE, Int.reduceNe, Int.reduceBEq, Int.reduceToNat, ↓reduceIte]
    refine (fits_ok (ks := [kk]) (l := [x]) ht ((OwnK.lit (p := [kk]) h3 rfl).sub s4').bt (Vs.lit hone rfl) (by simp) (by simp)).mono ?_
    rintro r H5 ⟨rfl, rfl⟩
    rw [hfit]
    simp -implicitDefEqProofs only [go_sem, Nat.reduceEqDiff, Nat.reduceLT, Nat.reduceAdd, Nat.reduceMul, Int.reduceEq, Int.reduceLT, Int.reduceLE, Int.reduceNe, Int.reduceBEq, Int.reduceToNat, ↓reduceIte]
    first | done | rfl
  | true =>
    rw [if_neg (by rw [hr]; simp)] at hfit
    simp -implicitDefEqProofs only [go_sem, Nat.reduceEqDiff, Nat.reduceLT, Nat.reduceAdd, Nat.reduceMul, Int.reduceEq, Int.reduceLT, Int.reduceLE, Int.reduceNe, Int.reduceBEq, Int.reduceToNat, ↓reduceIte, wt, wk]
    refine newK_of ?_
    intro b3 H3 hb3 hn3 h3 s3 g3
    have l3 := ldc w0 (l := vc x) (s3 _ _ h1) 4
    simp -implicitDefEqProofs only [go_sem, Nat.reduceEqDiff, Nat.reduceLT, Nat.reduceAdd, Nat.reduceMul, Int.reduceEq, Int.reduceLT, Int.reduceLE, Int.reduceNe, Int.reduceBEq, Int.reduceToNat, ↓reduceIte, l3]
    refine newK_of ?_
    intro b4 H4 hb4 hn4 h4 s4' g4
    have hone : H4 b4 = some (.cells ([x].flatMap vc).toArray 36 (0, 0)) := by rw [h4]; simp
    simp -implicitDefEqProofs only [go_sem, Nat.reduceEqDiff, Nat.reduceLT, Nat.reduceAdd, Nat.reduceMul, Int.reduceEq, Int.reduceLT, Int.reduceLE, Int.reduceNe, Int.reduceBEq, Int.reduceToNat, ↓reduceIte]
    refine (fits_ok (ks := [kk]) (l := [x]) ht ((OwnK.lit (p := [kk]) h3 rfl).sub s4').bt (Vs.lit hone rfl) (by simp) (by simp)).mono ?_
    rintro r H5 ⟨rfl, rfl⟩
    have q5 := ld_own w0 (c := (vc x).toArray) (s4' _ _ (s3 _ _ h1))
    by_cases k0 : x.k = 0
    · have d0 : decide ((x.k : Int) = 0) = true := decide_eq_true (by omega)
      rw [if_neg (by unfold typeOk; rw [decide_eq_true k0]; simp)] at hfit
      rw [hfit]
      simp -implicitDefEqProofs only [go_sem, Nat.reduceEqDiff, Nat.reduceLT, Nat.reduceAdd, Nat.reduceMul, Int.reduceEq, Int.reduceLT, Int.reduceLE, Int.reduceNe, Int.reduceBEq, Int.reduceToNat, ↓reduceIte, q5, d0]
      first | done | rfl
    · have d0 : decide ((x.k : Int) = 0) = false := decide_eq_false (by omega)
      by_cases km : x.k = kk.toNat
      · have dm : decide ((x.k : Int) = (kk.toNat : Int)) = true := decide_eq_true (by omega)
        rw [if_neg (by unfold typeOk; rw [decide_eq_true km]; simp)] at hfit
        rw [hfit]
        simp -implicitDefEqProofs only [go_sem, Nat.reduceEqDiff, Nat.reduceLT, Nat.reduceAdd, Nat.reduceMul, Int.reduceEq, Int.reduceLT, Int.reduceLE, Int.reduceNe, Int.reduceBEq, Int.reduceToNat, ↓reduceIte, q5, d0, wt, wk, dm]
        first | done | rfl
      · have dm : decide ((x.k : Int) = (kk.toNat : Int)) = false := decide_eq_false (by omega)
        rw [if_pos (by unfold typeOk; rw [decide_eq_false km, decide_eq_false k0]; rfl)] at hfit
        rw [hfit]
        simp -implicitDefEqProofs only [go_sem, Nat.reduceEqDiff, Nat.reduceLT, Nat.reduceAdd, Nat.reduceMul, Int.reduceEq, Int.reduceLT, Int.reduceLE, Int.reduceNe, Int.reduceBEq, Int.reduceToNat, ↓reduceIte, q5, d0, wt, wk, dm]
        first | done | rfl
end
end Go.Proofs.YtoolnkemkhianaaDoor
