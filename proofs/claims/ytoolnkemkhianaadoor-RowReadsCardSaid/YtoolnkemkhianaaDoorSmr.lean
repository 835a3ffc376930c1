/-
  Two rows of values alike: the document's, walked.
  Conditions: as each theorem states them.
-/
import Derived.Test.YtoolnkemkhianaaDoorKjn
import Derived.Test.YtoolnkemkhianaaDoorOrd
namespace Go.Proofs.YtoolnkemkhianaaDoor
open Go Go.RowKit Go.Proofs.YtoolnkemkhianaaDoorW
set_option maxRecDepth 100000
set_option maxHeartbeats 1000000
set_option linter.unusedSimpArgs false
set_option linter.unusedVariables false
def sameR : List Va → List Va → Bool
  | [], [] => true
  | x :: a, y :: b => (decide (x.k = y.k) && sameVs x y) && sameR a b
  | _, _ => false
theorem sameR_len : ∀ {a b : List Va}, a.length ≠ b.length → sameR a b = false
  | [], [], h => absurd rfl h
  | x :: a, y :: b, h => by
    unfold sameR
    rw [sameR_len (by simpa using h)]; simp
  | [], _ :: _, _ => rfl
  | _ :: _, [], _ => rfl
theorem sameR_refl : ∀ a : List Va, sameR a a = true
  | [] => rfl
  | x :: a => by unfold sameR; rw [same_refl, sameR_refl a]; simp
theorem sameR_eq : ∀ {a b : List Va}, a.all rightB = true → b.all rightB = true → sameR a b = true → a = b
  | [], [], _, _, _ => rfl
  | x :: a, y :: b, ha, hb, h => by
    rw [List.all_cons, Bool.and_eq_true] at ha hb
    unfold sameR at h
    rw [Bool.and_eq_true, Bool.and_eq_true] at h
    rw [same_eq ha.1 hb.1 h.1.2, sameR_eq ha.2 hb.2 h.2]
  | [], _ :: _, _, _, h => by cases h
  | _ :: _, [], _, _, h => by cases h
theorem sameR_at {a b : List Va} {k : Nat} {x y : Va} (hx : a[k]? = some x) (hy : b[k]? = some y) : sameR (a.drop k) (b.drop k) = ((decide (x.k = y.k) && sameVs x y) && sameR (a.drop (k + 1)) (b.drop (k + 1))) := by
  have e : ∀ {l : List Va} {z : Va}, l[k]? = some z → l.drop k = z :: l.drop (k + 1) := fun {l z} h => by
    have hlt := (List.getElem?_eq_some_iff.1 h).1
    rw [List.drop_eq_getElem_cons hlt]
    rw [List.getElem?_eq_getElem hlt] at h
    rw [Option.some.inj h]
  rw [e hx, e hy]
  rfl
section
variable {w0 : World} {H Hb : Hp}
def SrI (H0 : Hp) (u v : Value) (a b : List Va) (m : Nat) (F : Fr) (H : Hp) : Prop :=
  ∃ k, k + m = a.length ∧ F 0 = u ∧ F 1 = v ∧ F 12 = .int .i64 (a.length : Int) ∧ F 13 = .int .i64 (k : Int) ∧ sameR (a.drop k) (b.drop k) = sameR a b ∧ H = H0
theorem samerow_ok {u v : Value} {a b : List Va} (hu : Vs w0 H u a) (hv : Vs w0 H v b) (hn : a.length < 1000000000) : ACalls Tryd.prog w0 29 #[u, v] H fun r H' => r = .bool (sameR a b) ∧ H' = H := by
  obtain ⟨ua, uc, eu, _⟩ := Rd.slice hu
  obtain ⟨va', vc', ev, _⟩ := Rd.slice hv
  subst eu ev
  refine acalls_of Tryd.func29 rfl Tryd.ntmps29 r29 (by simp) ?_
  by_cases hl : a.length = b.length
  · have d1 : decide ((a.length : Int) = (b.length : Int)) = true := decide_eq_true (by omega)
    simp -implicitDefEqProofs only [go_sem, Nat.reduceEqDiff, Nat.reduceLT, Nat.reduceAdd, Nat.reduceMul, Int.reduceEq, Int.reduceLT, Int.reduceLE, Int.reduceNe, Int.reduceBEq, Int.reduceToNat, ↓reduceIte, d1]
    refine AC.loop (SrI H (.slice ua a.length uc) (.slice va' b.length vc') a b) (n := a.length) ⟨0, by omega, by simp -implicitDefEqProofs only [go_sem, Nat.reduceEqDiff, Nat.reduceLT, Nat.reduceAdd, Nat.reduceMul, Int.reduceEq, Int.reduceLT, Int.reduceLE, Int.reduceNe, Int.reduceBEq, Int.reduceToNat, ↓reduceIte], by simp -implicitDefEqProofs only [go_sem, Nat.reduceEqDiff, Nat.reduceLT, Nat.reduceAdd, Nat.reduceMul, Int.reduceEq, Int.reduceLT, Int.reduceLE, Int.reduceNe, Int.reduceBEq, Int.reduceToNat, ↓reduceIte], by simp -implicitDefEqProofs only [go_sem, Nat.reduceEqDiff, Nat.reduceLT, Nat.reduceAdd, Nat.reduceMul, Int.reduceEq, Int.reduceLT, Int.reduceLE, Int.reduceNe, Int.reduceBEq, Int.reduceToNat, ↓reduceIte], by simp -implicitDefEqProofs only [go_sem, Nat.reduceEqDiff, Nat.reduceLT, Nat.reduceAdd, Nat.reduceMul, Int.reduceEq, Int.reduceLT, Int.reduceLE, Int.reduceNe, Int.reduceBEq, Int.reduceToNat, ↓reduceIte] <;> rfl, rfl, rfl⟩ ?_
    rintro m F H1 ⟨k, hk, f0, f1, f12, f13, hr, rfl⟩
    by_cases ck : k < a.length
    · have d1 : decide ((k : Int) < (a.length : Int)) = true := decide_eq_true (by omega)
      have db : decide ((k : Int) < (b.length : Int)) = true := decide_eq_true (by omega)
      have d0 : decide ((0 : Int) ≤ (k : Int)) = true := decide_eq_true (by omega)
      have d2 : IntKind.i64.wrap ((k : Int) + 1) = (k + 1 : Nat) := by rw [i64_in] <;> omega
      obtain ⟨x, hx⟩ : ∃ x, a[k]? = some x := ⟨_, List.getElem?_eq_getElem (by omega)⟩
      obtain ⟨y, hy⟩ : ∃ y, b[k]? = some y := ⟨_, List.getElem?_eq_getElem (by omega)⟩
      rw [sameR_at hx hy] at hr
      obtain ⟨ad, c, ea, la⟩ := hu.at hx
      cases ea
      obtain ⟨bd, c, eb, lb⟩ := hv.at hy
      cases eb
      have la0 : ld w0 H1 (ad.add (k * 4)) = some (.int .u8 (x.k : Int)) := ldCells_get la 0 (by omega)
      have lb0 : ld w0 H1 (bd.add (k * 4)) = some (.int .u8 (y.k : Int)) := ldCells_get lb 0 (by omega)
      have dk : decide ((x.k : Int) = (y.k : Int)) = decide (x.k = y.k) := by
        by_cases c : x.k = y.k
        · rw [decide_eq_true c, decide_eq_true (by omega)]
        · rw [decide_eq_false c, decide_eq_false (by omega)]
      simp -implicitDefEqProofs only [go_sem, Nat.reduceEqDiff, Nat.reduceLT, Nat.reduceAdd, Nat.reduceMul, Int.reduceEq, Int.reduceLT, Int.reduceLE, Int.reduceNe, Int.reduceBEq, Int.reduceToNat, ↓reduceIte, f0, f1, f12, f13, d1]
      refine vdraw_t [⟨0, .p, [], []⟩, ⟨1, .p, [], []⟩, ⟨2, .p, [], []⟩, ⟨3, .p, [], []⟩, ⟨4, .n, [], []⟩, ⟨5, .p, [], []⟩, ⟨6, .p, [], []⟩, ⟨7, .p, [], []⟩, ⟨8, .p, [], []⟩, ⟨9, .n, [], []⟩, ⟨10, .p, [], []⟩, ⟨11, .p, [], []⟩, ⟨12, .p, [], []⟩, ⟨13, .p, [], []⟩, ⟨14, .p, [], []⟩, ⟨15, .n, [], []⟩, ⟨16, .p, [], []⟩, ⟨17, .p, [], []⟩, ⟨18, .p, [], []⟩, ⟨19, .n, [], []⟩, ⟨20, .c, [], []⟩, ⟨21, .p, [], []⟩, ⟨22, .p, [], []⟩] [0, 0, 3, 7, 15, 0, 0, 96, 224, 480, 1023, 2047, 4095, 4095, 16383, 32767, 4095, 4095, 200703, 462847, 1048575, 2097151, 4194303] mixed (by kernel_rfl) ?_
      cases ck2 : decide (x.k = y.k) with
      | false =>
        rw [ck2] at dk hr
        simp -implicitDefEqProofs only [go_sem, Nat.reduceEqDiff, Nat.reduceLT, Nat.reduceAdd, Nat.reduceMul, Int.reduceEq, Int.reduceLT, Int.reduceLE, Int.reduceNe, Int.reduceBEq, Int.reduceToNat, ↓reduceIte, f0, f1, f12, f13, d0, d1, db, la, lb, la0, lb0, dk]
        rw [← hr]; simp
      | true =>
        rw [ck2] at dk hr
        simp -implicitDefEqProofs only [go_sem, Nat.reduceEqDiff, Nat.reduceLT, Nat.reduceAdd, Nat.reduceMul, Int.reduceEq, Int.reduceLT, Int.reduceLE, Int.reduceNe, Int.reduceBEq, Int.reduceToNat, ↓reduceIte, f0, f1, f12, f13, d0, d1, db, la, lb, la0, lb0, dk]
        refine same2_ok.mono ?_
        rintro r H4 ⟨rfl, rfl⟩
        cases hs : sameVs x y with
        | false =>
          rw [hs] at hr
          simp -implicitDefEqProofs only [go_sem, Nat.reduceEqDiff, Nat.reduceLT, Nat.reduceAdd, Nat.reduceMul, Int.reduceEq, Int.reduceLT, Int.reduceLE, Int.reduceNe, Int.reduceBEq, Int.reduceToNat, ↓reduceIte, f0, f1, f12, f13, la, lb, la0, lb0]
          rw [← hr]; simp
        | true =>
          rw [hs] at hr
          simp -implicitDefEqProofs only [go_sem, Nat.reduceEqDiff, Nat.reduceLT, Nat.reduceAdd, Nat.reduceMul, Int.reduceEq, Int.reduceLT, Int.reduceLE, Int.reduceNe, Int.reduceBEq, Int.reduceToNat, ↓reduceIte, f0, f1, f12, f13, d2, la, lb, la0, lb0]
          exact ⟨m - 1, by omega, k + 1, by omega, by simp -implicitDefEqProofs only [go_sem, Nat.reduceEqDiff, Nat.reduceLT, Nat.reduceAdd, Nat.reduceMul, Int.reduceEq, Int.reduceLT, Int.reduceLE, Int.reduceNe, Int.reduceBEq, Int.reduceToNat, ↓reduceIte, f0], by simp -implicitDefEqProofs only [go_sem, Nat.reduceEqDiff, Nat.reduceLT, Nat.reduceAdd, Nat.reduceMul, Int.reduceEq, Int.reduceLT, Int.reduceLE, Int.reduceNe, Int.reduceBEq, Int.reduceToNat, ↓reduceIte, f1], by simp -implicitDefEqProofs only [go_sem, Nat.reduceEqDiff, Nat.reduceLT, Nat.reduceAdd, Nat.reduceMul, Int.reduceEq, Int.reduceLT, Int.reduceLE, Int.reduceNe, Int.reduceBEq, Int.reduceToNat, ↓reduceIte, f12], by simp -implicitDefEqProofs only [go_sem, Nat.reduceEqDiff, Nat.reduceLT, Nat.reduceAdd, Nat.reduceMul, Int.reduceEq, Int.reduceLT, Int.reduceLE, Int.reduceNe, Int.reduceBEq, Int.reduceToNat, ↓reduceIte], by rw [← hr]; simp, rfl⟩
    · have d1 : decide ((k : Int) < (a.length : Int)) = false := decide_eq_false (by omega)
      simp -implicitDefEqProofs only [go_sem, Nat.reduceEqDiff, Nat.reduceLT, Nat.reduceAdd, Nat.reduceMul, Int.reduceEq, Int.reduceLT, Int.reduceLE, Int.reduceNe, Int.reduceBEq, Int.reduceToNat, ↓reduceIte, f0, f1, f12, f13, d1]
      rw [← hr, List.drop_eq_nil_of_le (by omega), List.drop_eq_nil_of_le (by omega)]
      first | rfl | exact ⟨rfl, rfl⟩
  · have d1 : decide ((a.length : Int) = (b.length : Int)) = false := decide_eq_false (by omega)
    rw [sameR_len hl]
    simp -implicitDefEqProofs only [go_sem, Nat.reduceEqDiff, Nat.reduceLT, Nat.reduceAdd, Nat.reduceMul, Int.reduceEq, Int.reduceLT, Int.reduceLE, Int.reduceNe, Int.reduceBEq, Int.reduceToNat, ↓reduceIte, d1]
    first | rfl | exact ⟨rfl, rfl⟩ | skip
end
end Go.Proofs.YtoolnkemkhianaaDoor
