/-
  The law KeyBehind, walked.
  Conditions: as each theorem states them.
-/
import Derived.Test.YtoolnkemkhianaaDoorAk3
import Derived.Test.YtoolnkemkhianaaDoorBhp
namespace Go.Proofs.YtoolnkemkhianaaDoor
open Go Go.RowKit Go.Proofs.YtoolnkemkhianaaDoorW
set_option maxRecDepth 100000
set_option maxHeartbeats 1000000
set_option linter.unusedSimpArgs false
set_option linter.unusedVariables false
theorem u8s_at {p : List UInt8} {k : Nat} {b : UInt8} (h : p[k]? = some b) : (u8s p)[k]? = some (.int .u8 (b.toNat : Int)) := by unfold u8s; rw [List.getElem?_map, h]; rfl
def KhI (H0 : Hp) (e w x t end_ : Value) (p : List UInt8) (m : Nat) (F : Fr) (H : Hp) : Prop :=
  ∃ k, k + m = p.length ∧ F 0 = e ∧ F 1 = w ∧ F 2 = x ∧ F 7 = t ∧ F 8 = end_ ∧ F 9 = .bool ((p.take k).all fun b => b == 255) ∧ F 29 = e ∧ F 30 = .int .i64 (p.length : Int) ∧ F 31 = .int .i64 (k : Int) ∧ H = H0
theorem keyBehind_law {w0 : World} {u v w : Value} {p0 m0 o0 : List UInt8} (ht : Tbl w0) (hu : Bt w0 (fun _ => none) u p0) (hv : Bt w0 (fun _ => none) v m0) (hw : Bt w0 (fun _ => none) w o0) :
    ACalls Tryd.prog w0 3 #[u, v, w] (fun _ => none) fun r H' => r = .bool true ∧ True := by
  refine acalls_of Tryd.func3 rfl Tryd.ntmps3 r3 (by simp) ?_
  simp -implicitDefEqProofs only [go_sem, Nat.reduceEqDiff, Nat.reduceLT, Nat.reduceAdd, Nat.reduceMul, Int.reduceEq, Int.reduceLT, Int.reduceLE, Int.reduceNe, Int.reduceBEq, Int.reduceToNat, ↓reduceIte]
  refine (awake3_ok ht).mono ?_
  rintro r H ⟨rfl, rfl⟩
  simp -implicitDefEqProofs only [go_sem, Nat.reduceEqDiff, Nat.reduceLT, Nat.reduceAdd, Nat.reduceMul, Int.reduceEq, Int.reduceLT, Int.reduceLE, Int.reduceNe, Int.reduceBEq, Int.reduceToNat, ↓reduceIte]
  refine (ACalls.hi (cut_ok (k := 60) hu (by omega))).mono ?_
  rintro r1 H1 ⟨⟨hp, fp, s1⟩, hh1⟩
  simp -implicitDefEqProofs only [go_sem, Nat.reduceEqDiff, Nat.reduceLT, Nat.reduceAdd, Nat.reduceMul, Int.reduceEq, Int.reduceLT, Int.reduceLE, Int.reduceNe, Int.reduceBEq, Int.reduceToNat, ↓reduceIte]
  refine (ACalls.hi (cut_ok (k := 60) (hv.sub s1 hh1) (by omega))).mono ?_
  rintro r2 H2 ⟨⟨hm, fm, s2⟩, hh2⟩
  simp -implicitDefEqProofs only [go_sem, Nat.reduceEqDiff, Nat.reduceLT, Nat.reduceAdd, Nat.reduceMul, Int.reduceEq, Int.reduceLT, Int.reduceLE, Int.reduceNe, Int.reduceBEq, Int.reduceToNat, ↓reduceIte]
  refine (ACalls.hi (cut_ok (k := 60) (hw.sub (s1.trans s2) hh2) (by omega))).mono ?_
  rintro r3 H3 ⟨⟨ho, fo, s3⟩, hh3⟩
  have hpl : (p0.take 60).length ≤ 60 := by rw [List.length_take]; omega
  have hml : (m0.take 60).length ≤ 60 := by rw [List.length_take]; omega
  have hol : (o0.take 60).length ≤ 60 := by rw [List.length_take]; omega
  generalize p0.take 60 = p at hp hpl
  generalize m0.take 60 = mo at hm hml
  generalize o0.take 60 = o at ho hol
  simp -implicitDefEqProofs only [go_sem, Nat.reduceEqDiff, Nat.reduceLT, Nat.reduceAdd, Nat.reduceMul, Int.reduceEq, Int.reduceLT, Int.reduceLE, Int.reduceNe, Int.reduceBEq, Int.reduceToNat, ↓reduceIte]
  refine (copy_ok ((hp.sub s2).sub s3).bt (by omega)).mono ?_
  rintro r4 H4 ⟨hc, fc, s4⟩
  simp -implicitDefEqProofs only [go_sem, Nat.reduceEqDiff, Nat.reduceLT, Nat.reduceAdd, Nat.reduceMul, Int.reduceEq, Int.reduceLT, Int.reduceLE, Int.reduceNe, Int.reduceBEq, Int.reduceToNat, ↓reduceIte]
  refine (behind_ok hc.bt (by omega)).mono ?_
  rintro r5 H5 ⟨e, hbe, hel, he, fe, s5⟩
  have hp5 := (((hp.sub s2).sub s3).sub s4).sub s5
  have hm5 := ((hm.sub s3).sub s4).sub s5
  have ho5 := (ho.sub s4).sub s5
  have hc5 := hc.sub s5
  simp -implicitDefEqProofs only [go_sem, Nat.reduceEqDiff, Nat.reduceLT, Nat.reduceAdd, Nat.reduceMul, Int.reduceEq, Int.reduceLT, Int.reduceLE, Int.reduceNe, Int.reduceBEq, Int.reduceToNat, ↓reduceIte]
  refine (same_ok hc5.bt hp5.bt).mono ?_
  rintro r H6 ⟨rfl, rfl⟩
  have bb : (p == p) = true := by simp
  obtain ⟨pa, pc, e1⟩ := Row.slice hp5
  obtain ⟨ea, ec, e5⟩ := Row.slice he
  subst e1 e5
  simp -implicitDefEqProofs only [go_sem, Nat.reduceEqDiff, Nat.reduceLT, Nat.reduceAdd, Nat.reduceMul, Int.reduceEq, Int.reduceLT, Int.reduceLE, Int.reduceNe, Int.reduceBEq, Int.reduceToNat, ↓reduceIte, bb]
  refine AC.loop (KhI H6 (.slice pa p.length pc) r2 r3 r4 (.slice ea e.length ec) p) (n := p.length) ⟨0, by omega, by simp -implicitDefEqProofs only [go_sem, Nat.reduceEqDiff, Nat.reduceLT, Nat.reduceAdd, Nat.reduceMul, Int.reduceEq, Int.reduceLT, Int.reduceLE, Int.reduceNe, Int.reduceBEq, Int.reduceToNat, ↓reduceIte], by simp -implicitDefEqProofs only [go_sem, Nat.reduceEqDiff, Nat.reduceLT, Nat.reduceAdd, Nat.reduceMul, Int.reduceEq, Int.reduceLT, Int.reduceLE, Int.reduceNe, Int.reduceBEq, Int.reduceToNat, ↓reduceIte], by simp -implicitDefEqProofs only [go_sem, Nat.reduceEqDiff, Nat.reduceLT, Nat.reduceAdd, Nat.reduceMul, Int.reduceEq, Int.reduceLT, Int.reduceLE, Int.reduceNe, Int.reduceBEq, Int.reduceToNat, ↓reduceIte], by simp -implicitDefEqProofs only [go_sem, Nat.reduceEqDiff, Nat.reduceLT, Nat.reduceAdd, Nat.reduceMul, Int.reduceEq, Int.reduceLT, Int.reduceLE, Int.reduceNe, Int.reduceBEq, Int.reduceToNat, ↓reduceIte], by simp -implicitDefEqProofs only [go_sem, Nat.reduceEqDiff, Nat.reduceLT, Nat.reduceAdd, Nat.reduceMul, Int.reduceEq, Int.reduceLT, Int.reduceLE, Int.reduceNe, Int.reduceBEq, Int.reduceToNat, ↓reduceIte] <;> rfl, by simp -implicitDefEqProofs only [go_sem, Nat.reduceEqDiff, Nat.reduceLT, Nat.reduceAdd, Nat.reduceMul, Int.reduceEq, Int.reduceLT, Int.reduceLE, Int.reduceNe, Int.reduceBEq, Int.reduceToNat, ↓reduceIte] <;> rfl, by simp -implicitDefEqProofs only [go_sem, Nat.reduceEqDiff, Nat.reduceLT, Nat.reduceAdd, Nat.reduceMul, Int.reduceEq, Int.reduceLT, Int.reduceLE, Int.reduceNe, Int.reduceBEq, Int.reduceToNat, ↓reduceIte], by simp -implicitDefEqProofs only [go_sem, Nat.reduceEqDiff, Nat.reduceLT, Nat.reduceAdd, Nat.reduceMul, Int.reduceEq, Int.reduceLT, Int.reduceLE, Int.reduceNe, Int.reduceBEq, Int.reduceToNat, ↓reduceIte], by simp -implicitDefEqProofs only [go_sem, Nat.reduceEqDiff, Nat.reduceLT, Nat.reduceAdd, Nat.reduceMul, Int.reduceEq, Int.reduceLT, Int.reduceLE, Int.reduceNe, Int.reduceBEq, Int.reduceToNat, ↓reduceIte], rfl⟩ ?_
  rintro m F H7 ⟨k, hk, f0, f1, f2, f7, f8, f9, f29, f30, f31, rfl⟩
  by_cases ck : k < p.length
  · have d1 : decide ((k : Int) < (p.length : Int)) = true := decide_eq_true (by omega)
    have d0 : decide ((0 : Int) ≤ (k : Int)) = true := decide_eq_true (by omega)
    have d2 : IntKind.i64.wrap ((k : Int) + 1) = (k + 1 : Nat) := by rw [i64_in] <;> omega
    obtain ⟨b, hb⟩ : ∃ b, p[k]? = some b := ⟨_, List.getElem?_eq_getElem ck⟩
    obtain ⟨a, c, ea', la⟩ := Rd.at1 (w0 := w0) hp5.bt (u8s_at hb)
    cases ea'
    have hall : (p.take (k + 1)).all (fun b => b == 255) = ((p.take k).all (fun b => b == 255) && (b == 255)) := by rw [List.take_add_one, hb, List.all_append]; simp
    have h255 : decide ((b.toNat : Int) = 255) = (b == 255) := by
      rw [Bool.eq_iff_iff, decide_eq_true_eq, beq_iff_eq, ← UInt8.toNat_inj]
      show (b.toNat : Int) = 255 ↔ b.toNat = 255
      omega
    cases hx : (p.take k).all (fun b => b == 255) with
    | true =>
      rw [hx] at f9 hall
      simp -implicitDefEqProofs only [go_sem, Nat.reduceEqDiff, Nat.reduceLT, Nat.reduceAdd, Nat.reduceMul, Int.reduceEq, Int.reduceLT, Int.reduceLE, Int.reduceNe, Int.reduceBEq, Int.reduceToNat, ↓reduceIte, f0, f1, f2, f7, f8, f9, f29, f30, f31, d0, d1, la, h255, d2]
      exact ⟨m - 1, by omega, k + 1, by omega, by simp -implicitDefEqProofs only [go_sem, Nat.reduceEqDiff, Nat.reduceLT, Nat.reduceAdd, Nat.reduceMul, Int.reduceEq, Int.reduceLT, Int.reduceLE, Int.reduceNe, Int.reduceBEq, Int.reduceToNat, ↓reduceIte, f0], by simp -implicitDefEqProofs only [go_sem, Nat.reduceEqDiff, Nat.reduceLT, Nat.reduceAdd, Nat.reduceMul, Int.reduceEq, Int.reduceLT, Int.reduceLE, Int.reduceNe, Int.reduceBEq, Int.reduceToNat, ↓reduceIte, f1], by simp -implicitDefEqProofs only [go_sem, Nat.reduceEqDiff, Nat.reduceLT, Nat.reduceAdd, Nat.reduceMul, Int.reduceEq, Int.reduceLT, Int.reduceLE, Int.reduceNe, Int.reduceBEq, Int.reduceToNat, ↓reduceIte, f2], by simp -implicitDefEqProofs only [go_sem, Nat.reduceEqDiff, Nat.reduceLT, Nat.reduceAdd, Nat.reduceMul, Int.reduceEq, Int.reduceLT, Int.reduceLE, Int.reduceNe, Int.reduceBEq, Int.reduceToNat, ↓reduceIte, f7], by simp -implicitDefEqProofs only [go_sem, Nat.reduceEqDiff, Nat.reduceLT, Nat.reduceAdd, Nat.reduceMul, Int.reduceEq, Int.reduceLT, Int.reduceLE, Int.reduceNe, Int.reduceBEq, Int.reduceToNat, ↓reduceIte, f8], by simp -implicitDefEqProofs only [go_sem, Nat.reduceEqDiff, Nat.reduceLT, Nat.reduceAdd, Nat.reduceMul, Int.reduceEq, Int.reduceLT, Int.reduceLE, Int.reduceNe, Int.reduceBEq, Int.reduceToNat, ↓reduceIte]; rw [hall]; rfl, by simp -implicitDefEqProofs only [go_sem, Nat.reduceEqDiff, Nat.reduceLT, Nat.reduceAdd, Nat.reduceMul, Int.reduceEq, Int.reduceLT, Int.reduceLE, Int.reduceNe, Int.reduceBEq, Int.reduceToNat, ↓reduceIte, f29], by simp -implicitDefEqProofs only [go_sem, Nat.reduceEqDiff, Nat.reduceLT, Nat.reduceAdd, Nat.reduceMul, Int.reduceEq, Int.reduceLT, Int.reduceLE, Int.reduceNe, Int.reduceBEq, Int.reduceToNat, ↓reduceIte, f30], by simp -implicitDefEqProofs only [go_sem, Nat.reduceEqDiff, Nat.reduceLT, Nat.reduceAdd, Nat.reduceMul, Int.reduceEq, Int.reduceLT, Int.reduceLE, Int.reduceNe, Int.reduceBEq, Int.reduceToNat, ↓reduceIte], rfl⟩
    | false =>
      rw [hx] at f9 hall
      simp -implicitDefEqProofs only [go_sem, Nat.reduceEqDiff, Nat.reduceLT, Nat.reduceAdd, Nat.reduceMul, Int.reduceEq, Int.reduceLT, Int.reduceLE, Int.reduceNe, Int.reduceBEq, Int.reduceToNat, ↓reduceIte, f0, f1, f2, f7, f8, f9, f29, f30, f31, d0, d1, la, h255, d2]
      exact ⟨m - 1, by omega, k + 1, by omega, by simp -implicitDefEqProofs only [go_sem, Nat.reduceEqDiff, Nat.reduceLT, Nat.reduceAdd, Nat.reduceMul, Int.reduceEq, Int.reduceLT, Int.reduceLE, Int.reduceNe, Int.reduceBEq, Int.reduceToNat, ↓reduceIte, f0], by simp -implicitDefEqProofs only [go_sem, Nat.reduceEqDiff, Nat.reduceLT, Nat.reduceAdd, Nat.reduceMul, Int.reduceEq, Int.reduceLT, Int.reduceLE, Int.reduceNe, Int.reduceBEq, Int.reduceToNat, ↓reduceIte, f1], by simp -implicitDefEqProofs only [go_sem, Nat.reduceEqDiff, Nat.reduceLT, Nat.reduceAdd, Nat.reduceMul, Int.reduceEq, Int.reduceLT, Int.reduceLE, Int.reduceNe, Int.reduceBEq, Int.reduceToNat, ↓reduceIte, f2], by simp -implicitDefEqProofs only [go_sem, Nat.reduceEqDiff, Nat.reduceLT, Nat.reduceAdd, Nat.reduceMul, Int.reduceEq, Int.reduceLT, Int.reduceLE, Int.reduceNe, Int.reduceBEq, Int.reduceToNat, ↓reduceIte, f7], by simp -implicitDefEqProofs only [go_sem, Nat.reduceEqDiff, Nat.reduceLT, Nat.reduceAdd, Nat.reduceMul, Int.reduceEq, Int.reduceLT, Int.reduceLE, Int.reduceNe, Int.reduceBEq, Int.reduceToNat, ↓reduceIte, f8], by simp -implicitDefEqProofs only [go_sem, Nat.reduceEqDiff, Nat.reduceLT, Nat.reduceAdd, Nat.reduceMul, Int.reduceEq, Int.reduceLT, Int.reduceLE, Int.reduceNe, Int.reduceBEq, Int.reduceToNat, ↓reduceIte]; rw [hall]; rfl, by simp -implicitDefEqProofs only [go_sem, Nat.reduceEqDiff, Nat.reduceLT, Nat.reduceAdd, Nat.reduceMul, Int.reduceEq, Int.reduceLT, Int.reduceLE, Int.reduceNe, Int.reduceBEq, Int.reduceToNat, ↓reduceIte, f29], by simp -implicitDefEqProofs only [go_sem, Nat.reduceEqDiff, Nat.reduceLT, Nat.reduceAdd, Nat.reduceMul, Int.reduceEq, Int.reduceLT, Int.reduceLE, Int.reduceNe, Int.reduceBEq, Int.reduceToNat, ↓reduceIte, f30], by simp -implicitDefEqProofs only [go_sem, Nat.reduceEqDiff, Nat.reduceLT, Nat.reduceAdd, Nat.reduceMul, Int.reduceEq, Int.reduceLT, Int.reduceLE, Int.reduceNe, Int.reduceBEq, Int.reduceToNat, ↓reduceIte], rfl⟩
  · have d1 : decide ((k : Int) < (p.length : Int)) = false := decide_eq_false (by omega)
    have hk' : p.take k = p := List.take_of_length_le (by omega)
    rw [hk'] at f9
    rcases beh_split hbe with ⟨rfl, hall⟩ | ⟨pre, b, n, hne, hpe, hee⟩
    · rw [hall] at f9
      simp -implicitDefEqProofs only [go_sem, Nat.reduceEqDiff, Nat.reduceLT, Nat.reduceAdd, Nat.reduceMul, Int.reduceEq, Int.reduceLT, Int.reduceLE, Int.reduceNe, Int.reduceBEq, Int.reduceToNat, ↓reduceIte, f0, f1, f2, f7, f8, f9, f29, f30, f31, d1, List.length_nil]
    · have hall : (p.all fun b => b == 255) = false := by
        rw [List.all_eq_false]
        exact ⟨b, by rw [hpe]; simp, by simp [hne]⟩
      rw [hall] at f9
      simp -implicitDefEqProofs only [go_sem, Nat.reduceEqDiff, Nat.reduceLT, Nat.reduceAdd, Nat.reduceMul, Int.reduceEq, Int.reduceLT, Int.reduceLE, Int.reduceNe, Int.reduceBEq, Int.reduceToNat, ↓reduceIte, f0, f1, f2, f7, f8, f9, f29, f30, f31, d1]
      refine (copy_ok hp5.bt (by omega)).mono ?_
      rintro r8 H8 ⟨h8, f8', s8⟩
      simp -implicitDefEqProofs only [go_sem, Nat.reduceEqDiff, Nat.reduceLT, Nat.reduceAdd, Nat.reduceMul, Int.reduceEq, Int.reduceLT, Int.reduceLE, Int.reduceNe, Int.reduceBEq, Int.reduceToNat, ↓reduceIte, f0, f1, f2, f7, f8]
      refine app_b (Hb := fun _ => none) (by simp -implicitDefEqProofs only [go_sem, Nat.reduceEqDiff, Nat.reduceLT, Nat.reduceAdd, Nat.reduceMul, Int.reduceEq, Int.reduceLT, Int.reduceLE, Int.reduceNe, Int.reduceBEq, Int.reduceToNat, ↓reduceIte]) h8 (by simp -implicitDefEqProofs only [go_sem, Nat.reduceEqDiff, Nat.reduceLT, Nat.reduceAdd, Nat.reduceMul, Int.reduceEq, Int.reduceLT, Int.reduceLE, Int.reduceNe, Int.reduceBEq, Int.reduceToNat, ↓reduceIte, f1]) (hm5.sub s8).bt (by omega) (fun b hb => ⟨rfl, (f8' b hb).2⟩) (fun b o h => by cases h) ?_
      intro r9 H9 h9 f9' s9 ha9
      simp -implicitDefEqProofs only [go_sem, Nat.reduceEqDiff, Nat.reduceLT, Nat.reduceAdd, Nat.reduceMul, Int.reduceEq, Int.reduceLT, Int.reduceLE, Int.reduceNe, Int.reduceBEq, Int.reduceToNat, ↓reduceIte, f0, f1, f2, f7, f8]
      have he9 : Own H9 (.slice ea e.length ec) e := by
        refine Row.keep he fun b' o' hb' ho' => ?_
        exact (App.keep ha9 (s8 _ _ ho') (fun q => by rw [(f8' b' q).1] at ho'; cases ho')).1
      refine (less_ok h9.bt he9.bt).mono ?_
      rintro r HA ⟨rfl, rfl⟩
      have q1 : Op.bytesLess (p ++ mo) e = true := by
        rw [hpe, hee, List.append_assoc, List.cons_append]; exact behind_more hne _ pre
      have keep : ∀ {b' : Nat} {o' : Obj}, H7 b' = some o' → HA b' = some o' := fun {b' o'} ho' => (App.keep ha9 (s8 _ _ ho') (fun q => by rw [(f8' b' q).1] at ho'; cases ho')).1
      have hpA := Row.keep hp5 fun b' o' _ ho' => keep ho'
      have hoA := Row.keep ho5 fun b' o' _ ho' => keep ho'
      simp -implicitDefEqProofs only [go_sem, Nat.reduceEqDiff, Nat.reduceLT, Nat.reduceAdd, Nat.reduceMul, Int.reduceEq, Int.reduceLT, Int.reduceLE, Int.reduceNe, Int.reduceBEq, Int.reduceToNat, ↓reduceIte, q1, f0, f1, f2, f7, f8]
      refine (less_ok (Row.rd hoA) (Row.rd hpA)).mono ?_
      rintro r HB ⟨rfl, rfl⟩
      have q2 := behind_in hne n pre o
      rw [← hpe, ← hee] at q2
      cases hl : Op.bytesLess o p with
      | true =>
        rw [hl] at q2
        simp -implicitDefEqProofs only [go_sem, Nat.reduceEqDiff, Nat.reduceLT, Nat.reduceAdd, Nat.reduceMul, Int.reduceEq, Int.reduceLT, Int.reduceLE, Int.reduceNe, Int.reduceBEq, Int.reduceToNat, ↓reduceIte, f0, f1, f2, f7, f8]
        refine (begins_ok (Row.rd hoA) (Row.rd hpA)).mono ?_
        rintro r HC ⟨rfl, rfl⟩
        rw [← q2]
        simp -implicitDefEqProofs only [go_sem, Nat.reduceEqDiff, Nat.reduceLT, Nat.reduceAdd, Nat.reduceMul, Int.reduceEq, Int.reduceLT, Int.reduceLE, Int.reduceNe, Int.reduceBEq, Int.reduceToNat, ↓reduceIte, f0, f1, f2, f7, f8]
      | false =>
        rw [hl] at q2
        simp -implicitDefEqProofs only [go_sem, Nat.reduceEqDiff, Nat.reduceLT, Nat.reduceAdd, Nat.reduceMul, Int.reduceEq, Int.reduceLT, Int.reduceLE, Int.reduceNe, Int.reduceBEq, Int.reduceToNat, ↓reduceIte, f0, f1, f2, f7, f8]
        refine (less_ok (Row.rd hoA) he9.bt).mono ?_
        rintro r HC ⟨rfl, rfl⟩
        simp -implicitDefEqProofs only [go_sem, Nat.reduceEqDiff, Nat.reduceLT, Nat.reduceAdd, Nat.reduceMul, Int.reduceEq, Int.reduceLT, Int.reduceLE, Int.reduceNe, Int.reduceBEq, Int.reduceToNat, ↓reduceIte, f0, f1, f2, f7, f8]
        refine (begins_ok (Row.rd hoA) (Row.rd hpA)).mono ?_
        rintro r HC ⟨rfl, rfl⟩
        rw [← q2]
        simp -implicitDefEqProofs only [go_sem, Nat.reduceEqDiff, Nat.reduceLT, Nat.reduceAdd, Nat.reduceMul, Int.reduceEq, Int.reduceLT, Int.reduceLE, Int.reduceNe, Int.reduceBEq, Int.reduceToNat, ↓reduceIte, f0, f1, f2, f7, f8]
end Go.Proofs.YtoolnkemkhianaaDoor
