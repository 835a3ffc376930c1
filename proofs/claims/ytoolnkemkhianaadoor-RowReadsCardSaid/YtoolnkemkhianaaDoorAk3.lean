/-
  The document's examples of the third layer.
  Conditions: as each theorem states them.
-/
import Derived.Test.YtoolnkemkhianaaDoorKby
import Derived.Test.YtoolnkemkhianaaDoorByv
namespace Go.Proofs.YtoolnkemkhianaaDoor
open Go Go.RowKit Go.Proofs.YtoolnkemkhianaaDoorW
set_option maxRecDepth 100000
set_option maxHeartbeats 1000000
set_option linter.unusedSimpArgs false
set_option linter.unusedVariables false

def xa : Va := ⟨2, 0, [97], false⟩
def xn : Va := ⟨0, 0, [], false⟩
def xm : Va := ⟨1, -1, [], false⟩
theorem bd0 : bdCells Tryd.prog 36 #[] = some #[.int .u8 0, .int .i64 0, .string ⟨#[]⟩, .bool false] := by kernel_rfl
theorem bsa : bsCells Tryd.prog 36 2 #[(0, .agg #[.int .u8 2, .int .i64 0, .string ⟨#[97]⟩, .bool false]), (1, .agg #[.int .u8 0, .int .i64 0, .string ⟨#[]⟩, .bool false])] = some ([xa, xn].flatMap vc).toArray := by kernel_rfl
theorem bsm : bsCells Tryd.prog 36 1 #[(0, .agg #[.int .u8 1, .int .i64 (-1), .string ⟨#[]⟩, .bool false])] = some ([xm].flatMap vc).toArray := by kernel_rfl
theorem bsb : bsCells Tryd.prog 5 4 #[(0, .int .u8 4), (1, .int .u8 97), (2, .int .u8 0), (3, .int .u8 1)] = some (u8s [4, 97, 0, 1]).toArray := by kernel_rfl
section
variable {w0 : World} {H : Hp}
theorem Vs.lit {b : Nat} {l : List Va} {n : Nat} (h : H b = some (.cells (l.flatMap vc).toArray 36 (0, 0))) (hn : l.length = n) : Vs w0 H (.slice (some ⟨b, 0, none⟩) n n) l := by
  subst hn
  refine .inr ⟨_, _, rfl, Nat.le_refl _, ?_⟩
  rw [ldCells_row h 0 _ 0 (by simp [flat_len (f := vc) (sz := 4) l (vc_len4 l)])]
  have hl := flat_len (f := vc) (sz := 4) l (vc_len4 l)
  simp only [Nat.zero_add, List.drop_zero]
  rw [List.take_of_length_le (by omega)]
theorem awake3_ok (ht : Tbl w0) : ACalls Tryd.prog w0 15 #[] H fun r H' => r = .bool true ∧ H' = H := by
  refine ACalls.quiet ?_
  refine acalls_of Tryd.func15 rfl Tryd.ntmps15 r15 (by simp) ?_
  simp -implicitDefEqProofs only [go_sem, Nat.reduceEqDiff, Nat.reduceLT, Nat.reduceAdd, Nat.reduceMul, Int.reduceEq, Int.reduceLT, Int.reduceLE, Int.reduceNe, Int.reduceBEq, Int.reduceToNat, ↓reduceIte, bd0, bsa]
  refine newK_of ?_
  intro b1 H1 hb1 hn1 h1 s1 g1
  simp -implicitDefEqProofs only [go_sem, Nat.reduceEqDiff, Nat.reduceLT, Nat.reduceAdd, Nat.reduceMul, Int.reduceEq, Int.reduceLT, Int.reduceLE, Int.reduceNe, Int.reduceBEq, Int.reduceToNat, ↓reduceIte]
  refine (kbytes_ok (l := [xa, xn]) ht (Vs.lit h1 rfl) (by decide) (by simp [xa, xn, Va.wf])).mono ?_
  rintro r H2 ⟨s2, h | h⟩
  · obtain ⟨_, s, rfl, hown, hf⟩ := h
    simp -implicitDefEqProofs only [go_sem, Nat.reduceEqDiff, Nat.reduceLT, Nat.reduceAdd, Nat.reduceMul, Int.reduceEq, Int.reduceLT, Int.reduceLE, Int.reduceNe, Int.reduceBEq, Int.reduceToNat, ↓reduceIte, bsm]
    refine newK_of ?_
    intro b3 H3 hb3 hn3 h3 s3 g3
    simp -implicitDefEqProofs only [go_sem, Nat.reduceEqDiff, Nat.reduceLT, Nat.reduceAdd, Nat.reduceMul, Int.reduceEq, Int.reduceLT, Int.reduceLE, Int.reduceNe, Int.reduceBEq, Int.reduceToNat, ↓reduceIte]
    refine (kbytes_ok (l := [xm]) ht (Vs.lit h3 rfl) (by decide) (by simp [xm, Va.wf])).mono ?_
    rintro r H4 ⟨s4, h | h⟩
    · obtain ⟨_, t, rfl, hown4, hf4⟩ := h
      simp -implicitDefEqProofs only [go_sem, Nat.reduceEqDiff, Nat.reduceLT, Nat.reduceAdd, Nat.reduceMul, Int.reduceEq, Int.reduceLT, Int.reduceLE, Int.reduceNe, Int.reduceBEq, Int.reduceToNat, ↓reduceIte, bsb]
      refine newK_of ?_
      intro b5 H5 hb5 hn5 h5 s5 g5
      have e1 : encR [xa, xn] = [4, 97, 0, 1] := by decide +kernel
      rw [e1] at hown
      simp -implicitDefEqProofs only [go_sem, Nat.reduceEqDiff, Nat.reduceLT, Nat.reduceAdd, Nat.reduceMul, Int.reduceEq, Int.reduceLT, Int.reduceLE, Int.reduceNe, Int.reduceBEq, Int.reduceToNat, ↓reduceIte]
      refine (same_ok (((hown.sub s3).sub s4).sub s5).bt (Own.lit (p := [4, 97, 0, 1]) h5 rfl).bt).mono ?_
      rintro r H6 ⟨rfl, rfl⟩
      obtain ⟨ta, tc, et⟩ := Row.slice (hown4.sub s5)
      have e2 : encR [xm] = [3, 127, 255, 255, 255, 255, 255, 255, 255] := by decide +kernel
      rw [e2] at hown4
      obtain ⟨g, cap, cur, hr, hg, hc, hcs, hget, htk⟩ := Row.open1 (hown4.sub s5) (by decide)
      have lg := ld_own w0 hg
      have hcur : cur[1]? = some (.int .u8 127) := hget 1 (by decide)
      subst hr
      have b1' : (([4, 97, 0, 1] : List UInt8) == [4, 97, 0, 1]) = true := by decide
      have d1 : decide ((([3, 127, 255, 255, 255, 255, 255, 255, 255] : List UInt8).length : Int) = 9) = true := by decide
      have d2 : decide ((1 : Int) < (([3, 127, 255, 255, 255, 255, 255, 255, 255] : List UInt8).length : Int)) = true := by decide
      simp -implicitDefEqProofs only [go_sem, Nat.reduceEqDiff, Nat.reduceLT, Nat.reduceAdd, Nat.reduceMul, Int.reduceEq, Int.reduceLT, Int.reduceLE, Int.reduceNe, Int.reduceBEq, Int.reduceToNat, ↓reduceIte, b1', d1, d2, lg, hcur]
      refine newK_of ?_
      intro b7 H7 hb7 hn7 h7 s7 g7
      simp -implicitDefEqProofs only [go_sem, Nat.reduceEqDiff, Nat.reduceLT, Nat.reduceAdd, Nat.reduceMul, Int.reduceEq, Int.reduceLT, Int.reduceLE, Int.reduceNe, Int.reduceBEq, Int.reduceToNat, ↓reduceIte]
      refine (behind_ok (Own.lit (p := [1, 255]) h7 rfl).bt (by decide)).mono ?_
      rintro r H8 ⟨e, hbe, _, hown8, _, s8⟩
      have he : e = [2] := by
        obtain ⟨k, hk, hall, hbe⟩ := hbe
        rcases hbe with ⟨rfl, _⟩ | ⟨b, hk0, hb, hne, rfl⟩
        · have := hall 0 (by omega) (by decide)
          exact absurd this (by decide)
        · have hk2 : k = 1 ∨ k = 2 := by simp at hk; omega
          rcases hk2 with rfl | rfl
          · have : b = 1 := by cases hb; rfl
            subst this; rfl
          · have : b = 255 := by cases hb; rfl
            exact absurd this hne
      subst he
      simp -implicitDefEqProofs only [go_sem, Nat.reduceEqDiff, Nat.reduceLT, Nat.reduceAdd, Nat.reduceMul, Int.reduceEq, Int.reduceLT, Int.reduceLE, Int.reduceNe, Int.reduceBEq, Int.reduceToNat, ↓reduceIte]
      refine newK_of ?_
      intro b9 H9 hb9 hn9 h9 s9 g9
      simp -implicitDefEqProofs only [go_sem, Nat.reduceEqDiff, Nat.reduceLT, Nat.reduceAdd, Nat.reduceMul, Int.reduceEq, Int.reduceLT, Int.reduceLE, Int.reduceNe, Int.reduceBEq, Int.reduceToNat, ↓reduceIte]
      refine (same_ok (hown8.sub s9).bt (Own.lit (p := [2]) h9 rfl).bt).mono ?_
      rintro r H6 ⟨rfl, rfl⟩
      simp -implicitDefEqProofs only [go_sem, Nat.reduceEqDiff, Nat.reduceLT, Nat.reduceAdd, Nat.reduceMul, Int.reduceEq, Int.reduceLT, Int.reduceLE, Int.reduceNe, Int.reduceBEq, Int.reduceToNat, ↓reduceIte]
      exact s1.trans (s2.trans (s3.trans (s4.trans (s5.trans (s7.trans (s8.trans s9))))))
    · exact absurd h.1 (by decide)
  · exact absurd h.1 (by decide)
end
end Go.Proofs.YtoolnkemkhianaaDoor
