/-
  utf8.ValidString, walked.
  Conditions: the tables lie where the text lays them.
-/
import Derived.Test.YtoolnkemkhianaaDoorUtv
namespace Go.Proofs.YtoolnkemkhianaaDoorW
open Go Go.RowKit
section
variable {P : Program} {w0 : World} {F : Fr} {K : Value → Hp → Prop} {H : Hp} {dst : Option Tmp} {ty : TypeId} {pos : String} {after : Array Edge} {g : Option (Nat × Bool)} {orig : Prop}
def SlcL (orig : Prop) (K : Value → Hp → Prop) (H : Hp) (s : ByteArray) (l : Int) : Bool → Prop
  | true => K (.string (s.extract l.toNat s.size)) H
  | false => orig
def SlL (orig : Prop) (K : Value → Hp → Prop) (H : Hp) (v lo : Value) : Option TypeDesc → Prop
  | some .string => match v, lo with | .string s, .int _ l => SlcL orig K H s l (decide (0 ≤ l) && decide (l ≤ (s.size : Int))) | _, _ => orig
  | _ => orig
theorem aop_slice_lo_eq (t : TypeId) (x lo : Operand) : AOp P w0 F ⟨dst, .slice t x (some lo) none none, ty, pos, after, g⟩ K H = SlL (AOp0 P w0 F ⟨dst, .slice t x (some lo) none none, ty, pos, after, g⟩ K H) K H (evF F x) (evF F lo) (P.underlying t) := by
  unfold SlL
  split
  · rename_i hu
    split
    · rename_i s k l hs hl
      unfold SlcL
      split
      · rename_i hc
        rw [Bool.and_eq_true, decide_eq_true_eq, decide_eq_true_eq] at hc
        unfold AOp
        simp only [execOp, awp_bind, Instr.sliceAt, Option.map_none, Option.map_some, hs, hl]
        simp only [Instr.slice, Instr.sliceBounds, Instr.sliceBound, asIntOf, awp_bind, awp_pure, BindK, awp_underlying, hu, OptK, Option.isSome_none, Bool.false_eq_true, if_false]
        rw [if_pos ⟨hc.1, by omega⟩]
        simp only [awp_pure, awp_bind, BindK, ANx]
      · rfl
    · rfl
  · rfl
theorem slL_str {s : ByteArray} {k : IntKind} {l : Int} : SlL orig K H (.string s) (.int k l) (some .string) = SlcL orig K H s l (decide (0 ≤ l) && decide (l ≤ (s.size : Int))) := rfl
theorem slcL_true {s : ByteArray} {l : Int} : SlcL orig K H s l true = K (.string (s.extract l.toNat s.size)) H := rfl
end
attribute [go_sem] aop_slice_lo_eq slL_str slcL_true
end Go.Proofs.YtoolnkemkhianaaDoorW
namespace Go.Proofs.YtoolnkemkhianaaDoor
open Go Go.RowKit Go.Proofs.YtoolnkemkhianaaDoorW
set_option maxRecDepth 100000
set_option maxHeartbeats 1000000
set_option linter.unusedSimpArgs false
set_option linter.unusedVariables false
def VsI (p : List UInt8) (H0 : Hp) (m : Nat) (F : Fr) (H : Hp) : Prop := ∃ q, q.length = m ∧ F 0 = .string (str q) ∧ okU q = okU p ∧ Sub H0 H
theorem or_low {W V : Int} {n : Nat} (h : bit (orI .u64 W V) n = false) : bit W n = false ∧ bit V n = false := by
  rw [bit_or] at h
  simpa using h
/-- Words that are low: their bytes. -/
theorem low_of {W : Int} {p : List UInt8} (hW : ∀ i b, i < 8 → p[i]? = some b → 128 ≤ b.toNat → bit W (8 * i + 7) = true) (hl : ∀ i, i < 8 → bit W (8 * i + 7) = false) : ∀ i b, i < 8 → p[i]? = some b → b.toNat < 128 := fun i b hi hb => by
  rcases Nat.lt_or_ge b.toNat 128 with h | h
  · exact h
  · have := hW i b hi hb h
    rw [hl i hi] at this; cases this
theorem skip_one {W : Int} {q : List UInt8} (h8 : 8 ≤ q.length) (hW : ∀ i b, i < 8 → q[i]? = some b → 128 ≤ b.toNat → bit W (8 * i + 7) = true) (hl : ∀ i, i < 8 → bit W (8 * i + 7) = false) : okU (q.drop 8) = okU q := okU_skip 8 q h8 (low_of hW hl)
theorem str_drop' (q : List UInt8) (k : Nat) : (str q).extract k q.length = str (q.drop k) := by have := str_drop q k; rw [str_size] at this; exact this
def VsJ (p : List UInt8) (H0 : Hp) (n : Nat) (m : Nat) (F : Fr) (H : Hp) : Prop := ∃ q, q.length = m ∧ q.length < n ∧ F 0 = .string (str q) ∧ okU q = okU p ∧ Sub H0 H
theorem valid_ok {w0 : World} {H : Hp} {p : List UInt8} (ht : Tbl w0) (hp : p.length < 1000000000) : ACalls Tryd.prog w0 49 #[.string (str p)] H fun r H' => r = .bool (okU p) ∧ H' = H := by
  refine ACalls.quiet ?_
  refine acalls_of Tryd.func49 rfl Tryd.ntmps49 r49 (by simp) ?_
  simp -implicitDefEqProofs only [go_sem, Nat.reduceEqDiff, Nat.reduceLT, Nat.reduceAdd, Nat.reduceMul, Int.reduceEq, Int.reduceLT, Int.reduceLE, Int.reduceNe, Int.reduceBEq, Int.reduceToNat, ↓reduceIte]
  refine AC.loopH (VsI p H) (n := p.length) ⟨p, rfl, by simp -implicitDefEqProofs only [go_sem, Nat.reduceEqDiff, Nat.reduceLT, Nat.reduceAdd, Nat.reduceMul, Int.reduceEq, Int.reduceLT, Int.reduceLE, Int.reduceNe, Int.reduceBEq, Int.reduceToNat, ↓reduceIte], rfl, Sub.refl _⟩ ?_
  rintro m F H2 ⟨q, hq, f0, hok, s2⟩ hh2
  cases hqa : q with
  | nil =>
    have f0' : F 0 = .string (str []) := by rw [f0, hqa]
    have d1 : decide ((0 : Int) < ((0 : Nat) : Int)) = false := rfl
    simp -implicitDefEqProofs only [go_sem, Nat.reduceEqDiff, Nat.reduceLT, Nat.reduceAdd, Nat.reduceMul, Int.reduceEq, Int.reduceLT, Int.reduceLE, Int.reduceNe, Int.reduceBEq, Int.reduceToNat, ↓reduceIte, f0', List.length_nil, d1]
    rw [← hok, hqa]
    exact ⟨rfl, s2⟩
  | cons a l =>
    have hq0 : q[0]? = some a := by rw [hqa]; rfl
    have hql : 0 < q.length := by rw [hqa]; simp
    have n1 : decide ((0 : Int) < (q.length : Int)) = true := decide_eq_true (by omega)
    have b0 : bt (str q) 0 = a.toNat := bt_str hq0
    have ha := UInt8.toNat_lt a
    by_cases c : a.toNat < 128
    · have d2 : decide ((a.toNat : Int) < 128) = true := decide_eq_true (by omega)
      have le1 : decide ((1 : Int) ≤ (q.length : Int)) = true := decide_eq_true (by omega)
      obtain ⟨q1, hq1⟩ : ∃ q1, q1 = q.drop 1 := ⟨_, rfl⟩
      have x1 : (str q).extract 1 q.length = str q1 := by have := str_drop q 1; rw [str_size] at this; rw [this, hq1]
      have ok1 : okU q1 = okU p := by rw [hq1, hqa, List.drop_succ_cons, List.drop_zero, ← okU_low c, ← hqa]; exact hok
      have l1 : q1.length = q.length - 1 := by rw [hq1, List.length_drop]
      by_cases c8 : 8 < q1.length
      · have d3 : decide ((8 : Int) < (q1.length : Int)) = true := decide_eq_true (by omega)
        simp -implicitDefEqProofs only [go_sem, Nat.reduceEqDiff, Nat.reduceLT, Nat.reduceAdd, Nat.reduceMul, Int.reduceEq, Int.reduceLT, Int.reduceLE, Int.reduceNe, Int.reduceBEq, Int.reduceToNat, ↓reduceIte, f0, n1, b0, d2, le1, x1, d3]
        refine (word_ok (by omega)).mono ?_
        rintro r H3 ⟨⟨W, rfl, hW⟩, rfl⟩
        by_cases cW : andI .u64 W 9259542123273814144 = 0
        · have d4 : decide (andI .u64 W 9259542123273814144 = 0) = true := decide_eq_true cW
          have ok2 := skip_one (by omega) hW (fun i hi => mask_low cW hi)
          have le8 : decide ((8 : Int) ≤ (q1.length : Int)) = true := decide_eq_true (by omega)
          have x8 := str_drop' q1 8
          obtain ⟨q2, hq2⟩ : ∃ q2, q2 = q1.drop 8 := ⟨_, rfl⟩
          rw [← hq2] at ok2 x8
          have l2 : q2.length = q1.length - 8 := by rw [hq2, List.length_drop]
          simp -implicitDefEqProofs only [go_sem, Nat.reduceEqDiff, Nat.reduceLT, Nat.reduceAdd, Nat.reduceMul, Int.reduceEq, Int.reduceLT, Int.reduceLE, Int.reduceNe, Int.reduceBEq, Int.reduceToNat, ↓reduceIte, d4, le8, x8]
          refine vdraw_t [⟨0, .p, [], []⟩, ⟨1, .n, [], []⟩, ⟨2, .p, [], []⟩, ⟨3, .p, [], []⟩, ⟨4, .p, [], []⟩, ⟨6, .p, [], []⟩, ⟨7, .n, [], []⟩, ⟨5, .c, [7], []⟩, ⟨8, .c, [], []⟩, ⟨9, .p, [], []⟩, ⟨10, .p, [], []⟩, ⟨11, .p, [], []⟩, ⟨12, .p, [], []⟩] [0, 1, 3, 7, 15, 31, 15, 79, 255, 511, 1023, 2047, 4095] mixed (by kernel_rfl) ?_
          by_cases c16 : 16 < q2.length
          · have d5 : decide ((16 : Int) < (q2.length : Int)) = true := decide_eq_true (by omega)
            have le8' : decide ((8 : Int) ≤ (q2.length : Int)) = true := decide_eq_true (by omega)
            have x8' := str_drop' q2 8
            simp -implicitDefEqProofs only [go_sem, Nat.reduceEqDiff, Nat.reduceLT, Nat.reduceAdd, Nat.reduceMul, Int.reduceEq, Int.reduceLT, Int.reduceLE, Int.reduceNe, Int.reduceBEq, Int.reduceToNat, ↓reduceIte, d5, le8', x8']
            refine (word_ok (by omega)).mono ?_
            rintro r H4 ⟨⟨W1, rfl, hW1⟩, rfl⟩
            simp -implicitDefEqProofs only [go_sem, Nat.reduceEqDiff, Nat.reduceLT, Nat.reduceAdd, Nat.reduceMul, Int.reduceEq, Int.reduceLT, Int.reduceLE, Int.reduceNe, Int.reduceBEq, Int.reduceToNat, ↓reduceIte, d5, le8', x8']
            refine (word_ok (by rw [List.length_drop]; omega)).mono ?_
            rintro r H5 ⟨⟨W2, rfl, hW2⟩, rfl⟩
            by_cases cV : andI .u64 (orI .u64 W1 W2) 9259542123273814144 = 0
            · have d6 : decide (andI .u64 (orI .u64 W1 W2) 9259542123273814144 = 0) = true := decide_eq_true cV
              have hb := fun i (hi : i < 8) => or_low (mask_low cV hi)
              have e1 := skip_one (by omega) hW1 (fun i hi => (hb i hi).1)
              have e2 := skip_one (by rw [List.length_drop]; omega) hW2 (fun i hi => (hb i hi).2)
              rw [List.drop_drop] at e2
              have le16 : decide ((16 : Int) ≤ (q2.length : Int)) = true := decide_eq_true (by omega)
              have x16 := str_drop' q2 16
              simp -implicitDefEqProofs only [go_sem, Nat.reduceEqDiff, Nat.reduceLT, Nat.reduceAdd, Nat.reduceMul, Int.reduceEq, Int.reduceLT, Int.reduceLE, Int.reduceNe, Int.reduceBEq, Int.reduceToNat, ↓reduceIte, d5, le8', x8', d6, le16, x16]
              refine AC.loop (VsJ p H q.length) (n := (q2.drop 16).length) ⟨q2.drop 16, rfl, by rw [List.length_drop]; omega, by simp -implicitDefEqProofs only [go_sem, Nat.reduceEqDiff, Nat.reduceLT, Nat.reduceAdd, Nat.reduceMul, Int.reduceEq, Int.reduceLT, Int.reduceLE, Int.reduceNe, Int.reduceBEq, Int.reduceToNat, ↓reduceIte], by rw [show (16 : Nat) = 8 + 8 from rfl, e2, e1, ok2, ok1], s2⟩ ?_
              clear f0
              rintro m2 F H6 ⟨q3, hq3, hl3, f0, ok3, s6⟩
              refine vdraw_t [⟨0, .p, [], []⟩, ⟨1, .n, [], []⟩, ⟨2, .p, [], []⟩, ⟨3, .p, [], []⟩, ⟨4, .p, [], []⟩, ⟨6, .p, [], []⟩, ⟨7, .n, [], []⟩, ⟨10, .p, [], []⟩, ⟨11, .n, [], []⟩, ⟨13, .p, [], []⟩, ⟨14, .n, [], []⟩, ⟨5, .c, [7, 11, 14], []⟩, ⟨8, .c, [11, 14], []⟩, ⟨9, .p, [], []⟩, ⟨12, .c, [14], []⟩, ⟨15, .c, [], []⟩, ⟨16, .p, [], []⟩, ⟨17, .p, [], []⟩, ⟨18, .p, [], []⟩, ⟨19, .p, [], []⟩, ⟨20, .p, [], []⟩] [0, 1, 3, 7, 15, 31, 15, 79, 255, 511, 15, 1039, 3583, 15, 8207, 32255, 65023, 131071, 262143, 524287, 1048575] mixed (by kernel_rfl) ?_
              by_cases c32 : 32 < q3.length
              · have d7 : decide ((32 : Int) < (q3.length : Int)) = true := decide_eq_true (by omega)
                have k8 : decide ((8 : Int) ≤ (q3.length : Int)) = true := decide_eq_true (by omega)
                have k16 : decide ((16 : Int) ≤ (q3.length : Int)) = true := decide_eq_true (by omega)
                have k24 : decide ((24 : Int) ≤ (q3.length : Int)) = true := decide_eq_true (by omega)
                have k32 : decide ((32 : Int) ≤ (q3.length : Int)) = true := decide_eq_true (by omega)
                have y8 := str_drop' q3 8
                have y16 := str_drop' q3 16
                have y24 := str_drop' q3 24
                have y32 := str_drop' q3 32
                simp -implicitDefEqProofs only [go_sem, Nat.reduceEqDiff, Nat.reduceLT, Nat.reduceAdd, Nat.reduceMul, Int.reduceEq, Int.reduceLT, Int.reduceLE, Int.reduceNe, Int.reduceBEq, Int.reduceToNat, ↓reduceIte, f0, d7, k8, k16, k24, y8, y16, y24]
                refine (word_ok (by omega)).mono ?_
                rintro r H7 ⟨⟨V1, rfl, hV1⟩, rfl⟩
                simp -implicitDefEqProofs only [go_sem, Nat.reduceEqDiff, Nat.reduceLT, Nat.reduceAdd, Nat.reduceMul, Int.reduceEq, Int.reduceLT, Int.reduceLE, Int.reduceNe, Int.reduceBEq, Int.reduceToNat, ↓reduceIte, f0, d7, k8, k16, k24, y8, y16, y24]
                refine (word_ok (by rw [List.length_drop]; omega)).mono ?_
                rintro r H8 ⟨⟨V2, rfl, hV2⟩, rfl⟩
                simp -implicitDefEqProofs only [go_sem, Nat.reduceEqDiff, Nat.reduceLT, Nat.reduceAdd, Nat.reduceMul, Int.reduceEq, Int.reduceLT, Int.reduceLE, Int.reduceNe, Int.reduceBEq, Int.reduceToNat, ↓reduceIte, f0, d7, k8, k16, k24, y8, y16, y24]
                refine (word_ok (by rw [List.length_drop]; omega)).mono ?_
                rintro r H9 ⟨⟨V3, rfl, hV3⟩, rfl⟩
                simp -implicitDefEqProofs only [go_sem, Nat.reduceEqDiff, Nat.reduceLT, Nat.reduceAdd, Nat.reduceMul, Int.reduceEq, Int.reduceLT, Int.reduceLE, Int.reduceNe, Int.reduceBEq, Int.reduceToNat, ↓reduceIte, f0, d7, k8, k16, k24, y8, y16, y24]
                refine (word_ok (by rw [List.length_drop]; omega)).mono ?_
                rintro r HA ⟨⟨V4, rfl, hV4⟩, rfl⟩
                by_cases cU : andI .u64 (orI .u64 (orI .u64 V1 V2) (orI .u64 V3 V4)) 9259542123273814144 = 0
                · have d8 : decide (andI .u64 (orI .u64 (orI .u64 V1 V2) (orI .u64 V3 V4)) 9259542123273814144 = 0) = true := decide_eq_true cU
                  have hb := fun i (hi : i < 8) => or_low (mask_low cU hi)
                  have e1 := skip_one (by omega) hV1 (fun i hi => (or_low (hb i hi).1).1)
                  have e2 := skip_one (by rw [List.length_drop]; omega) hV2 (fun i hi => (or_low (hb i hi).1).2)
                  have e3 := skip_one (by rw [List.length_drop]; omega) hV3 (fun i hi => (or_low (hb i hi).2).1)
                  have e4 := skip_one (by rw [List.length_drop]; omega) hV4 (fun i hi => (or_low (hb i hi).2).2)
                  rw [List.drop_drop] at e2 e3 e4
                  simp -implicitDefEqProofs only [go_sem, Nat.reduceEqDiff, Nat.reduceLT, Nat.reduceAdd, Nat.reduceMul, Int.reduceEq, Int.reduceLT, Int.reduceLE, Int.reduceNe, Int.reduceBEq, Int.reduceToNat, ↓reduceIte, f0, d7, k8, k16, k24, k32, y8, y16, y24, y32, d8]
                  exact ⟨(q3.drop 32).length, by rw [List.length_drop]; omega, q3.drop 32, rfl, by rw [List.length_drop]; omega, by simp -implicitDefEqProofs only [go_sem, Nat.reduceEqDiff, Nat.reduceLT, Nat.reduceAdd, Nat.reduceMul, Int.reduceEq, Int.reduceLT, Int.reduceLE, Int.reduceNe, Int.reduceBEq, Int.reduceToNat, ↓reduceIte], (show okU (q3.drop 32) = okU q3 from e4.trans (e3.trans (e2.trans e1))).trans ok3, s6⟩
                · have d8 : decide (andI .u64 (orI .u64 (orI .u64 V1 V2) (orI .u64 V3 V4)) 9259542123273814144 = 0) = false := decide_eq_false cU
                  simp -implicitDefEqProofs only [go_sem, Nat.reduceEqDiff, Nat.reduceLT, Nat.reduceAdd, Nat.reduceMul, Int.reduceEq, Int.reduceLT, Int.reduceLE, Int.reduceNe, Int.reduceBEq, Int.reduceToNat, ↓reduceIte, f0, d7, k8, k16, k24, k32, y8, y16, y24, y32, d8]
                  exact ⟨q3.length, by omega, q3, rfl, by simp -implicitDefEqProofs only [go_sem, Nat.reduceEqDiff, Nat.reduceLT, Nat.reduceAdd, Nat.reduceMul, Int.reduceEq, Int.reduceLT, Int.reduceLE, Int.reduceNe, Int.reduceBEq, Int.reduceToNat, ↓reduceIte, f0], ok3, s6⟩
              · have d7 : decide ((32 : Int) < (q3.length : Int)) = false := decide_eq_false (by omega)
                simp -implicitDefEqProofs only [go_sem, Nat.reduceEqDiff, Nat.reduceLT, Nat.reduceAdd, Nat.reduceMul, Int.reduceEq, Int.reduceLT, Int.reduceLE, Int.reduceNe, Int.reduceBEq, Int.reduceToNat, ↓reduceIte, f0, d7]
                exact ⟨q3.length, by omega, q3, rfl, by simp -implicitDefEqProofs only [go_sem, Nat.reduceEqDiff, Nat.reduceLT, Nat.reduceAdd, Nat.reduceMul, Int.reduceEq, Int.reduceLT, Int.reduceLE, Int.reduceNe, Int.reduceBEq, Int.reduceToNat, ↓reduceIte, f0], ok3, s6⟩
            · have d6 : decide (andI .u64 (orI .u64 W1 W2) 9259542123273814144 = 0) = false := decide_eq_false cV
              simp -implicitDefEqProofs only [go_sem, Nat.reduceEqDiff, Nat.reduceLT, Nat.reduceAdd, Nat.reduceMul, Int.reduceEq, Int.reduceLT, Int.reduceLE, Int.reduceNe, Int.reduceBEq, Int.reduceToNat, ↓reduceIte, d5, le8', x8', d6]
              exact ⟨q2.length, by omega, q2, rfl, by simp -implicitDefEqProofs only [go_sem, Nat.reduceEqDiff, Nat.reduceLT, Nat.reduceAdd, Nat.reduceMul, Int.reduceEq, Int.reduceLT, Int.reduceLE, Int.reduceNe, Int.reduceBEq, Int.reduceToNat, ↓reduceIte], ok2.trans ok1, s2⟩
          · have d5 : decide ((16 : Int) < (q2.length : Int)) = false := decide_eq_false (by omega)
            simp -implicitDefEqProofs only [go_sem, Nat.reduceEqDiff, Nat.reduceLT, Nat.reduceAdd, Nat.reduceMul, Int.reduceEq, Int.reduceLT, Int.reduceLE, Int.reduceNe, Int.reduceBEq, Int.reduceToNat, ↓reduceIte, d5]
            exact ⟨q2.length, by omega, q2, rfl, by simp -implicitDefEqProofs only [go_sem, Nat.reduceEqDiff, Nat.reduceLT, Nat.reduceAdd, Nat.reduceMul, Int.reduceEq, Int.reduceLT, Int.reduceLE, Int.reduceNe, Int.reduceBEq, Int.reduceToNat, ↓reduceIte], ok2.trans ok1, s2⟩
        · have d4 : decide (andI .u64 W 9259542123273814144 = 0) = false := decide_eq_false cW
          simp -implicitDefEqProofs only [go_sem, Nat.reduceEqDiff, Nat.reduceLT, Nat.reduceAdd, Nat.reduceMul, Int.reduceEq, Int.reduceLT, Int.reduceLE, Int.reduceNe, Int.reduceBEq, Int.reduceToNat, ↓reduceIte, d4]
          exact ⟨q1.length, by omega, q1, rfl, by simp -implicitDefEqProofs only [go_sem, Nat.reduceEqDiff, Nat.reduceLT, Nat.reduceAdd, Nat.reduceMul, Int.reduceEq, Int.reduceLT, Int.reduceLE, Int.reduceNe, Int.reduceBEq, Int.reduceToNat, ↓reduceIte], ok1, s2⟩
      · have d3 : decide ((8 : Int) < (q1.length : Int)) = false := decide_eq_false (by omega)
        simp -implicitDefEqProofs only [go_sem, Nat.reduceEqDiff, Nat.reduceLT, Nat.reduceAdd, Nat.reduceMul, Int.reduceEq, Int.reduceLT, Int.reduceLE, Int.reduceNe, Int.reduceBEq, Int.reduceToNat, ↓reduceIte, f0, n1, b0, d2, le1, x1, d3]
        exact ⟨q1.length, by omega, q1, rfl, by simp -implicitDefEqProofs only [go_sem, Nat.reduceEqDiff, Nat.reduceLT, Nat.reduceAdd, Nat.reduceMul, Int.reduceEq, Int.reduceLT, Int.reduceLE, Int.reduceNe, Int.reduceBEq, Int.reduceToNat, ↓reduceIte], ok1, s2⟩
    · have d2 : decide ((a.toNat : Int) < 128) = false := decide_eq_false (by omega)
      have g0 : decide ((0 : Int) ≤ (a.toNat : Int)) = true := decide_eq_true (by omega)
      have g1 : decide ((a.toNat : Int) < 256) = true := decide_eq_true (by omega)
      have g1' : decide ((a.toNat : Int) < ((256 : Nat) : Int)) = true := decide_eq_true (by omega)
      have lf := ld_arg hh2 (ht.fst a.toNat ha)
      obtain ⟨e1, e2⟩ := fst_law ⟨a.toNat, ha⟩ (by show 128 ≤ a.toNat; omega)
      simp only [] at e1 e2
      have hix : ix8 a.toNat < 16 := by unfold ix8; repeat' split
                                        all_goals omega
      have hsz : sz8 a.toNat ≤ 4 := by unfold sz8; repeat' split
                                       all_goals omega
      have e3 : IntKind.i64.wrap (sz8 a.toNat : Int) = (sz8 a.toNat : Int) := by rw [i64_in] <;> omega
      obtain ⟨⟨lo, hi⟩, hacc⟩ : ∃ x, accs[ix8 a.toNat]? = some x := ⟨_, List.getElem?_eq_getElem (by show _ < 16; exact hix)⟩
      obtain ⟨q1, q2⟩ := ht.acc _ _ hacc
      have la := ld_arg hh2 q1
      have lb := ld_arg hh2 q2
      have hl2 : ldCells w0 H2 ⟨1, ix8 a.toNat * 2, none⟩ 0 2 = some [.int .u8 (lo : Int), .int .u8 (hi : Int)] := by
        simp only [ldCells, add_at, Nat.add_zero, Nat.zero_add, la, lb, Option.bind_some, Option.map_some]
      have g2 : decide ((0 : Int) ≤ (ix8 a.toNat : Int)) = true := decide_eq_true (by omega)
      have g3 : decide ((ix8 a.toNat : Int) < 16) = true := decide_eq_true (by omega)
      have g3' : decide ((ix8 a.toNat : Int) < ((16 : Nat) : Int)) = true := decide_eq_true (by omega)
      simp -implicitDefEqProofs only [go_sem, Nat.reduceEqDiff, Nat.reduceLT, Nat.reduceAdd, Nat.reduceMul, Int.reduceEq, Int.reduceLT, Int.reduceLE, Int.reduceNe, Int.reduceBEq, Int.reduceToNat, ↓reduceIte, f0, n1, b0, d2, g0, g1, g1', lf, e1, e2, e3, g2, g3, g3', hl2, ldK_agg]
      refine newK_of ?_
      intro b6 H3 hb6 hn6 h6 s6 g6
      simp -implicitDefEqProofs only [go_sem, Nat.reduceEqDiff, Nat.reduceLT, Nat.reduceAdd, Nat.reduceMul, Int.reduceEq, Int.reduceLT, Int.reduceLE, Int.reduceNe, Int.reduceBEq, Int.reduceToNat, ↓reduceIte]
      refine store_all h6 rfl (by simp [cell1_int]) rfl ?_
      intro H4 h6 g6'
      have s4 : Sub H H4 := s2.trans (Sub.ne2 hn6 g6 g6')
      have l6 := ld_own w0 h6
      by_cases c2 : sz8 a.toNat = 2
      · have k2 : decide ((sz8 a.toNat : Int) = 2) = true := decide_eq_true (by omega)
        simp -implicitDefEqProofs only [go_sem, Nat.reduceEqDiff, Nat.reduceLT, Nat.reduceAdd, Nat.reduceMul, Int.reduceEq, Int.reduceLT, Int.reduceLE, Int.reduceNe, Int.reduceBEq, Int.reduceToNat, ↓reduceIte, k2]
        refine vdraw_t [⟨0, .p, [], []⟩, ⟨1, .n, [], []⟩, ⟨2, .p, [], []⟩, ⟨3, .p, [], []⟩, ⟨4, .p, [], []⟩, ⟨5, .n, [], []⟩, ⟨6, .p, [], []⟩, ⟨7, .n, [], []⟩, ⟨8, .p, [], []⟩, ⟨9, .p, [], []⟩, ⟨10, .p, [], []⟩, ⟨11, .p, [], []⟩, ⟨12, .n, [], []⟩, ⟨13, .p, [], []⟩, ⟨14, .n, [], []⟩, ⟨15, .p, [], []⟩, ⟨16, .p, [], []⟩] [0, 1, 3, 7, 15, 31, 15, 79, 255, 511, 1023, 2047, 4095, 2047, 10239, 32767, 65535] mixed (by kernel_rfl) ?_
        have har : 194 ≤ a.toNat ∧ a.toNat < 224 := by
          unfold sz8 at c2
          repeat' split at c2
          all_goals omega
        have hi0 : ix8 a.toNat = 0 := by
          unfold ix8
          repeat' split
          all_goals omega
        rw [hi0] at hacc
        have hlh : lo = 128 ∧ hi = 191 := by cases hacc; exact ⟨rfl, rfl⟩
        cases hl : l with
        | nil =>
          have d3 : decide ((q.length : Int) < 2) = true := decide_eq_true (by rw [hqa, hl, List.length_singleton]; omega)
          simp -implicitDefEqProofs only [go_sem, Nat.reduceEqDiff, Nat.reduceLT, Nat.reduceAdd, Nat.reduceMul, Int.reduceEq, Int.reduceLT, Int.reduceLE, Int.reduceNe, Int.reduceBEq, Int.reduceToNat, ↓reduceIte, f0, d3]
          have hbad : okU p = false := by rw [← hok, hqa]; exact bad_2 (by omega) har.2 (fun b hb => by rw [hl] at hb; cases hb)
          rw [hbad]
          exact ⟨rfl, s4⟩
        | cons b l' =>
          have hb1 : q[1]? = some b := by rw [hqa, hl]; rfl
          have hql2 : 2 ≤ q.length := by rw [hqa, hl]; simp
          have d3 : decide ((q.length : Int) < 2) = false := decide_eq_false (by omega)
          have d4 : decide ((1 : Int) < (q.length : Int)) = true := decide_eq_true (by omega)
          have b1 : bt (str q) 1 = b.toNat := bt_str hb1
          by_cases t1 : b.toNat < lo
          · have d5 : decide ((b.toNat : Int) < (lo : Int)) = true := decide_eq_true (by omega)
            simp -implicitDefEqProofs only [go_sem, Nat.reduceEqDiff, Nat.reduceLT, Nat.reduceAdd, Nat.reduceMul, Int.reduceEq, Int.reduceLT, Int.reduceLE, Int.reduceNe, Int.reduceBEq, Int.reduceToNat, ↓reduceIte, f0, d3, d4, b1, l6, d5]
            have hbad : okU p = false := by
              rw [← hok, hqa]
              refine bad_2 (by omega) har.2 (fun b' hb' => ?_)
              rw [hl] at hb'; cases hb'
              unfold two cont
              rw [decide_eq_false (show ¬ 128 ≤ b.toNat by omega)]; simp
            rw [hbad]
            exact ⟨rfl, s4⟩
          · have d5 : decide ((b.toNat : Int) < (lo : Int)) = false := decide_eq_false (by omega)
            by_cases t2 : hi < b.toNat
            · have d6 : decide ((hi : Int) < (b.toNat : Int)) = true := decide_eq_true (by omega)
              simp -implicitDefEqProofs only [go_sem, Nat.reduceEqDiff, Nat.reduceLT, Nat.reduceAdd, Nat.reduceMul, Int.reduceEq, Int.reduceLT, Int.reduceLE, Int.reduceNe, Int.reduceBEq, Int.reduceToNat, ↓reduceIte, f0, d3, d4, b1, l6, d5, d6]
              have hbad : okU p = false := by
                rw [← hok, hqa]
                refine bad_2 (by omega) har.2 (fun b' hb' => ?_)
                rw [hl] at hb'; cases hb'
                unfold two cont
                rw [decide_eq_false (show ¬ b.toNat < 192 by omega)]; simp
              rw [hbad]
              exact ⟨rfl, s4⟩
            · have d6 : decide ((hi : Int) < (b.toNat : Int)) = false := decide_eq_false (by omega)
              have k8 : decide ((2 : Int) ≤ (q.length : Int)) = true := decide_eq_true (by omega)
              have y2 := str_drop' q 2
              simp -implicitDefEqProofs only [go_sem, Nat.reduceEqDiff, Nat.reduceLT, Nat.reduceAdd, Nat.reduceMul, Int.reduceEq, Int.reduceLT, Int.reduceLE, Int.reduceNe, Int.reduceBEq, Int.reduceToNat, ↓reduceIte, f0, d3, d4, b1, l6, d5, d6, k8, y2]
              have htw : two a b = true := by
                unfold two cont
                rw [decide_eq_true har.1, decide_eq_true har.2, decide_eq_true (show 128 ≤ b.toNat by omega), decide_eq_true (show b.toNat < 192 by omega)]; rfl
              refine ⟨(q.drop 2).length, by rw [List.length_drop]; omega, q.drop 2, rfl, by simp -implicitDefEqProofs only [go_sem, Nat.reduceEqDiff, Nat.reduceLT, Nat.reduceAdd, Nat.reduceMul, Int.reduceEq, Int.reduceLT, Int.reduceLE, Int.reduceNe, Int.reduceBEq, Int.reduceToNat, ↓reduceIte], ?_, s4⟩
              rw [← hok, hqa, hl, okU_two htw]; rfl
      · have k2 : decide ((sz8 a.toNat : Int) = 2) = false := decide_eq_false (by omega)
        by_cases c3 : sz8 a.toNat = 3
        · have k3 : decide ((sz8 a.toNat : Int) = 3) = true := decide_eq_true (by omega)
          simp -implicitDefEqProofs only [go_sem, Nat.reduceEqDiff, Nat.reduceLT, Nat.reduceAdd, Nat.reduceMul, Int.reduceEq, Int.reduceLT, Int.reduceLE, Int.reduceNe, Int.reduceBEq, Int.reduceToNat, ↓reduceIte, k2, k3]
          refine vdraw_t [⟨0, .p, [], []⟩, ⟨1, .n, [], []⟩, ⟨2, .p, [], []⟩, ⟨3, .p, [], []⟩, ⟨4, .p, [], []⟩, ⟨5, .n, [], []⟩, ⟨6, .p, [], []⟩, ⟨7, .n, [], []⟩, ⟨8, .p, [], []⟩, ⟨9, .p, [], []⟩, ⟨10, .p, [], []⟩, ⟨11, .p, [], []⟩, ⟨12, .n, [], []⟩, ⟨13, .p, [], []⟩, ⟨14, .n, [], []⟩, ⟨15, .p, [], []⟩, ⟨16, .p, [], []⟩, ⟨17, .p, [], []⟩, ⟨18, .p, [], []⟩, ⟨19, .n, [], []⟩, ⟨20, .p, [], []⟩, ⟨21, .p, [], []⟩, ⟨22, .p, [], []⟩, ⟨23, .p, [], []⟩, ⟨24, .n, [], []⟩, ⟨25, .p, [], []⟩, ⟨26, .p, [], []⟩] [0, 1, 3, 7, 15, 31, 15, 79, 255, 511, 1023, 2047, 4095, 2047, 10239, 32767, 65535, 131071, 262143, 524287, 1048575, 2097151, 4194303, 8388607, 16777215, 33554431, 67108863] mixed (by kernel_rfl) ?_
          have har : 224 ≤ a.toNat ∧ a.toNat < 240 := by
            unfold sz8 at c3
            repeat' split at c3
            all_goals omega
          have hlh : (a.toNat = 224 ∧ lo = 160 ∧ hi = 191) ∨ (a.toNat = 237 ∧ lo = 128 ∧ hi = 159) ∨ (a.toNat ≠ 224 ∧ a.toNat ≠ 237 ∧ lo = 128 ∧ hi = 191) := by
            by_cases z1 : a.toNat = 224
            · rw [show ix8 a.toNat = 1 by rw [z1]; rfl] at hacc
              cases hacc; exact .inl ⟨z1, rfl, rfl⟩
            · by_cases z2 : a.toNat = 237
              · rw [show ix8 a.toNat = 2 by rw [z2]; rfl] at hacc
                cases hacc; exact .inr (.inl ⟨z2, rfl, rfl⟩)
              · have z3 : ix8 a.toNat = 0 := by
                  unfold ix8
                  repeat' split
                  all_goals omega
                rw [z3] at hacc
                cases hacc; exact .inr (.inr ⟨z1, z2, rfl, rfl⟩)
          have mk : ∀ b c : UInt8, three a b c = true ↔ (lo ≤ b.toNat ∧ b.toNat ≤ hi ∧ 128 ≤ c.toNat ∧ c.toNat ≤ 191) := fun b c => by
            unfold three cont
            simp only [Bool.and_eq_true, Bool.or_eq_true, Bool.not_eq_true', decide_eq_true_eq, decide_eq_false_iff_not]
            omega
          by_cases hq3 : q.length < 3
          · have d3 : decide ((q.length : Int) < 3) = true := decide_eq_true (by omega)
            simp -implicitDefEqProofs only [go_sem, Nat.reduceEqDiff, Nat.reduceLT, Nat.reduceAdd, Nat.reduceMul, Int.reduceEq, Int.reduceLT, Int.reduceLE, Int.reduceNe, Int.reduceBEq, Int.reduceToNat, ↓reduceIte, f0, d3]
            have hbad : okU p = false := by
              rw [← hok, hqa]
              refine bad_3 har.1 har.2 (fun b c _ hc => ?_)
              have := (List.getElem?_eq_some_iff.1 hc).1
              rw [hqa, List.length_cons] at hq3; omega
            rw [hbad]
            exact ⟨rfl, s4⟩
          · have d3 : decide ((q.length : Int) < 3) = false := decide_eq_false (by omega)
            obtain ⟨b, hb1⟩ : ∃ b, q[1]? = some b := ⟨_, List.getElem?_eq_getElem (by omega)⟩
            obtain ⟨c, hc1⟩ : ∃ c, q[2]? = some c := ⟨_, List.getElem?_eq_getElem (by omega)⟩
            have hlb : l[0]? = some b := by rw [hqa] at hb1; simpa using hb1
            have hlc : l[1]? = some c := by rw [hqa] at hc1; simpa using hc1
            have d4 : decide ((1 : Int) < (q.length : Int)) = true := decide_eq_true (by omega)
            have d4' : decide ((2 : Int) < (q.length : Int)) = true := decide_eq_true (by omega)
            have b1 : bt (str q) 1 = b.toNat := bt_str hb1
            have b2 : bt (str q) 2 = c.toNat := bt_str hc1
            have hbad : three a b c = false → okU p = false := fun h => by
              rw [← hok, hqa]
              refine bad_3 har.1 har.2 (fun b' c' hb' hc' => ?_)
              rw [hlb] at hb'; rw [hlc] at hc'
              cases hb'; cases hc'; exact h
            have nob : ¬ (lo ≤ b.toNat ∧ b.toNat ≤ hi ∧ 128 ≤ c.toNat ∧ c.toNat ≤ 191) → okU p = false := fun h => hbad (by
              cases e : three a b c with
              | false => rfl
              | true => exact absurd ((mk b c).1 e) h)
            have d5 : decide ((b.toNat : Int) < (lo : Int)) = decide (b.toNat < lo) := by apply decide_eq_decide.2; omega
            have d6 : decide ((hi : Int) < (b.toNat : Int)) = decide (hi < b.toNat) := by apply decide_eq_decide.2; omega
            have d7 : decide ((c.toNat : Int) < 128) = decide (c.toNat < 128) := by apply decide_eq_decide.2; omega
            have d8 : decide ((191 : Int) < (c.toNat : Int)) = decide (191 < c.toNat) := by apply decide_eq_decide.2; omega
            by_cases t1 : b.toNat < lo
            · rw [decide_eq_true t1] at d5
              simp -implicitDefEqProofs only [go_sem, Nat.reduceEqDiff, Nat.reduceLT, Nat.reduceAdd, Nat.reduceMul, Int.reduceEq, Int.reduceLT, Int.reduceLE, Int.reduceNe, Int.reduceBEq, Int.reduceToNat, ↓reduceIte, f0, d3, d4, d4', b1, b2, l6, d5]
              rw [nob (by omega)]
              exact ⟨rfl, s4⟩
            rw [decide_eq_false t1] at d5
            by_cases t2 : hi < b.toNat
            · rw [decide_eq_true t2] at d6
              simp -implicitDefEqProofs only [go_sem, Nat.reduceEqDiff, Nat.reduceLT, Nat.reduceAdd, Nat.reduceMul, Int.reduceEq, Int.reduceLT, Int.reduceLE, Int.reduceNe, Int.reduceBEq, Int.reduceToNat, ↓reduceIte, f0, d3, d4, d4', b1, b2, l6, d5, d6]
              rw [nob (by omega)]
              exact ⟨rfl, s4⟩
            rw [decide_eq_false t2] at d6
            by_cases t3 : c.toNat < 128
            · rw [decide_eq_true t3] at d7
              simp -implicitDefEqProofs only [go_sem, Nat.reduceEqDiff, Nat.reduceLT, Nat.reduceAdd, Nat.reduceMul, Int.reduceEq, Int.reduceLT, Int.reduceLE, Int.reduceNe, Int.reduceBEq, Int.reduceToNat, ↓reduceIte, f0, d3, d4, d4', b1, b2, l6, d5, d6, d7]
              rw [nob (by omega)]
              exact ⟨rfl, s4⟩
            rw [decide_eq_false t3] at d7
            by_cases t4 : 191 < c.toNat
            · rw [decide_eq_true t4] at d8
              simp -implicitDefEqProofs only [go_sem, Nat.reduceEqDiff, Nat.reduceLT, Nat.reduceAdd, Nat.reduceMul, Int.reduceEq, Int.reduceLT, Int.reduceLE, Int.reduceNe, Int.reduceBEq, Int.reduceToNat, ↓reduceIte, f0, d3, d4, d4', b1, b2, l6, d5, d6, d7, d8]
              rw [nob (by omega)]
              exact ⟨rfl, s4⟩
            rw [decide_eq_false t4] at d8
            have k8 : decide ((3 : Int) ≤ (q.length : Int)) = true := decide_eq_true (by omega)
            have y2 := str_drop' q 3
            simp -implicitDefEqProofs only [go_sem, Nat.reduceEqDiff, Nat.reduceLT, Nat.reduceAdd, Nat.reduceMul, Int.reduceEq, Int.reduceLT, Int.reduceLE, Int.reduceNe, Int.reduceBEq, Int.reduceToNat, ↓reduceIte, f0, d3, d4, d4', b1, b2, l6, d5, d6, d7, d8, k8, y2]
            refine ⟨(q.drop 3).length, by rw [List.length_drop]; omega, q.drop 3, rfl, by simp -implicitDefEqProofs only [go_sem, Nat.reduceEqDiff, Nat.reduceLT, Nat.reduceAdd, Nat.reduceMul, Int.reduceEq, Int.reduceLT, Int.reduceLE, Int.reduceNe, Int.reduceBEq, Int.reduceToNat, ↓reduceIte], ?_, s4⟩
            have hth := (mk b c).2 (by omega)
            match l, hlb, hlc with
            | b' :: c' :: l', hlb, hlc =>
              cases hlb; cases hlc
              rw [← hok, hqa, okU_three hth]; rfl
        · have k3 : decide ((sz8 a.toNat : Int) = 3) = false := decide_eq_false (by omega)
          by_cases c4 : sz8 a.toNat = 4
          · have k4 : decide ((sz8 a.toNat : Int) = 4) = true := decide_eq_true (by omega)
            simp -implicitDefEqProofs only [go_sem, Nat.reduceEqDiff, Nat.reduceLT, Nat.reduceAdd, Nat.reduceMul, Int.reduceEq, Int.reduceLT, Int.reduceLE, Int.reduceNe, Int.reduceBEq, Int.reduceToNat, ↓reduceIte, k2, k3, k4]
            refine vdraw_t [⟨0, .p, [], []⟩, ⟨1, .n, [], []⟩, ⟨2, .p, [], []⟩, ⟨3, .p, [], []⟩, ⟨4, .p, [], []⟩, ⟨5, .n, [], []⟩, ⟨6, .p, [], []⟩, ⟨7, .n, [], []⟩, ⟨8, .p, [], []⟩, ⟨9, .p, [], []⟩, ⟨10, .p, [], []⟩, ⟨11, .p, [], []⟩, ⟨12, .n, [], []⟩, ⟨13, .p, [], []⟩, ⟨14, .n, [], []⟩, ⟨15, .p, [], []⟩, ⟨16, .p, [], []⟩, ⟨17, .p, [], []⟩, ⟨18, .p, [], []⟩, ⟨19, .n, [], []⟩, ⟨20, .p, [], []⟩, ⟨21, .p, [], []⟩, ⟨22, .p, [], []⟩, ⟨23, .p, [], []⟩, ⟨24, .n, [], []⟩, ⟨25, .p, [], []⟩, ⟨26, .p, [], []⟩, ⟨27, .p, [], []⟩, ⟨28, .p, [], []⟩, ⟨29, .n, [], []⟩, ⟨30, .p, [], []⟩, ⟨31, .p, [], []⟩, ⟨32, .p, [], []⟩, ⟨33, .p, [], []⟩, ⟨34, .n, [], []⟩, ⟨35, .p, [], []⟩, ⟨36, .p, [], []⟩] [0, 1, 3, 7, 15, 31, 15, 79, 255, 511, 1023, 2047, 4095, 2047, 10239, 32767, 65535, 131071, 262143, 524287, 1048575, 2097151, 4194303, 8388607, 16777215, 33554431, 67108863, 134217727, 268435455, 536870911, 1073741823, 2147483647, 4294967295, 8589934591, 17179869183, 34359738367, 68719476735] mixed (by kernel_rfl) ?_
            have har : 240 ≤ a.toNat ∧ a.toNat < 245 := by
              unfold sz8 at c4
              repeat' split at c4
              all_goals omega
            have hlh : (a.toNat = 240 ∧ lo = 144 ∧ hi = 191) ∨ (a.toNat = 244 ∧ lo = 128 ∧ hi = 143) ∨ (a.toNat ≠ 240 ∧ a.toNat ≠ 244 ∧ lo = 128 ∧ hi = 191) := by
              by_cases z1 : a.toNat = 240
              · rw [show ix8 a.toNat = 3 by rw [z1]; rfl] at hacc
                cases hacc; exact .inl ⟨z1, rfl, rfl⟩
              · by_cases z2 : a.toNat = 244
                · rw [show ix8 a.toNat = 4 by rw [z2]; rfl] at hacc
                  cases hacc; exact .inr (.inl ⟨z2, rfl, rfl⟩)
                · have z3 : ix8 a.toNat = 0 := by
                    unfold ix8
                    repeat' split
                    all_goals omega
                  rw [z3] at hacc
                  cases hacc; exact .inr (.inr ⟨z1, z2, rfl, rfl⟩)
            have mk : ∀ b c e : UInt8, four a b c e = true ↔ (lo ≤ b.toNat ∧ b.toNat ≤ hi ∧ 128 ≤ c.toNat ∧ c.toNat ≤ 191 ∧ 128 ≤ e.toNat ∧ e.toNat ≤ 191) := fun b c e => by
              unfold four cont
              simp only [Bool.and_eq_true, Bool.or_eq_true, Bool.not_eq_true', decide_eq_true_eq, decide_eq_false_iff_not]
              omega
            by_cases hq4 : q.length < 4
            · have d3 : decide ((q.length : Int) < 4) = true := decide_eq_true (by omega)
              simp -implicitDefEqProofs only [go_sem, Nat.reduceEqDiff, Nat.reduceLT, Nat.reduceAdd, Nat.reduceMul, Int.reduceEq, Int.reduceLT, Int.reduceLE, Int.reduceNe, Int.reduceBEq, Int.reduceToNat, ↓reduceIte, f0, d3]
              have hbad : okU p = false := by
                rw [← hok, hqa]
                refine bad_4 har.1 (fun b c e _ _ he => ?_)
                have := (List.getElem?_eq_some_iff.1 he).1
                rw [hqa, List.length_cons] at hq4; omega
              rw [hbad]
              exact ⟨rfl, s4⟩
            · have d3 : decide ((q.length : Int) < 4) = false := decide_eq_false (by omega)
              obtain ⟨b, hb1⟩ : ∃ b, q[1]? = some b := ⟨_, List.getElem?_eq_getElem (by omega)⟩
              obtain ⟨c, hc1⟩ : ∃ c, q[2]? = some c := ⟨_, List.getElem?_eq_getElem (by omega)⟩
              obtain ⟨e, he1⟩ : ∃ e, q[3]? = some e := ⟨_, List.getElem?_eq_getElem (by omega)⟩
              have hle : l[2]? = some e := by rw [hqa] at he1; simpa using he1
              have d4'' : decide ((3 : Int) < (q.length : Int)) = true := decide_eq_true (by omega)
              have b3 : bt (str q) 3 = e.toNat := bt_str he1
              have hlb : l[0]? = some b := by rw [hqa] at hb1; simpa using hb1
              have hlc : l[1]? = some c := by rw [hqa] at hc1; simpa using hc1
              have d4 : decide ((1 : Int) < (q.length : Int)) = true := decide_eq_true (by omega)
              have d4' : decide ((2 : Int) < (q.length : Int)) = true := decide_eq_true (by omega)
              have b1 : bt (str q) 1 = b.toNat := bt_str hb1
              have b2 : bt (str q) 2 = c.toNat := bt_str hc1
              have hbad : four a b c e = false → okU p = false := fun h => by
                rw [← hok, hqa]
                refine bad_4 har.1 (fun b' c' e' hb' hc' he' => ?_)
                rw [hlb] at hb'; rw [hlc] at hc'; rw [hle] at he'
                cases hb'; cases hc'; cases he'; exact h
              have nob : ¬ (lo ≤ b.toNat ∧ b.toNat ≤ hi ∧ 128 ≤ c.toNat ∧ c.toNat ≤ 191 ∧ 128 ≤ e.toNat ∧ e.toNat ≤ 191) → okU p = false := fun h => hbad (by
                cases ee : four a b c e with
                | false => rfl
                | true => exact absurd ((mk b c e).1 ee) h)
              have d5 : decide ((b.toNat : Int) < (lo : Int)) = decide (b.toNat < lo) := by apply decide_eq_decide.2; omega
              have d6 : decide ((hi : Int) < (b.toNat : Int)) = decide (hi < b.toNat) := by apply decide_eq_decide.2; omega
              have d7 : decide ((c.toNat : Int) < 128) = decide (c.toNat < 128) := by apply decide_eq_decide.2; omega
              have d8 : decide ((191 : Int) < (c.toNat : Int)) = decide (191 < c.toNat) := by apply decide_eq_decide.2; omega
              have d9 : decide ((e.toNat : Int) < 128) = decide (e.toNat < 128) := by apply decide_eq_decide.2; omega
              have d10 : decide ((191 : Int) < (e.toNat : Int)) = decide (191 < e.toNat) := by apply decide_eq_decide.2; omega
              by_cases t1 : b.toNat < lo
              · rw [decide_eq_true t1] at d5
                simp -implicitDefEqProofs only [go_sem, Nat.reduceEqDiff, Nat.reduceLT, Nat.reduceAdd, Nat.reduceMul, Int.reduceEq, Int.reduceLT, Int.reduceLE, Int.reduceNe, Int.reduceBEq, Int.reduceToNat, ↓reduceIte, f0, d3, d4, d4', d4'', b1, b2, b3, l6, d5]
                rw [nob (by omega)]
                exact ⟨rfl, s4⟩
              rw [decide_eq_false t1] at d5
              by_cases t2 : hi < b.toNat
              · rw [decide_eq_true t2] at d6
                simp -implicitDefEqProofs only [go_sem, Nat.reduceEqDiff, Nat.reduceLT, Nat.reduceAdd, Nat.reduceMul, Int.reduceEq, Int.reduceLT, Int.reduceLE, Int.reduceNe, Int.reduceBEq, Int.reduceToNat, ↓reduceIte, f0, d3, d4, d4', d4'', b1, b2, b3, l6, d5, d6]
                rw [nob (by omega)]
                exact ⟨rfl, s4⟩
              rw [decide_eq_false t2] at d6
              by_cases t3 : c.toNat < 128
              · rw [decide_eq_true t3] at d7
                simp -implicitDefEqProofs only [go_sem, Nat.reduceEqDiff, Nat.reduceLT, Nat.reduceAdd, Nat.reduceMul, Int.reduceEq, Int.reduceLT, Int.reduceLE, Int.reduceNe, Int.reduceBEq, Int.reduceToNat, ↓reduceIte, f0, d3, d4, d4', d4'', b1, b2, b3, l6, d5, d6, d7]
                rw [nob (by omega)]
                exact ⟨rfl, s4⟩
              rw [decide_eq_false t3] at d7
              by_cases t4 : 191 < c.toNat
              · rw [decide_eq_true t4] at d8
                simp -implicitDefEqProofs only [go_sem, Nat.reduceEqDiff, Nat.reduceLT, Nat.reduceAdd, Nat.reduceMul, Int.reduceEq, Int.reduceLT, Int.reduceLE, Int.reduceNe, Int.reduceBEq, Int.reduceToNat, ↓reduceIte, f0, d3, d4, d4', d4'', b1, b2, b3, l6, d5, d6, d7, d8]
                rw [nob (by omega)]
                exact ⟨rfl, s4⟩
              rw [decide_eq_false t4] at d8
              by_cases t5 : e.toNat < 128
              · rw [decide_eq_true t5] at d9
                simp -implicitDefEqProofs only [go_sem, Nat.reduceEqDiff, Nat.reduceLT, Nat.reduceAdd, Nat.reduceMul, Int.reduceEq, Int.reduceLT, Int.reduceLE, Int.reduceNe, Int.reduceBEq, Int.reduceToNat, ↓reduceIte, f0, d3, d4, d4', d4'', b1, b2, b3, l6, d5, d6, d7, d8, d9]
                rw [nob (by omega)]
                exact ⟨rfl, s4⟩
              rw [decide_eq_false t5] at d9
              by_cases t6 : 191 < e.toNat
              · rw [decide_eq_true t6] at d10
                simp -implicitDefEqProofs only [go_sem, Nat.reduceEqDiff, Nat.reduceLT, Nat.reduceAdd, Nat.reduceMul, Int.reduceEq, Int.reduceLT, Int.reduceLE, Int.reduceNe, Int.reduceBEq, Int.reduceToNat, ↓reduceIte, f0, d3, d4, d4', d4'', b1, b2, b3, l6, d5, d6, d7, d8, d9, d10]
                rw [nob (by omega)]
                exact ⟨rfl, s4⟩
              rw [decide_eq_false t6] at d10
              have k8 : decide ((4 : Int) ≤ (q.length : Int)) = true := decide_eq_true (by omega)
              have y2 := str_drop' q 4
              simp -implicitDefEqProofs only [go_sem, Nat.reduceEqDiff, Nat.reduceLT, Nat.reduceAdd, Nat.reduceMul, Int.reduceEq, Int.reduceLT, Int.reduceLE, Int.reduceNe, Int.reduceBEq, Int.reduceToNat, ↓reduceIte, f0, d3, d4, d4', d4'', b1, b2, b3, l6, d5, d6, d7, d8, d9, d10, k8, y2]
              refine ⟨(q.drop 4).length, by rw [List.length_drop]; omega, q.drop 4, rfl, by simp -implicitDefEqProofs only [go_sem, Nat.reduceEqDiff, Nat.reduceLT, Nat.reduceAdd, Nat.reduceMul, Int.reduceEq, Int.reduceLT, Int.reduceLE, Int.reduceNe, Int.reduceBEq, Int.reduceToNat, ↓reduceIte], ?_, s4⟩
              have hth := (mk b c e).2 (by omega)
              match l, hlb, hlc, hle with
              | b' :: c' :: e' :: l', hlb, hlc, hle =>
                cases hlb; cases hlc; cases hle
                rw [← hok, hqa, okU_four hth]; rfl
          · have k4 : decide ((sz8 a.toNat : Int) = 4) = false := decide_eq_false (by omega)
            simp -implicitDefEqProofs only [go_sem, Nat.reduceEqDiff, Nat.reduceLT, Nat.reduceAdd, Nat.reduceMul, Int.reduceEq, Int.reduceLT, Int.reduceLE, Int.reduceNe, Int.reduceBEq, Int.reduceToNat, ↓reduceIte, k2, k3, k4]
            have hbad : okU p = false := by
              rw [← hok, hqa]
              refine bad_1 (by omega) ?_
              unfold sz8 at c2 c3 c4
              split at c2 <;> (try split at c3) <;> (try split at c4) <;> (try omega)
              all_goals (repeat' split at *) <;> omega
            rw [hbad]
            exact ⟨rfl, s4⟩
end Go.Proofs.YtoolnkemkhianaaDoor
