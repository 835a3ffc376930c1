/-
  The law KeyFinds, walked.
  Conditions: as each theorem states them.
-/
import Derived.Test.YtoolnkemkhianaaDoorKor
namespace Go.Proofs.YtoolnkemkhianaaDoor
open Go Go.RowKit Go.Proofs.YtoolnkemkhianaaDoorW
set_option maxRecDepth 100000
set_option maxHeartbeats 1000000
set_option linter.unusedSimpArgs false
set_option linter.unusedVariables false
theorem bsv1 (x : Va) : bsCells Tryd.prog 36 1 #[(0, va x)] = some (vc x).toArray := by kernel_rfl
attribute [go_sem] bsv1
def headIs (r : List Va) (v : Va) : Bool := match r with | [] => false | x :: _ => decide (x.k = v.k) && sameVs x v
theorem enc_head (v : Va) : ∃ b l, enc v = b :: l ∧ b ≠ 255 := by
  unfold enc
  split
  · exact ⟨1, _, rfl, by decide⟩
  split
  · exact ⟨2, _, rfl, by decide⟩
  split
  · exact ⟨3, _, rfl, by decide⟩
  · exact ⟨4, _, rfl, by decide⟩
theorem finds_law {v : Va} {r : List Va} {e : List UInt8} (hv : rightB v = true) (wv : v.wf) (hr : (r.take 6).all rightB = true) (wr : ∀ x ∈ r, x.wf) (hb : Beh (enc v) e) :
    (!Op.bytesLess (encR (r.take 6)) (enc v) && Op.bytesLess (encR (r.take 6)) e) = headIs r v := by
  rcases beh_split hb with ⟨_, hall⟩ | ⟨pre, b, n, hne, hpe, rfl⟩
  · obtain ⟨b, l, he, hne⟩ := enc_head v
    rw [he, List.all_cons, Bool.and_eq_true, beq_iff_eq] at hall
    exact absurd hall.1 hne
  · have q := behind_in hne n pre (encR (r.take 6))
    rw [← hpe] at q
    rw [q]
    cases r with
    | nil =>
      obtain ⟨b, l, he, _⟩ := enc_head v
      rw [he]
      exact begins_nil2 b l
    | cons x t =>
      rw [List.take_succ_cons, List.all_cons, Bool.and_eq_true] at hr
      have e1 : encR (List.take (5 + 1) (x :: t)) = enc x ++ encR (t.take 5) := by rw [List.take_succ_cons]; rfl
      show beginsB (encR (List.take (5 + 1) (x :: t))) (enc v) = _
      rw [e1]
      have key := begins_enc hr.1 hv (wr x (by simp)) wv (encR (t.take 5))
      unfold headIs
      simp only []
      by_cases c : x = v
      · rw [key.2 c, c, same_refl]; simp
      · have h1 : beginsB (enc x ++ encR (t.take 5)) (enc v) = false := by
          cases h : beginsB (enc x ++ encR (t.take 5)) (enc v) with
          | false => rfl
          | true => exact absurd (key.1 h) c
        have h2 : sameVs x v = false := by
          cases h : sameVs x v with
          | false => rfl
          | true => exact absurd (same_eq hr.1 hv h) c
        rw [h1, h2]; simp
/-- Rows, to be read. -/
def Rs (w0 : World) (v : Value) (l : List (Value × List Va)) : Prop := Rd w0 (fun _ => none) 1 v l.length (l.map (·.1)) ∧ ∀ x ∈ l, Vs w0 (fun _ => none) x.1 x.2 ∧ ∀ y ∈ x.2, y.wf
section
variable {w0 : World} {H Hb : Hp}
def KfI (H0 : Hp) (bx : Nat) (rows p e : Value) (n : Nat) (m : Nat) (F : Fr) (H : Hp) : Prop :=
  ∃ k, k + m = n ∧ F 2 = .pointer (some ⟨bx, 0, none⟩) ∧ F 5 = p ∧ F 7 = e ∧ F 28 = rows ∧ F 29 = .int .i64 (n : Int) ∧ F 30 = .int .i64 (k : Int) ∧ Sub H0 H
theorem keyFinds_law {x : Va} {u : Value} {ls : List (Value × List Va)} (ht : Tbl w0) (hx : x.wf) (hu : Rs w0 u ls) :
    ACalls Tryd.prog w0 6 #[va x, u] (fun _ => none) fun r H' => r = .bool true ∧ True := by
  obtain ⟨hu, hrow⟩ := hu
  obtain ⟨ua, uc, eu, hua⟩ := Rd.slice hu
  refine acalls_of Tryd.func6 rfl Tryd.ntmps6 r6 (by simp) ?_
  simp -implicitDefEqProofs only [go_sem, Nat.reduceEqDiff, Nat.reduceLT, Nat.reduceAdd, Nat.reduceMul, Int.reduceEq, Int.reduceLT, Int.reduceLE, Int.reduceNe, Int.reduceBEq, Int.reduceToNat, ↓reduceIte, eu]
  refine newK_of ?_
  intro b1 H1 hb1 hn1 h1 s1 g1
  have l1 := ldc w0 (l := vc x) h1 4
  simp -implicitDefEqProofs only [go_sem, Nat.reduceEqDiff, Nat.reduceLT, Nat.reduceAdd, Nat.reduceMul, Int.reduceEq, Int.reduceLT, Int.reduceLE, Int.reduceNe, Int.reduceBEq, Int.reduceToNat, ↓reduceIte]
  refine (awake3_ok ht).mono ?_
  rintro r H ⟨rfl, rfl⟩
  simp -implicitDefEqProofs only [go_sem, Nat.reduceEqDiff, Nat.reduceLT, Nat.reduceAdd, Nat.reduceMul, Int.reduceEq, Int.reduceLT, Int.reduceLE, Int.reduceNe, Int.reduceBEq, Int.reduceToNat, ↓reduceIte, l1]
  refine newK_of ?_
  intro b2 H2 hb2 hn2 h2 s2 g2
  simp -implicitDefEqProofs only [go_sem, Nat.reduceEqDiff, Nat.reduceLT, Nat.reduceAdd, Nat.reduceMul, Int.reduceEq, Int.reduceLT, Int.reduceLE, Int.reduceNe, Int.reduceBEq, Int.reduceToNat, ↓reduceIte]
  have hone : H2 b2 = some (.cells ([x].flatMap vc).toArray 36 (0, 0)) := by rw [h2]; simp
  refine (ACalls.hi (kbytes_ok (l := [x]) ht (Vs.lit hone rfl) (by simp) (fun y hy => by rw [List.mem_singleton.1 hy]; exact hx))).mono ?_
  rintro r3 H3 ⟨⟨s3, h3⟩, hh3⟩
  have hb3 := s3 _ _ (s2 _ _ h1)
  have l3 := ldc w0 (l := vc x) hb3 4
  rcases h3 with ⟨q1, p, rfl, own1, fr1⟩ | ⟨q1, rfl⟩
  · have hr : rightB x = true := by simpa using q1
    have ee : encR [x] = enc x := by simp [encR]
    rw [ee] at own1
    have hel := enc_len hr
    simp -implicitDefEqProofs only [go_sem, Nat.reduceEqDiff, Nat.reduceLT, Nat.reduceAdd, Nat.reduceMul, Int.reduceEq, Int.reduceLT, Int.reduceLE, Int.reduceNe, Int.reduceBEq, Int.reduceToNat, ↓reduceIte]
    refine (ACalls.hi (behind_ok own1.bt (by omega))).mono ?_
    rintro r4 H4 ⟨⟨e, hbe, hel4, own4, fr4, s4⟩, hh4⟩
    have own14 := own1.sub s4
    have hb4 := s4 _ _ hb3
    simp -implicitDefEqProofs only [go_sem, Nat.reduceEqDiff, Nat.reduceLT, Nat.reduceAdd, Nat.reduceMul, Int.reduceEq, Int.reduceLT, Int.reduceLE, Int.reduceNe, Int.reduceBEq, Int.reduceToNat, ↓reduceIte]
    refine AC.loopH (KfI H4 b1 (.slice ua ls.length uc) p r4 ls.length) (n := ls.length) ⟨0, by omega, by simp -implicitDefEqProofs only [go_sem, Nat.reduceEqDiff, Nat.reduceLT, Nat.reduceAdd, Nat.reduceMul, Int.reduceEq, Int.reduceLT, Int.reduceLE, Int.reduceNe, Int.reduceBEq, Int.reduceToNat, ↓reduceIte], by simp -implicitDefEqProofs only [go_sem, Nat.reduceEqDiff, Nat.reduceLT, Nat.reduceAdd, Nat.reduceMul, Int.reduceEq, Int.reduceLT, Int.reduceLE, Int.reduceNe, Int.reduceBEq, Int.reduceToNat, ↓reduceIte], by simp -implicitDefEqProofs only [go_sem, Nat.reduceEqDiff, Nat.reduceLT, Nat.reduceAdd, Nat.reduceMul, Int.reduceEq, Int.reduceLT, Int.reduceLE, Int.reduceNe, Int.reduceBEq, Int.reduceToNat, ↓reduceIte], by simp -implicitDefEqProofs only [go_sem, Nat.reduceEqDiff, Nat.reduceLT, Nat.reduceAdd, Nat.reduceMul, Int.reduceEq, Int.reduceLT, Int.reduceLE, Int.reduceNe, Int.reduceBEq, Int.reduceToNat, ↓reduceIte, eu], by simp -implicitDefEqProofs only [go_sem, Nat.reduceEqDiff, Nat.reduceLT, Nat.reduceAdd, Nat.reduceMul, Int.reduceEq, Int.reduceLT, Int.reduceLE, Int.reduceNe, Int.reduceBEq, Int.reduceToNat, ↓reduceIte], by simp -implicitDefEqProofs only [go_sem, Nat.reduceEqDiff, Nat.reduceLT, Nat.reduceAdd, Nat.reduceMul, Int.reduceEq, Int.reduceLT, Int.reduceLE, Int.reduceNe, Int.reduceBEq, Int.reduceToNat, ↓reduceIte] <;> rfl, Sub.refl _⟩ ?_
    rintro m F H5 ⟨k, hk, f2, f5, f7, f28, f29, f30, s5⟩ hh5
    by_cases ck : k < ls.length
    · have d1 : decide ((k : Int) < (ls.length : Int)) = true := decide_eq_true (by omega)
      have d0 : decide ((0 : Int) ≤ (k : Int)) = true := decide_eq_true (by omega)
      obtain ⟨⟨rv, rl⟩, hrl⟩ : ∃ y, ls[k]? = some y := ⟨_, List.getElem?_eq_getElem ck⟩
      obtain ⟨hvs, hwf⟩ := hrow _ (List.mem_of_getElem? hrl)
      have s05 : Sub (fun _ => none) H5 := fun _ _ h => by cases h
      obtain ⟨ad, c, ea, la⟩ := Rd.at1 (hu.sub s05 hh5) (show (ls.map (·.1))[k]? = some rv by rw [List.getElem?_map, hrl]; rfl)
      rw [eu] at ea
      cases ea
      obtain ⟨ra, rc, er, hrc⟩ := Rd.slice hvs
      simp only [] at er hrc hvs hwf
      subst er
      by_cases c20 : 20 ≤ k
      · have d3 : decide ((20 : Int) ≤ (k : Int)) = true := decide_eq_true (by omega)
        simp -implicitDefEqProofs only [go_sem, Nat.reduceEqDiff, Nat.reduceLT, Nat.reduceAdd, Nat.reduceMul, Int.reduceEq, Int.reduceLT, Int.reduceLE, Int.reduceNe, Int.reduceBEq, Int.reduceToNat, ↓reduceIte, f2, f5, f7, f28, f29, f30, d0, d1, la, d3]
      · have d3 : decide ((20 : Int) ≤ (k : Int)) = false := decide_eq_false (by omega)
        have d2 : IntKind.i64.wrap ((k : Int) + 1) = (k + 1 : Nat) := by rw [i64_in] <;> omega
        simp -implicitDefEqProofs only [go_sem, Nat.reduceEqDiff, Nat.reduceLT, Nat.reduceAdd, Nat.reduceMul, Int.reduceEq, Int.reduceLT, Int.reduceLE, Int.reduceNe, Int.reduceBEq, Int.reduceToNat, ↓reduceIte, f2, f5, f7, f28, f29, f30, d0, d1, la, d3]
        refine aop_min (k := .i64) (a := (rl.length : Int)) (b := 6) (by simp -implicitDefEqProofs only [go_sem, Nat.reduceEqDiff, Nat.reduceLT, Nat.reduceAdd, Nat.reduceMul, Int.reduceEq, Int.reduceLT, Int.reduceLE, Int.reduceNe, Int.reduceBEq, Int.reduceToNat, ↓reduceIte]) (by simp -implicitDefEqProofs only [go_sem, Nat.reduceEqDiff, Nat.reduceLT, Nat.reduceAdd, Nat.reduceMul, Int.reduceEq, Int.reduceLT, Int.reduceLE, Int.reduceNe, Int.reduceBEq, Int.reduceToNat, ↓reduceIte]) ?_
        rw [min6]
        simp -implicitDefEqProofs only [go_sem, Nat.reduceEqDiff, Nat.reduceLT, Nat.reduceAdd, Nat.reduceMul, Int.reduceEq, Int.reduceLT, Int.reduceLE, Int.reduceNe, Int.reduceBEq, Int.reduceToNat, ↓reduceIte]
        refine slice_hi (dst := none) (ty := 0) (pos := "") (after := #[]) (g := none) (a := ra) (n := rl.length) (c := rc) (l := min 6 rl.length) Tryd.underlying28 s36 (by simp -implicitDefEqProofs only [go_sem, Nat.reduceEqDiff, Nat.reduceLT, Nat.reduceAdd, Nat.reduceMul, Int.reduceEq, Int.reduceLT, Int.reduceLE, Int.reduceNe, Int.reduceBEq, Int.reduceToNat, ↓reduceIte]) (by simp -implicitDefEqProofs only [go_sem, Nat.reduceEqDiff, Nat.reduceLT, Nat.reduceAdd, Nat.reduceMul, Int.reduceEq, Int.reduceLT, Int.reduceLE, Int.reduceNe, Int.reduceBEq, Int.reduceToNat, ↓reduceIte]) (by omega) ?_
        simp -implicitDefEqProofs only [go_sem, Nat.reduceEqDiff, Nat.reduceLT, Nat.reduceAdd, Nat.reduceMul, Int.reduceEq, Int.reduceLT, Int.reduceLE, Int.reduceNe, Int.reduceBEq, Int.reduceToNat, ↓reduceIte]
        have hv5 := hvs.sub s05 hh5
        have hA := hv5.front (k := min 6 rl.length) (Nat.min_le_right _ _)
        rw [take_min] at hA
        have lA : (rl.take 6).length = min 6 rl.length := List.length_take
        refine (ACalls.hi (kbytes_ok ht hA (by omega) (fun y hy => hwf y (List.mem_of_mem_take hy)))).mono ?_
        rintro r6 H6 ⟨⟨s6, h6⟩, hh6⟩
        rcases h6 with ⟨q6, q, rfl, own6, fr6⟩ | ⟨q6, rfl⟩
        · have o1 := (own14.sub s5).sub s6
          have o4 := (own4.sub s5).sub s6
          have hb6 := s6 _ _ (s5 _ _ hb4)
          have l6 := ldc w0 (l := vc x) hb6 4
          have q6' := ld_own w0 (c := (vc x).toArray) hb6
          have fl := finds_law hr hx q6 hwf hbe
          simp -implicitDefEqProofs only [go_sem, Nat.reduceEqDiff, Nat.reduceLT, Nat.reduceAdd, Nat.reduceMul, Int.reduceEq, Int.reduceLT, Int.reduceLE, Int.reduceNe, Int.reduceBEq, Int.reduceToNat, ↓reduceIte, f5, f7]
          refine (kless_ok own6.bt o1.bt).mono ?_
          rintro r H7 ⟨rfl, rfl⟩
          cases cl : Op.bytesLess (encR (rl.take 6)) (enc x) with
          | true =>
            rw [cl] at fl
            have hT : headIs rl x = false := by rw [← fl]; rfl
            simp -implicitDefEqProofs only [go_sem, Nat.reduceEqDiff, Nat.reduceLT, Nat.reduceAdd, Nat.reduceMul, Int.reduceEq, Int.reduceLT, Int.reduceLE, Int.reduceNe, Int.reduceBEq, Int.reduceToNat, ↓reduceIte, f2, f5, f7]
            refine vdraw_t [⟨0, .p, [], []⟩, ⟨1, .p, [], []⟩, ⟨2, .n, [], []⟩, ⟨3, .p, [], []⟩, ⟨4, .p, [], []⟩, ⟨5, .p, [], []⟩, ⟨6, .p, [], []⟩, ⟨7, .p, [], []⟩, ⟨8, .n, [], []⟩, ⟨9, .p, [], []⟩, ⟨10, .n, [], []⟩, ⟨11, .p, [], []⟩, ⟨12, .p, [], []⟩, ⟨13, .p, [], []⟩, ⟨14, .p, [], []⟩, ⟨15, .p, [], []⟩, ⟨16, .n, [], []⟩, ⟨17, .n, [], []⟩, ⟨18, .c, [], []⟩, ⟨19, .p, [], []⟩, ⟨20, .p, [], []⟩] [0, 0, 2, 6, 14, 30, 62, 126, 254, 30, 542, 2046, 4094, 8190, 16382, 32766, 65534, 16382, 262142, 524286, 1048575] mixed (by kernel_rfl) ?_
            rcases Nat.eq_zero_or_pos rl.length with hz | hz
            · have hnil : rl = [] := List.eq_nil_of_length_eq_zero hz
              have hh : headIs rl x = false := by rw [hnil]; rfl
              rw [hT] at hh
              have bb : ∀ b : Bool, (b == b) = true := fun b => by simp
              have dz : decide ((0 : Int) < (rl.length : Int)) = false := decide_eq_false (by omega)
              simp -implicitDefEqProofs only [go_sem, Nat.reduceEqDiff, Nat.reduceLT, Nat.reduceAdd, Nat.reduceMul, Int.reduceEq, Int.reduceLT, Int.reduceLE, Int.reduceNe, Int.reduceBEq, Int.reduceToNat, ↓reduceIte, f2, f5, f7, dz, hh, bb, f30, d2]
              exact ⟨m - 1, by omega, k + 1, by omega, by simp -implicitDefEqProofs only [go_sem, Nat.reduceEqDiff, Nat.reduceLT, Nat.reduceAdd, Nat.reduceMul, Int.reduceEq, Int.reduceLT, Int.reduceLE, Int.reduceNe, Int.reduceBEq, Int.reduceToNat, ↓reduceIte, f2], by simp -implicitDefEqProofs only [go_sem, Nat.reduceEqDiff, Nat.reduceLT, Nat.reduceAdd, Nat.reduceMul, Int.reduceEq, Int.reduceLT, Int.reduceLE, Int.reduceNe, Int.reduceBEq, Int.reduceToNat, ↓reduceIte, f5], by simp -implicitDefEqProofs only [go_sem, Nat.reduceEqDiff, Nat.reduceLT, Nat.reduceAdd, Nat.reduceMul, Int.reduceEq, Int.reduceLT, Int.reduceLE, Int.reduceNe, Int.reduceBEq, Int.reduceToNat, ↓reduceIte, f7], by simp -implicitDefEqProofs only [go_sem, Nat.reduceEqDiff, Nat.reduceLT, Nat.reduceAdd, Nat.reduceMul, Int.reduceEq, Int.reduceLT, Int.reduceLE, Int.reduceNe, Int.reduceBEq, Int.reduceToNat, ↓reduceIte, f28], by simp -implicitDefEqProofs only [go_sem, Nat.reduceEqDiff, Nat.reduceLT, Nat.reduceAdd, Nat.reduceMul, Int.reduceEq, Int.reduceLT, Int.reduceLE, Int.reduceNe, Int.reduceBEq, Int.reduceToNat, ↓reduceIte, f29], by simp -implicitDefEqProofs only [go_sem, Nat.reduceEqDiff, Nat.reduceLT, Nat.reduceAdd, Nat.reduceMul, Int.reduceEq, Int.reduceLT, Int.reduceLE, Int.reduceNe, Int.reduceBEq, Int.reduceToNat, ↓reduceIte], s5.trans s6⟩
            · have dz : decide ((0 : Int) < (rl.length : Int)) = true := decide_eq_true (by omega)
              obtain ⟨y, hy⟩ : ∃ y, rl[0]? = some y := ⟨_, List.getElem?_eq_getElem hz⟩
              have hh : headIs rl x = (decide (y.k = x.k) && sameVs y x) := by
                cases rl with
                | nil => cases hy
                | cons z t => cases hy; rfl
              obtain ⟨ya, yc, ey, ly⟩ := (hvs.sub (fun _ _ h => by cases h) hh6).at hy
              cases ey
              have ly0 := ldCells_get ly 0 (by omega)
              rw [add_add, Nat.zero_mul] at ly0
              rw [Nat.zero_mul] at ly
              have bb : ∀ b : Bool, (b == b) = true := fun b => by simp
              have ly : ldCells w0 _ ya 0 4 = some (vc y) := ly
              have ly0 : ld w0 _ ya = some (.int .u8 (y.k : Int)) := ly0
              have dk : decide ((y.k : Int) = (x.k : Int)) = decide (y.k = x.k) := by
                by_cases c : y.k = x.k
                · rw [decide_eq_true c, decide_eq_true (by omega)]
                · rw [decide_eq_false c, decide_eq_false (by omega)]
              cases ck2 : decide (y.k = x.k) with
              | false =>
                rw [ck2, Bool.false_and, hT] at hh
                rw [ck2] at dk
                simp -implicitDefEqProofs only [go_sem, Nat.reduceEqDiff, Nat.reduceLT, Nat.reduceAdd, Nat.reduceMul, Int.reduceEq, Int.reduceLT, Int.reduceLE, Int.reduceNe, Int.reduceBEq, Int.reduceToNat, ↓reduceIte, f2, f5, f7, dz, hh, ly, ly0, q6', l6, dk, bb, f30, d2]
                exact ⟨m - 1, by omega, k + 1, by omega, by simp -implicitDefEqProofs only [go_sem, Nat.reduceEqDiff, Nat.reduceLT, Nat.reduceAdd, Nat.reduceMul, Int.reduceEq, Int.reduceLT, Int.reduceLE, Int.reduceNe, Int.reduceBEq, Int.reduceToNat, ↓reduceIte, f2], by simp -implicitDefEqProofs only [go_sem, Nat.reduceEqDiff, Nat.reduceLT, Nat.reduceAdd, Nat.reduceMul, Int.reduceEq, Int.reduceLT, Int.reduceLE, Int.reduceNe, Int.reduceBEq, Int.reduceToNat, ↓reduceIte, f5], by simp -implicitDefEqProofs only [go_sem, Nat.reduceEqDiff, Nat.reduceLT, Nat.reduceAdd, Nat.reduceMul, Int.reduceEq, Int.reduceLT, Int.reduceLE, Int.reduceNe, Int.reduceBEq, Int.reduceToNat, ↓reduceIte, f7], by simp -implicitDefEqProofs only [go_sem, Nat.reduceEqDiff, Nat.reduceLT, Nat.reduceAdd, Nat.reduceMul, Int.reduceEq, Int.reduceLT, Int.reduceLE, Int.reduceNe, Int.reduceBEq, Int.reduceToNat, ↓reduceIte, f28], by simp -implicitDefEqProofs only [go_sem, Nat.reduceEqDiff, Nat.reduceLT, Nat.reduceAdd, Nat.reduceMul, Int.reduceEq, Int.reduceLT, Int.reduceLE, Int.reduceNe, Int.reduceBEq, Int.reduceToNat, ↓reduceIte, f29], by simp -implicitDefEqProofs only [go_sem, Nat.reduceEqDiff, Nat.reduceLT, Nat.reduceAdd, Nat.reduceMul, Int.reduceEq, Int.reduceLT, Int.reduceLE, Int.reduceNe, Int.reduceBEq, Int.reduceToNat, ↓reduceIte], s5.trans s6⟩
              | true =>
                rw [ck2, Bool.true_and, hT] at hh
                rw [ck2] at dk
                simp -implicitDefEqProofs only [go_sem, Nat.reduceEqDiff, Nat.reduceLT, Nat.reduceAdd, Nat.reduceMul, Int.reduceEq, Int.reduceLT, Int.reduceLE, Int.reduceNe, Int.reduceBEq, Int.reduceToNat, ↓reduceIte, f2, f5, f7, dz, ly, ly0, q6', l6, dk]
                refine same2_ok.mono ?_
                rintro r H8 ⟨rfl, rfl⟩
                rw [← hh]
                simp -implicitDefEqProofs only [go_sem, Nat.reduceEqDiff, Nat.reduceLT, Nat.reduceAdd, Nat.reduceMul, Int.reduceEq, Int.reduceLT, Int.reduceLE, Int.reduceNe, Int.reduceBEq, Int.reduceToNat, ↓reduceIte, bb, f2, f30, d2, ly, ly0, q6', l6]
                exact ⟨m - 1, by omega, k + 1, by omega, by simp -implicitDefEqProofs only [go_sem, Nat.reduceEqDiff, Nat.reduceLT, Nat.reduceAdd, Nat.reduceMul, Int.reduceEq, Int.reduceLT, Int.reduceLE, Int.reduceNe, Int.reduceBEq, Int.reduceToNat, ↓reduceIte, f2], by simp -implicitDefEqProofs only [go_sem, Nat.reduceEqDiff, Nat.reduceLT, Nat.reduceAdd, Nat.reduceMul, Int.reduceEq, Int.reduceLT, Int.reduceLE, Int.reduceNe, Int.reduceBEq, Int.reduceToNat, ↓reduceIte, f5], by simp -implicitDefEqProofs only [go_sem, Nat.reduceEqDiff, Nat.reduceLT, Nat.reduceAdd, Nat.reduceMul, Int.reduceEq, Int.reduceLT, Int.reduceLE, Int.reduceNe, Int.reduceBEq, Int.reduceToNat, ↓reduceIte, f7], by simp -implicitDefEqProofs only [go_sem, Nat.reduceEqDiff, Nat.reduceLT, Nat.reduceAdd, Nat.reduceMul, Int.reduceEq, Int.reduceLT, Int.reduceLE, Int.reduceNe, Int.reduceBEq, Int.reduceToNat, ↓reduceIte, f28], by simp -implicitDefEqProofs only [go_sem, Nat.reduceEqDiff, Nat.reduceLT, Nat.reduceAdd, Nat.reduceMul, Int.reduceEq, Int.reduceLT, Int.reduceLE, Int.reduceNe, Int.reduceBEq, Int.reduceToNat, ↓reduceIte, f29], by simp -implicitDefEqProofs only [go_sem, Nat.reduceEqDiff, Nat.reduceLT, Nat.reduceAdd, Nat.reduceMul, Int.reduceEq, Int.reduceLT, Int.reduceLE, Int.reduceNe, Int.reduceBEq, Int.reduceToNat, ↓reduceIte], s5.trans s6⟩
          | false =>
            rw [cl] at fl
            have fl' : Op.bytesLess (encR (rl.take 6)) e = headIs rl x := by rw [← fl]; rfl
            simp -implicitDefEqProofs only [go_sem, Nat.reduceEqDiff, Nat.reduceLT, Nat.reduceAdd, Nat.reduceMul, Int.reduceEq, Int.reduceLT, Int.reduceLE, Int.reduceNe, Int.reduceBEq, Int.reduceToNat, ↓reduceIte, f2, f5, f7]
            refine (kless_ok own6.bt o4.bt).mono ?_
            rintro r H8 ⟨rfl, rfl⟩
            obtain ⟨T, hT⟩ : ∃ T, headIs rl x = T := ⟨_, rfl⟩
            rw [fl', hT]
            simp -implicitDefEqProofs only [go_sem, Nat.reduceEqDiff, Nat.reduceLT, Nat.reduceAdd, Nat.reduceMul, Int.reduceEq, Int.reduceLT, Int.reduceLE, Int.reduceNe, Int.reduceBEq, Int.reduceToNat, ↓reduceIte, f2, f5, f7]
            refine vdraw_t [⟨0, .p, [], []⟩, ⟨1, .p, [], []⟩, ⟨2, .n, [], []⟩, ⟨3, .p, [], []⟩, ⟨4, .p, [], []⟩, ⟨5, .p, [], []⟩, ⟨6, .p, [], []⟩, ⟨7, .p, [], []⟩, ⟨8, .n, [], []⟩, ⟨9, .p, [], []⟩, ⟨10, .n, [], []⟩, ⟨11, .p, [], []⟩, ⟨12, .p, [], []⟩, ⟨13, .p, [], []⟩, ⟨14, .p, [], []⟩, ⟨15, .p, [], []⟩, ⟨16, .n, [], []⟩, ⟨17, .n, [], []⟩, ⟨18, .c, [], []⟩, ⟨19, .p, [], []⟩, ⟨20, .p, [], []⟩] [0, 0, 2, 6, 14, 30, 62, 126, 254, 30, 542, 2046, 4094, 8190, 16382, 32766, 65534, 16382, 262142, 524286, 1048575] mixed (by kernel_rfl) ?_
            rcases Nat.eq_zero_or_pos rl.length with hz | hz
            · have hnil : rl = [] := List.eq_nil_of_length_eq_zero hz
              have hh : headIs rl x = false := by rw [hnil]; rfl
              rw [hT] at hh
              have bb : ∀ b : Bool, (b == b) = true := fun b => by simp
              have dz : decide ((0 : Int) < (rl.length : Int)) = false := decide_eq_false (by omega)
              simp -implicitDefEqProofs only [go_sem, Nat.reduceEqDiff, Nat.reduceLT, Nat.reduceAdd, Nat.reduceMul, Int.reduceEq, Int.reduceLT, Int.reduceLE, Int.reduceNe, Int.reduceBEq, Int.reduceToNat, ↓reduceIte, f2, f5, f7, dz, hh, bb, f30, d2]
              exact ⟨m - 1, by omega, k + 1, by omega, by simp -implicitDefEqProofs only [go_sem, Nat.reduceEqDiff, Nat.reduceLT, Nat.reduceAdd, Nat.reduceMul, Int.reduceEq, Int.reduceLT, Int.reduceLE, Int.reduceNe, Int.reduceBEq, Int.reduceToNat, ↓reduceIte, f2], by simp -implicitDefEqProofs only [go_sem, Nat.reduceEqDiff, Nat.reduceLT, Nat.reduceAdd, Nat.reduceMul, Int.reduceEq, Int.reduceLT, Int.reduceLE, Int.reduceNe, Int.reduceBEq, Int.reduceToNat, ↓reduceIte, f5], by simp -implicitDefEqProofs only [go_sem, Nat.reduceEqDiff, Nat.reduceLT, Nat.reduceAdd, Nat.reduceMul, Int.reduceEq, Int.reduceLT, Int.reduceLE, Int.reduceNe, Int.reduceBEq, Int.reduceToNat, ↓reduceIte, f7], by simp -implicitDefEqProofs only [go_sem, Nat.reduceEqDiff, Nat.reduceLT, Nat.reduceAdd, Nat.reduceMul, Int.reduceEq, Int.reduceLT, Int.reduceLE, Int.reduceNe, Int.reduceBEq, Int.reduceToNat, ↓reduceIte, f28], by simp -implicitDefEqProofs only [go_sem, Nat.reduceEqDiff, Nat.reduceLT, Nat.reduceAdd, Nat.reduceMul, Int.reduceEq, Int.reduceLT, Int.reduceLE, Int.reduceNe, Int.reduceBEq, Int.reduceToNat, ↓reduceIte, f29], by simp -implicitDefEqProofs only [go_sem, Nat.reduceEqDiff, Nat.reduceLT, Nat.reduceAdd, Nat.reduceMul, Int.reduceEq, Int.reduceLT, Int.reduceLE, Int.reduceNe, Int.reduceBEq, Int.reduceToNat, ↓reduceIte], s5.trans s6⟩
            · have dz : decide ((0 : Int) < (rl.length : Int)) = true := decide_eq_true (by omega)
              obtain ⟨y, hy⟩ : ∃ y, rl[0]? = some y := ⟨_, List.getElem?_eq_getElem hz⟩
              have hh : headIs rl x = (decide (y.k = x.k) && sameVs y x) := by
                cases rl with
                | nil => cases hy
                | cons z t => cases hy; rfl
              obtain ⟨ya, yc, ey, ly⟩ := (hvs.sub (fun _ _ h => by cases h) hh6).at hy
              cases ey
              have ly0 := ldCells_get ly 0 (by omega)
              rw [add_add, Nat.zero_mul] at ly0
              rw [Nat.zero_mul] at ly
              have bb : ∀ b : Bool, (b == b) = true := fun b => by simp
              have ly : ldCells w0 _ ya 0 4 = some (vc y) := ly
              have ly0 : ld w0 _ ya = some (.int .u8 (y.k : Int)) := ly0
              have dk : decide ((y.k : Int) = (x.k : Int)) = decide (y.k = x.k) := by
                by_cases c : y.k = x.k
                · rw [decide_eq_true c, decide_eq_true (by omega)]
                · rw [decide_eq_false c, decide_eq_false (by omega)]
              cases ck2 : decide (y.k = x.k) with
              | false =>
                rw [ck2, Bool.false_and, hT] at hh
                rw [ck2] at dk
                simp -implicitDefEqProofs only [go_sem, Nat.reduceEqDiff, Nat.reduceLT, Nat.reduceAdd, Nat.reduceMul, Int.reduceEq, Int.reduceLT, Int.reduceLE, Int.reduceNe, Int.reduceBEq, Int.reduceToNat, ↓reduceIte, f2, f5, f7, dz, hh, ly, ly0, q6', l6, dk, bb, f30, d2]
                exact ⟨m - 1, by omega, k + 1, by omega, by simp -implicitDefEqProofs only [go_sem, Nat.reduceEqDiff, Nat.reduceLT, Nat.reduceAdd, Nat.reduceMul, Int.reduceEq, Int.reduceLT, Int.reduceLE, Int.reduceNe, Int.reduceBEq, Int.reduceToNat, ↓reduceIte, f2], by simp -implicitDefEqProofs only [go_sem, Nat.reduceEqDiff, Nat.reduceLT, Nat.reduceAdd, Nat.reduceMul, Int.reduceEq, Int.reduceLT, Int.reduceLE, Int.reduceNe, Int.reduceBEq, Int.reduceToNat, ↓reduceIte, f5], by simp -implicitDefEqProofs only [go_sem, Nat.reduceEqDiff, Nat.reduceLT, Nat.reduceAdd, Nat.reduceMul, Int.reduceEq, Int.reduceLT, Int.reduceLE, Int.reduceNe, Int.reduceBEq, Int.reduceToNat, ↓reduceIte, f7], by simp -implicitDefEqProofs only [go_sem, Nat.reduceEqDiff, Nat.reduceLT, Nat.reduceAdd, Nat.reduceMul, Int.reduceEq, Int.reduceLT, Int.reduceLE, Int.reduceNe, Int.reduceBEq, Int.reduceToNat, ↓reduceIte, f28], by simp -implicitDefEqProofs only [go_sem, Nat.reduceEqDiff, Nat.reduceLT, Nat.reduceAdd, Nat.reduceMul, Int.reduceEq, Int.reduceLT, Int.reduceLE, Int.reduceNe, Int.reduceBEq, Int.reduceToNat, ↓reduceIte, f29], by simp -implicitDefEqProofs only [go_sem, Nat.reduceEqDiff, Nat.reduceLT, Nat.reduceAdd, Nat.reduceMul, Int.reduceEq, Int.reduceLT, Int.reduceLE, Int.reduceNe, Int.reduceBEq, Int.reduceToNat, ↓reduceIte], s5.trans s6⟩
              | true =>
                rw [ck2, Bool.true_and, hT] at hh
                rw [ck2] at dk
                simp -implicitDefEqProofs only [go_sem, Nat.reduceEqDiff, Nat.reduceLT, Nat.reduceAdd, Nat.reduceMul, Int.reduceEq, Int.reduceLT, Int.reduceLE, Int.reduceNe, Int.reduceBEq, Int.reduceToNat, ↓reduceIte, f2, f5, f7, dz, ly, ly0, q6', l6, dk]
                refine same2_ok.mono ?_
                rintro r H8 ⟨rfl, rfl⟩
                rw [← hh]
                simp -implicitDefEqProofs only [go_sem, Nat.reduceEqDiff, Nat.reduceLT, Nat.reduceAdd, Nat.reduceMul, Int.reduceEq, Int.reduceLT, Int.reduceLE, Int.reduceNe, Int.reduceBEq, Int.reduceToNat, ↓reduceIte, bb, f2, f30, d2, ly, ly0, q6', l6]
                exact ⟨m - 1, by omega, k + 1, by omega, by simp -implicitDefEqProofs only [go_sem, Nat.reduceEqDiff, Nat.reduceLT, Nat.reduceAdd, Nat.reduceMul, Int.reduceEq, Int.reduceLT, Int.reduceLE, Int.reduceNe, Int.reduceBEq, Int.reduceToNat, ↓reduceIte, f2], by simp -implicitDefEqProofs only [go_sem, Nat.reduceEqDiff, Nat.reduceLT, Nat.reduceAdd, Nat.reduceMul, Int.reduceEq, Int.reduceLT, Int.reduceLE, Int.reduceNe, Int.reduceBEq, Int.reduceToNat, ↓reduceIte, f5], by simp -implicitDefEqProofs only [go_sem, Nat.reduceEqDiff, Nat.reduceLT, Nat.reduceAdd, Nat.reduceMul, Int.reduceEq, Int.reduceLT, Int.reduceLE, Int.reduceNe, Int.reduceBEq, Int.reduceToNat, ↓reduceIte, f7], by simp -implicitDefEqProofs only [go_sem, Nat.reduceEqDiff, Nat.reduceLT, Nat.reduceAdd, Nat.reduceMul, Int.reduceEq, Int.reduceLT, Int.reduceLE, Int.reduceNe, Int.reduceBEq, Int.reduceToNat, ↓reduceIte, f28], by simp -implicitDefEqProofs only [go_sem, Nat.reduceEqDiff, Nat.reduceLT, Nat.reduceAdd, Nat.reduceMul, Int.reduceEq, Int.reduceLT, Int.reduceLE, Int.reduceNe, Int.reduceBEq, Int.reduceToNat, ↓reduceIte, f29], by simp -implicitDefEqProofs only [go_sem, Nat.reduceEqDiff, Nat.reduceLT, Nat.reduceAdd, Nat.reduceMul, Int.reduceEq, Int.reduceLT, Int.reduceLE, Int.reduceNe, Int.reduceBEq, Int.reduceToNat, ↓reduceIte], s5.trans s6⟩
        · simp -implicitDefEqProofs only [go_sem, Nat.reduceEqDiff, Nat.reduceLT, Nat.reduceAdd, Nat.reduceMul, Int.reduceEq, Int.reduceLT, Int.reduceLE, Int.reduceNe, Int.reduceBEq, Int.reduceToNat, ↓reduceIte, f2, f5, f7, f28, f29, f30, d2]
          exact ⟨m - 1, by omega, k + 1, by omega, by simp -implicitDefEqProofs only [go_sem, Nat.reduceEqDiff, Nat.reduceLT, Nat.reduceAdd, Nat.reduceMul, Int.reduceEq, Int.reduceLT, Int.reduceLE, Int.reduceNe, Int.reduceBEq, Int.reduceToNat, ↓reduceIte, f2], by simp -implicitDefEqProofs only [go_sem, Nat.reduceEqDiff, Nat.reduceLT, Nat.reduceAdd, Nat.reduceMul, Int.reduceEq, Int.reduceLT, Int.reduceLE, Int.reduceNe, Int.reduceBEq, Int.reduceToNat, ↓reduceIte, f5], by simp -implicitDefEqProofs only [go_sem, Nat.reduceEqDiff, Nat.reduceLT, Nat.reduceAdd, Nat.reduceMul, Int.reduceEq, Int.reduceLT, Int.reduceLE, Int.reduceNe, Int.reduceBEq, Int.reduceToNat, ↓reduceIte, f7], by simp -implicitDefEqProofs only [go_sem, Nat.reduceEqDiff, Nat.reduceLT, Nat.reduceAdd, Nat.reduceMul, Int.reduceEq, Int.reduceLT, Int.reduceLE, Int.reduceNe, Int.reduceBEq, Int.reduceToNat, ↓reduceIte, f28], by simp -implicitDefEqProofs only [go_sem, Nat.reduceEqDiff, Nat.reduceLT, Nat.reduceAdd, Nat.reduceMul, Int.reduceEq, Int.reduceLT, Int.reduceLE, Int.reduceNe, Int.reduceBEq, Int.reduceToNat, ↓reduceIte, f29], by simp -implicitDefEqProofs only [go_sem, Nat.reduceEqDiff, Nat.reduceLT, Nat.reduceAdd, Nat.reduceMul, Int.reduceEq, Int.reduceLT, Int.reduceLE, Int.reduceNe, Int.reduceBEq, Int.reduceToNat, ↓reduceIte], s5.trans s6⟩
    · have d1 : decide ((k : Int) < (ls.length : Int)) = false := decide_eq_false (by omega)
      simp -implicitDefEqProofs only [go_sem, Nat.reduceEqDiff, Nat.reduceLT, Nat.reduceAdd, Nat.reduceMul, Int.reduceEq, Int.reduceLT, Int.reduceLE, Int.reduceNe, Int.reduceBEq, Int.reduceToNat, ↓reduceIte, f2, f5, f7, f28, f29, f30, d1]
  · have hr : rightB x = false := by simpa using q1
    simp -implicitDefEqProofs only [go_sem, Nat.reduceEqDiff, Nat.reduceLT, Nat.reduceAdd, Nat.reduceMul, Int.reduceEq, Int.reduceLT, Int.reduceLE, Int.reduceNe, Int.reduceBEq, Int.reduceToNat, ↓reduceIte, l3]
    refine rright_ok.mono ?_
    rintro r H4 ⟨rfl, rfl⟩
    simp -implicitDefEqProofs only [go_sem, Nat.reduceEqDiff, Nat.reduceLT, Nat.reduceAdd, Nat.reduceMul, Int.reduceEq, Int.reduceLT, Int.reduceLE, Int.reduceNe, Int.reduceBEq, Int.reduceToNat, ↓reduceIte, hr]
end
end Go.Proofs.YtoolnkemkhianaaDoor
