/-
  The law RowLong, walked.
  Conditions: as each theorem states them.
-/
import Derived.Test.YtoolnkemkhianaaDoorRwb
namespace Go.Proofs.YtoolnkemkhianaaDoor
open Go Go.RowKit Go.Proofs.YtoolnkemkhianaaDoorW
set_option maxRecDepth 100000
set_option maxHeartbeats 1000000
set_option linter.unusedSimpArgs false
set_option linter.unusedVariables false
theorem bsvl (x : Va) : bsCells Tryd.prog 36 1 #[(0, va x)] = some (vc x).toArray := by kernel_rfl
attribute [go_sem] bsvl
theorem agl (s : List UInt8) : Value.agg #[.int .u8 2, .int .i64 0, .string (str s), .bool false] = va ⟨2, 0, s, false⟩ := rfl
attribute [go_sem] agl
theorem zrow_u8 (n : Nat) : zrow (.int .u8 0) n = (u8s (List.replicate n 0)).toArray := by
  unfold zrow
  rcases Nat.eq_zero_or_pos n with rfl | h
  · simp [u8s]
  · rw [if_neg (by omega)]
    apply Array.toList_inj.1
    apply List.ext_getElem?
    intro i
    have hc : (Value.int .u8 0).cells = #[.int .u8 0] := rfl
    rw [hc]
    simp only [Array.toList_map, Array.toList_range, List.getElem?_map, u8s, List.getElem?_replicate]
    by_cases hi : i < n
    · rw [List.getElem?_range hi, if_pos hi]
      simp [Nat.mod_one]
    · rw [List.getElem?_eq_none (by simp; omega), if_neg hi]; rfl
/-- A text of so many bytes. -/
def lx (s : UInt8) : Va := ⟨2, 0, List.replicate (s.toNat % 61) 120, false⟩
theorem okZ_rep : ∀ n : Nat, okZ (List.replicate n 120) = true
  | 0 => rfl
  | n + 1 => by
    rw [List.replicate_succ, okZ_low (by decide) (by decide), okZ_rep n]
theorem lx_right (s : UInt8) : rightB (lx s) = true := by
  rw [rightB_eq]
  unfold lx
  simp [okZ_rep]
  omega
theorem lx_enc (s : UInt8) : (encv (lx s)).length = 1 + s.toNat % 61 := by
  show (UInt8.ofNat _ :: List.replicate (s.toNat % 61) 120).length = _
  rw [List.length_cons, List.length_replicate]; omega
theorem lx_types : ∀ l : List UInt8, typesOk (List.replicate l.length 2) (l.map lx) = true
  | [] => rfl
  | s :: l => by
    rw [List.length_cons, List.replicate_succ, List.map_cons]
    unfold typesOk
    rw [lx_types l]; rfl
theorem lx_all (l : List UInt8) : (l.map lx).all rightB = true := by
  rw [List.all_map, List.all_eq_true]
  exact fun x _ => lx_right x
theorem long_fit {l : List UInt8} (h1 : 1 ≤ l.length) (h8 : l.length ≤ 8) : fitN (List.replicate l.length 2) (l.map lx) = if 200 < 1 + (encB (l.map lx)).length then 2 else 0 := by
  have hk : rightK (List.replicate l.length 2) = true := by
    unfold rightK
    rw [List.length_replicate, decide_eq_true h1, decide_eq_true h8]
    simp [kindOk]
  unfold fitN
  rw [hk, lx_all, lx_types]
  simp
section
variable {w0 : World} {H Hb : Hp}
def RlJ (Hm : Hp) (b : Nat) (n : Nat) (F0 : Fr) (m : Nat) (F : Fr) (H : Hp) : Prop :=
  ∃ j, j + m = n ∧ F 3 = F0 3 ∧ F 4 = F0 4 ∧ F 5 = F0 5 ∧ F 13 = F0 13 ∧ F 14 = F0 14 ∧ F 15 = F0 15 ∧ F 8 = .slice (some ⟨b, 0, none⟩) n n ∧ F 26 = .slice (some ⟨b, 0, none⟩) n n ∧ F 27 = .int .i64 (n : Int) ∧ F 28 = .int .i64 (j : Int) ∧
    H b = some (.cells (u8s (List.replicate j 120 ++ List.replicate (n - j) 0)).toArray 5 (0, 0)) ∧ ∀ i, i ≠ b → H i = Hm i
def RlI (w0 : World) (H0 : Hp) (sv : Value) (l : List UInt8) (m : Nat) (F : Fr) (H : Hp) : Prop :=
  ∃ k, k + m = l.length ∧ k ≤ 8 ∧ F 13 = sv ∧ F 14 = .int .i64 (l.length : Int) ∧ F 15 = .int .i64 (k : Int) ∧ F 5 = .int .i64 ((1 + (encB ((l.take k).map lx)).length : Nat) : Int) ∧ ∃ s3 s4, F 3 = s3 ∧ F 4 = s4 ∧ OwnK H s3 (List.replicate k 2) ∧ OwnV H s4 ((l.take k).map lx) ∧
    Fsh w0 H0 s3 ∧ Fsh w0 H0 s4 ∧ (∀ b, blk s3 = some b → blk s4 ≠ some b) ∧ Sub H0 H
theorem fill_set (n j : Nat) (h : j < n) : (u8s (List.replicate j 120 ++ List.replicate (n - j) 0)).set j (.int .u8 120) = u8s (List.replicate (j + 1) 120 ++ List.replicate (n - (j + 1)) 0) := by
  rw [u8s_app, List.set_append_right _ _ (by rw [u8s_len, List.length_replicate]; exact Nat.le_refl _), u8s_len, List.length_replicate, Nat.sub_self, show n - j = n - (j + 1) + 1 by omega, List.replicate_succ (n := n - (j + 1))]
  rw [List.replicate_succ' (n := j), u8s_app, u8s_app, List.append_assoc]
  rfl
theorem rowLong_law {sv : Value} {l : List UInt8} (ht : Tbl w0) (hv : Bt w0 (fun _ => none) sv l) :
    ACalls Tryd.prog w0 10 #[sv] (fun _ => none) fun r H' => r = .bool true ∧ True := by
  obtain ⟨va', vcap, ev, _⟩ := Rd.slice hv
  subst ev
  refine acalls_of Tryd.func10 rfl Tryd.ntmps10 r10 (by simp) ?_
  simp -implicitDefEqProofs only [go_sem, Nat.reduceEqDiff, Nat.reduceLT, Nat.reduceAdd, Nat.reduceMul, Int.reduceEq, Int.reduceLT, Int.reduceLE, Int.reduceNe, Int.reduceBEq, Int.reduceToNat, ↓reduceIte]
  refine (awake4_ok ht).mono ?_
  rintro r H ⟨rfl, rfl⟩
  simp -implicitDefEqProofs only [go_sem, Nat.reduceEqDiff, Nat.reduceLT, Nat.reduceAdd, Nat.reduceMul, Int.reduceEq, Int.reduceLT, Int.reduceLE, Int.reduceNe, Int.reduceBEq, Int.reduceToNat, ↓reduceIte]
  refine AC.loopH (RlI w0 (fun _ => none) (.slice va' l.length vcap) l) (n := l.length) ⟨0, by omega, by omega, by simp -implicitDefEqProofs only [go_sem, Nat.reduceEqDiff, Nat.reduceLT, Nat.reduceAdd, Nat.reduceMul, Int.reduceEq, Int.reduceLT, Int.reduceLE, Int.reduceNe, Int.reduceBEq, Int.reduceToNat, ↓reduceIte], by simp -implicitDefEqProofs only [go_sem, Nat.reduceEqDiff, Nat.reduceLT, Nat.reduceAdd, Nat.reduceMul, Int.reduceEq, Int.reduceLT, Int.reduceLE, Int.reduceNe, Int.reduceBEq, Int.reduceToNat, ↓reduceIte], by simp -implicitDefEqProofs only [go_sem, Nat.reduceEqDiff, Nat.reduceLT, Nat.reduceAdd, Nat.reduceMul, Int.reduceEq, Int.reduceLT, Int.reduceLE, Int.reduceNe, Int.reduceBEq, Int.reduceToNat, ↓reduceIte] <;> rfl, by simp -implicitDefEqProofs only [go_sem, Nat.reduceEqDiff, Nat.reduceLT, Nat.reduceAdd, Nat.reduceMul, Int.reduceEq, Int.reduceLT, Int.reduceLE, Int.reduceNe, Int.reduceBEq, Int.reduceToNat, ↓reduceIte] <;> rfl, .slice none 0 0, .slice none 0 0, by simp -implicitDefEqProofs only [go_sem, Nat.reduceEqDiff, Nat.reduceLT, Nat.reduceAdd, Nat.reduceMul, Int.reduceEq, Int.reduceLT, Int.reduceLE, Int.reduceNe, Int.reduceBEq, Int.reduceToNat, ↓reduceIte], by simp -implicitDefEqProofs only [go_sem, Nat.reduceEqDiff, Nat.reduceLT, Nat.reduceAdd, Nat.reduceMul, Int.reduceEq, Int.reduceLT, Int.reduceLE, Int.reduceNe, Int.reduceBEq, Int.reduceToNat, ↓reduceIte], Row.nil _ _ _, Row.nil _ _ _, fun b hb => (by simp [blk] at hb), fun b hb => (by simp [blk] at hb), fun b hb => (by simp [blk] at hb), Sub.refl _⟩ ?_
  rintro m F H1 ⟨k, hk, hk8, f13, f14, f15, f5, s3, s4', f3, f4, o3, o4, fr3, fr4, hne, hs⟩ hh
  have hlk : (l.take k).length = k := by rw [List.length_take]; omega
  have hlb : (encB ((l.take k).map lx)).length ≤ 61 * 8 := by
    have h2 := encB_len (lx_all (l.take k))
    rw [List.length_map, hlk] at h2
    omega
  by_cases ck : k < l.length
  · have dX : decide ((k : Int) < (l.length : Int)) = true := decide_eq_true (by omega)
    have d0 : decide ((0 : Int) ≤ (k : Int)) = true := decide_eq_true (by omega)
    have d2 : IntKind.i64.wrap ((k : Int) + 1) = (k + 1 : Nat) := by rw [i64_in] <;> omega
    obtain ⟨b, hb⟩ : ∃ b, l[k]? = some b := ⟨_, List.getElem?_eq_getElem ck⟩
    obtain ⟨a, c, ea, la⟩ := Rd.at1 (hv.sub hs hh) (u8s_ix hb)
    have ea' : va' = some a := by injection ea
    rw [ea'] at f13
    by_cases c8 : 8 ≤ k
    · have dY : decide ((8 : Int) ≤ (k : Int)) = true := decide_eq_true (by omega)
      simp -implicitDefEqProofs only [go_sem, Nat.reduceEqDiff, Nat.reduceLT, Nat.reduceAdd, Nat.reduceMul, Int.reduceEq, Int.reduceLT, Int.reduceLE, Int.reduceNe, Int.reduceBEq, Int.reduceToNat, ↓reduceIte, f13, f14, f15, d0, dX, la, dY]
      obtain ⟨a3, c3, e3⟩ := Row.slice o3
      rw [List.length_replicate] at e3
      rw [e3] at f3
      by_cases kz : k = 0
      · have dz : decide ((k : Int) = 0) = true := decide_eq_true (by omega)
        have e4 : (l.take k).map lx = [] := by rw [kz]; rfl
        have e5 : List.replicate k (2 : UInt8) = [] := by rw [kz]; rfl
        simp -implicitDefEqProofs only [go_sem, Nat.reduceEqDiff, Nat.reduceLT, Nat.reduceAdd, Nat.reduceMul, Int.reduceEq, Int.reduceLT, Int.reduceLE, Int.reduceNe, Int.reduceBEq, Int.reduceToNat, ↓reduceIte, f3, f4, f13, f14, f15, dX, dY, dz]
        rw [e5] at o3
        rw [e4] at o4
        refine (fits_ok (ks := []) (l := []) ht (by rw [← e3]; exact o3.bt) o4.vs (by simp) (by simp)).mono ?_
        rintro r H2 ⟨rfl, rfl⟩
        have ef : fitN [] [] = 1 := by decide +kernel
        rw [ef]
        simp -implicitDefEqProofs only [go_sem, Nat.reduceEqDiff, Nat.reduceLT, Nat.reduceAdd, Nat.reduceMul, Int.reduceEq, Int.reduceLT, Int.reduceLE, Int.reduceNe, Int.reduceBEq, Int.reduceToNat, ↓reduceIte]
        first | done | rfl
      · have dz : decide ((k : Int) = 0) = false := decide_eq_false (by omega)
        simp -implicitDefEqProofs only [go_sem, Nat.reduceEqDiff, Nat.reduceLT, Nat.reduceAdd, Nat.reduceMul, Int.reduceEq, Int.reduceLT, Int.reduceLE, Int.reduceNe, Int.reduceBEq, Int.reduceToNat, ↓reduceIte, f3, f4, f13, f14, f15, dX, dY, dz]
        refine (fits_ok (ks := List.replicate k 2) (l := (l.take k).map lx) ht (by rw [← e3]; exact o3.bt) o4.vs (by rw [List.length_replicate]; omega) (by rw [List.length_map, hlk]; omega)).mono ?_
        rintro r H2 ⟨rfl, rfl⟩
        have ef := long_fit (l := l.take k) (by omega) (by omega)
        rw [hlk] at ef
        by_cases c2 : 200 < 1 + (encB ((l.take k).map lx)).length
        · rw [if_pos c2] at ef
          have d2 : decide (((1 + (encB ((l.take k).map lx)).length : Nat) : Int) ≤ 200) = false := decide_eq_false (by omega)
          rw [ef]
          simp -implicitDefEqProofs only [go_sem, Nat.reduceEqDiff, Nat.reduceLT, Nat.reduceAdd, Nat.reduceMul, Int.reduceEq, Int.reduceLT, Int.reduceLE, Int.reduceNe, Int.reduceBEq, Int.reduceToNat, ↓reduceIte, f5, d2]
          first | done | rfl
        · rw [if_neg c2] at ef
          have d2 : decide (((1 + (encB ((l.take k).map lx)).length : Nat) : Int) ≤ 200) = true := decide_eq_true (by omega)
          rw [ef]
          simp -implicitDefEqProofs only [go_sem, Nat.reduceEqDiff, Nat.reduceLT, Nat.reduceAdd, Nat.reduceMul, Int.reduceEq, Int.reduceLT, Int.reduceLE, Int.reduceNe, Int.reduceBEq, Int.reduceToNat, ↓reduceIte, f5, d2]
          first | done | rfl
    · have dY : decide ((8 : Int) ≤ (k : Int)) = false := decide_eq_false (by omega)
      have hb8 := UInt8.toNat_lt b
      have wc : IntKind.i64.wrap (b.toNat : Int) = (b.toNat : Int) := by rw [i64_in] <;> omega
      have wt : ((b.toNat : Int).tmod 61) = ((b.toNat % 61 : Nat) : Int) := tmod_nat b.toNat 61
      obtain ⟨n, hn⟩ : ∃ n, n = b.toNat % 61 := ⟨_, rfl⟩
      rw [← hn] at wt
      simp -implicitDefEqProofs only [go_sem, Nat.reduceEqDiff, Nat.reduceLT, Nat.reduceAdd, Nat.reduceMul, Int.reduceEq, Int.reduceLT, Int.reduceLE, Int.reduceNe, Int.reduceBEq, Int.reduceToNat, ↓reduceIte, f13, f14, f15, d0, dX, la, dY, wc, wt]
      refine aop_makeSlice (n := n) Tryd.underlying22 s5 b5 z5 (by simp -implicitDefEqProofs only [go_sem, Nat.reduceEqDiff, Nat.reduceLT, Nat.reduceAdd, Nat.reduceMul, Int.reduceEq, Int.reduceLT, Int.reduceLE, Int.reduceNe, Int.reduceBEq, Int.reduceToNat, ↓reduceIte]) (by simp -implicitDefEqProofs only [go_sem, Nat.reduceEqDiff, Nat.reduceLT, Nat.reduceAdd, Nat.reduceMul, Int.reduceEq, Int.reduceLT, Int.reduceLE, Int.reduceNe, Int.reduceBEq, Int.reduceToNat, ↓reduceIte]) (by omega) (by decide) ?_
      refine newK_of ?_
      intro b8 H2 hb8' hn8 h8 t8 g8
      rw [Nat.mul_one, zrow_u8] at h8
      simp -implicitDefEqProofs only [go_sem, Nat.reduceEqDiff, Nat.reduceLT, Nat.reduceAdd, Nat.reduceMul, Int.reduceEq, Int.reduceLT, Int.reduceLE, Int.reduceNe, Int.reduceBEq, Int.reduceToNat, ↓reduceIte]
      refine AC.loop (RlJ H2 b8 n F) (n := n) ⟨0, by omega, by simp -implicitDefEqProofs only [go_sem, Nat.reduceEqDiff, Nat.reduceLT, Nat.reduceAdd, Nat.reduceMul, Int.reduceEq, Int.reduceLT, Int.reduceLE, Int.reduceNe, Int.reduceBEq, Int.reduceToNat, ↓reduceIte], by simp -implicitDefEqProofs only [go_sem, Nat.reduceEqDiff, Nat.reduceLT, Nat.reduceAdd, Nat.reduceMul, Int.reduceEq, Int.reduceLT, Int.reduceLE, Int.reduceNe, Int.reduceBEq, Int.reduceToNat, ↓reduceIte], by simp -implicitDefEqProofs only [go_sem, Nat.reduceEqDiff, Nat.reduceLT, Nat.reduceAdd, Nat.reduceMul, Int.reduceEq, Int.reduceLT, Int.reduceLE, Int.reduceNe, Int.reduceBEq, Int.reduceToNat, ↓reduceIte], by simp -implicitDefEqProofs only [go_sem, Nat.reduceEqDiff, Nat.reduceLT, Nat.reduceAdd, Nat.reduceMul, Int.reduceEq, Int.reduceLT, Int.reduceLE, Int.reduceNe, Int.reduceBEq, Int.reduceToNat, ↓reduceIte], by simp -implicitDefEqProofs only [go_sem, Nat.reduceEqDiff, Nat.reduceLT, Nat.reduceAdd, Nat.reduceMul, Int.reduceEq, Int.reduceLT, Int.reduceLE, Int.reduceNe, Int.reduceBEq, Int.reduceToNat, ↓reduceIte], by simp -implicitDefEqProofs only [go_sem, Nat.reduceEqDiff, Nat.reduceLT, Nat.reduceAdd, Nat.reduceMul, Int.reduceEq, Int.reduceLT, Int.reduceLE, Int.reduceNe, Int.reduceBEq, Int.reduceToNat, ↓reduceIte], by simp -implicitDefEqProofs only [go_sem, Nat.reduceEqDiff, Nat.reduceLT, Nat.reduceAdd, Nat.reduceMul, Int.reduceEq, Int.reduceLT, Int.reduceLE, Int.reduceNe, Int.reduceBEq, Int.reduceToNat, ↓reduceIte], by simp -implicitDefEqProofs only [go_sem, Nat.reduceEqDiff, Nat.reduceLT, Nat.reduceAdd, Nat.reduceMul, Int.reduceEq, Int.reduceLT, Int.reduceLE, Int.reduceNe, Int.reduceBEq, Int.reduceToNat, ↓reduceIte], by simp -implicitDefEqProofs only [go_sem, Nat.reduceEqDiff, Nat.reduceLT, Nat.reduceAdd, Nat.reduceMul, Int.reduceEq, Int.reduceLT, Int.reduceLE, Int.reduceNe, Int.reduceBEq, Int.reduceToNat, ↓reduceIte], by simp -implicitDefEqProofs only [go_sem, Nat.reduceEqDiff, Nat.reduceLT, Nat.reduceAdd, Nat.reduceMul, Int.reduceEq, Int.reduceLT, Int.reduceLE, Int.reduceNe, Int.reduceBEq, Int.reduceToNat, ↓reduceIte] <;> rfl, by simpa using h8, fun i _ => rfl⟩ ?_
      rintro m2 F2 H3 ⟨j, hj, e3, e4, e5, e13, e14, e15, e8, e26, e27, e28, h38, g3⟩
      rw [f3] at e3
      rw [f4] at e4
      rw [f5] at e5
      rw [f13] at e13
      rw [f14] at e14
      rw [f15] at e15
      by_cases cj : j < n
      · have p1 : decide ((j : Int) < (n : Int)) = true := decide_eq_true (by omega)
        have p0 : decide ((0 : Int) ≤ (j : Int)) = true := decide_eq_true (by omega)
        have p2 : IntKind.i64.wrap ((j : Int) + 1) = (j + 1 : Nat) := by rw [i64_in] <;> omega
        have hw := wr_own h38 j (by simp [u8s_len]; omega)
        have fs := fill_set n j cj
        simp -implicitDefEqProofs only [go_sem, Nat.reduceEqDiff, Nat.reduceLT, Nat.reduceAdd, Nat.reduceMul, Int.reduceEq, Int.reduceLT, Int.reduceLE, Int.reduceNe, Int.reduceBEq, Int.reduceToNat, ↓reduceIte, e8, e26, e27, e28, p0, p1, p2, hw, fs]
        exact ⟨m2 - 1, by omega, j + 1, by omega, by simp -implicitDefEqProofs only [go_sem, Nat.reduceEqDiff, Nat.reduceLT, Nat.reduceAdd, Nat.reduceMul, Int.reduceEq, Int.reduceLT, Int.reduceLE, Int.reduceNe, Int.reduceBEq, Int.reduceToNat, ↓reduceIte, e3, f3], by simp -implicitDefEqProofs only [go_sem, Nat.reduceEqDiff, Nat.reduceLT, Nat.reduceAdd, Nat.reduceMul, Int.reduceEq, Int.reduceLT, Int.reduceLE, Int.reduceNe, Int.reduceBEq, Int.reduceToNat, ↓reduceIte, e4, f4], by simp -implicitDefEqProofs only [go_sem, Nat.reduceEqDiff, Nat.reduceLT, Nat.reduceAdd, Nat.reduceMul, Int.reduceEq, Int.reduceLT, Int.reduceLE, Int.reduceNe, Int.reduceBEq, Int.reduceToNat, ↓reduceIte, e5, f5], by simp -implicitDefEqProofs only [go_sem, Nat.reduceEqDiff, Nat.reduceLT, Nat.reduceAdd, Nat.reduceMul, Int.reduceEq, Int.reduceLT, Int.reduceLE, Int.reduceNe, Int.reduceBEq, Int.reduceToNat, ↓reduceIte, e13, f13], by simp -implicitDefEqProofs only [go_sem, Nat.reduceEqDiff, Nat.reduceLT, Nat.reduceAdd, Nat.reduceMul, Int.reduceEq, Int.reduceLT, Int.reduceLE, Int.reduceNe, Int.reduceBEq, Int.reduceToNat, ↓reduceIte, e14, f14], by simp -implicitDefEqProofs only [go_sem, Nat.reduceEqDiff, Nat.reduceLT, Nat.reduceAdd, Nat.reduceMul, Int.reduceEq, Int.reduceLT, Int.reduceLE, Int.reduceNe, Int.reduceBEq, Int.reduceToNat, ↓reduceIte, e15, f15], by simp -implicitDefEqProofs only [go_sem, Nat.reduceEqDiff, Nat.reduceLT, Nat.reduceAdd, Nat.reduceMul, Int.reduceEq, Int.reduceLT, Int.reduceLE, Int.reduceNe, Int.reduceBEq, Int.reduceToNat, ↓reduceIte, e8], by simp -implicitDefEqProofs only [go_sem, Nat.reduceEqDiff, Nat.reduceLT, Nat.reduceAdd, Nat.reduceMul, Int.reduceEq, Int.reduceLT, Int.reduceLE, Int.reduceNe, Int.reduceBEq, Int.reduceToNat, ↓reduceIte, e26], by simp -implicitDefEqProofs only [go_sem, Nat.reduceEqDiff, Nat.reduceLT, Nat.reduceAdd, Nat.reduceMul, Int.reduceEq, Int.reduceLT, Int.reduceLE, Int.reduceNe, Int.reduceBEq, Int.reduceToNat, ↓reduceIte, e27], by simp -implicitDefEqProofs only [go_sem, Nat.reduceEqDiff, Nat.reduceLT, Nat.reduceAdd, Nat.reduceMul, Int.reduceEq, Int.reduceLT, Int.reduceLE, Int.reduceNe, Int.reduceBEq, Int.reduceToNat, ↓reduceIte], Hp.set_same _ _ _, fun i hi => (Hp.set_ne _ _ _ _ hi).trans (g3 i hi)⟩
      · have hjn : j = n := by omega
        subst hjn
        have p1 : decide ((j : Int) < (j : Int)) = false := decide_eq_false (by omega)
        rw [Nat.sub_self, List.replicate_zero, List.append_nil] at h38
        have t3 : Sub H1 H3 := fun i o hi => (g3 i fun e => by rw [e, hn8] at hi; cases hi).trans (t8 i o hi)
        have oX := Own.lit (p := List.replicate j 120) (n := j) h38 (by simp)
        have o33 := o3.sub t3
        have o34 := o4.sub t3
        have hs3 := hs.trans t3
        have hlx : lx b = ⟨2, 0, List.replicate j 120, false⟩ := by unfold lx; rw [← hn]
        simp -implicitDefEqProofs only [go_sem, Nat.reduceEqDiff, Nat.reduceLT, Nat.reduceAdd, Nat.reduceMul, Int.reduceEq, Int.reduceLT, Int.reduceLE, Int.reduceNe, Int.reduceBEq, Int.reduceToNat, ↓reduceIte, e3, e4, e5, e8, e26, e27, e28, p1]
        refine vdraw_t [⟨0, .p, [], []⟩, ⟨3, .p, [], []⟩, ⟨4, .p, [], []⟩, ⟨5, .n, [], []⟩, ⟨6, .p, [], [7]⟩, ⟨1, .c, [5], []⟩, ⟨2, .c, [5], []⟩, ⟨7, .a, [], []⟩, ⟨8, .c, [], []⟩, ⟨9, .p, [], []⟩, ⟨10, .p, [], []⟩] [0, 0, 3, 0, 0, 16, 48, 112, 255, 511, 1023] mixed (by kernel_rfl) ?_
        simp -implicitDefEqProofs only [go_sem, Nat.reduceEqDiff, Nat.reduceLT, Nat.reduceAdd, Nat.reduceMul, Int.reduceEq, Int.reduceLT, Int.reduceLE, Int.reduceNe, Int.reduceBEq, Int.reduceToNat, ↓reduceIte, e3, e4, e5, e8]
        refine ⟨.string (str (List.replicate j 120)), ?_, ?_⟩
        · refine conv_bytes (dst := none) (ty := 0) (pos := "") (after := #[]) (g := none) Tryd.underlying22 Tryd.underlying5 Tryd.underlying9 (by simp -implicitDefEqProofs only [go_sem, Nat.reduceEqDiff, Nat.reduceLT, Nat.reduceAdd, Nat.reduceMul, Int.reduceEq, Int.reduceLT, Int.reduceLE, Int.reduceNe, Int.reduceBEq, Int.reduceToNat, ↓reduceIte, e8]) oX.bt ?_
          exact ⟨rfl, rfl⟩
        simp -implicitDefEqProofs only [go_sem, Nat.reduceEqDiff, Nat.reduceLT, Nat.reduceAdd, Nat.reduceMul, Int.reduceEq, Int.reduceLT, Int.reduceLE, Int.reduceNe, Int.reduceBEq, Int.reduceToNat, ↓reduceIte, e3, e4, e5, e8]
        refine newK_of ?_
        intro by9 H4 hb9 hn9 h9 t9 g9
        simp -implicitDefEqProofs only [go_sem, Nat.reduceEqDiff, Nat.reduceLT, Nat.reduceAdd, Nat.reduceMul, Int.reduceEq, Int.reduceLT, Int.reduceLE, Int.reduceNe, Int.reduceBEq, Int.reduceToNat, ↓reduceIte, e3, e4, e5, e8]
        refine ⟨?_, ?_⟩
        · refine conv_bytes (dst := none) (ty := 0) (pos := "") (after := #[]) (g := none) Tryd.underlying22 Tryd.underlying5 Tryd.underlying9 (by simp -implicitDefEqProofs only [go_sem, Nat.reduceEqDiff, Nat.reduceLT, Nat.reduceAdd, Nat.reduceMul, Int.reduceEq, Int.reduceLT, Int.reduceLE, Int.reduceNe, Int.reduceBEq, Int.reduceToNat, ↓reduceIte, e8]) (oX.sub t9).bt ?_
          exact ⟨rfl, rfl⟩
        refine app_k (Hb := fun _ => none) (by simp -implicitDefEqProofs only [go_sem, Nat.reduceEqDiff, Nat.reduceLT, Nat.reduceAdd, Nat.reduceMul, Int.reduceEq, Int.reduceLT, Int.reduceLE, Int.reduceNe, Int.reduceBEq, Int.reduceToNat, ↓reduceIte, e3]) (o33.sub t9) (by simp -implicitDefEqProofs only [go_sem, Nat.reduceEqDiff, Nat.reduceLT, Nat.reduceAdd, Nat.reduceMul, Int.reduceEq, Int.reduceLT, Int.reduceLE, Int.reduceNe, Int.reduceBEq, Int.reduceToNat, ↓reduceIte]) (OwnK.lit (p := [2]) h9 rfl).bt (by simp only [List.length_replicate, List.length_cons, List.length_nil]; omega) fr3 (hs3.trans t9) ?_
        intro r5 H5 o5 fr5 hs5 a5
        have n83 : blk s3 ≠ some b8 := fun e => by
          obtain ⟨o, ho⟩ := Row.own o3 e
          rw [hn8] at ho; cases ho
        obtain ⟨hb85, n85⟩ := App.keep a5 (t9 _ _ h38) n83
        have oX5 := Own.lit (p := List.replicate j 120) (n := j) hb85 (by simp)
        have o45 : OwnV H5 s4' ((l.take k).map lx) := Row.keep (o34.sub t9) fun b' o' hb' ho' => (App.keep a5 ho' (fun e => hne b' e hb')).1
        simp -implicitDefEqProofs only [go_sem, Nat.reduceEqDiff, Nat.reduceLT, Nat.reduceAdd, Nat.reduceMul, Int.reduceEq, Int.reduceLT, Int.reduceLE, Int.reduceNe, Int.reduceBEq, Int.reduceToNat, ↓reduceIte, e3, e4, e5, e8]
        refine ⟨?_, ?_⟩
        · refine conv_bytes (dst := none) (ty := 0) (pos := "") (after := #[]) (g := none) Tryd.underlying22 Tryd.underlying5 Tryd.underlying9 (by simp -implicitDefEqProofs only [go_sem, Nat.reduceEqDiff, Nat.reduceLT, Nat.reduceAdd, Nat.reduceMul, Int.reduceEq, Int.reduceLT, Int.reduceLE, Int.reduceNe, Int.reduceBEq, Int.reduceToNat, ↓reduceIte, e8]) oX5.bt ?_
          exact ⟨rfl, rfl⟩
        refine newK_of ?_
        intro bw H6 hbw hnw hw6 t6 g6
        have hone : H6 bw = some (.cells ([lx b].flatMap vc).toArray 36 (0, 0)) := by rw [hw6, hlx]; simp
        have hvs := Vs.lit (w0 := w0) (n := 1) hone rfl
        simp -implicitDefEqProofs only [go_sem, Nat.reduceEqDiff, Nat.reduceLT, Nat.reduceAdd, Nat.reduceMul, Int.reduceEq, Int.reduceLT, Int.reduceLE, Int.reduceNe, Int.reduceBEq, Int.reduceToNat, ↓reduceIte, e3, e4, e5, e8]
        refine app_v (Hb := fun _ => none) (by simp -implicitDefEqProofs only [go_sem, Nat.reduceEqDiff, Nat.reduceLT, Nat.reduceAdd, Nat.reduceMul, Int.reduceEq, Int.reduceLT, Int.reduceLE, Int.reduceNe, Int.reduceBEq, Int.reduceToNat, ↓reduceIte, e4]) (o45.sub t6) (by simp -implicitDefEqProofs only [go_sem, Nat.reduceEqDiff, Nat.reduceLT, Nat.reduceAdd, Nat.reduceMul, Int.reduceEq, Int.reduceLT, Int.reduceLE, Int.reduceNe, Int.reduceBEq, Int.reduceToNat, ↓reduceIte]) hvs (by simp only [List.length_map, List.length_cons, List.length_nil]; omega) fr4 (hs5.trans t6) ?_
        intro r7 H7 o7 fr7 hs7 a7
        have hne5 : ∀ b', blk r5 = some b' → blk s4' ≠ some b' := fun b' e5' e4' => by
          rcases a5.1 b' e5' with q | q
          · exact hne b' q.symm e4'
          · obtain ⟨o, ho⟩ := Row.own (o34.sub t9) e4'
            rw [q.1] at ho; cases ho
        have o57 : OwnK H7 r5 (List.replicate k 2 ++ [2]) := Row.keep (o5.sub t6) fun b' o' hb' ho' => (App.keep a7 ho' (hne5 b' hb')).1
        have hne7 : ∀ b', blk r5 = some b' → blk r7 ≠ some b' := fun b' e5' e7' => by
          rcases a7.1 b' e7' with q | q
          · exact hne5 b' e5' q.symm
          · obtain ⟨o, ho⟩ := Row.own (o5.sub t6) e5'
            rw [q.1] at ho; cases ho
        have emap : (l.take (k + 1)).map lx = (l.take k).map lx ++ [lx b] := by rw [List.take_add_one, hb, List.map_append]; rfl
        have eenc : (encB ((l.take (k + 1)).map lx)).length = (encB ((l.take k).map lx)).length + (1 + j) := by
          rw [emap]
          unfold encB
          rw [List.flatMap_append, List.length_append]
          have := lx_enc b
          rw [← hn] at this
          simp [this]
        have w1 : IntKind.i64.wrap (1 + (j : Int)) = ((1 + j : Nat) : Int) := by rw [i64_in] <;> omega
        have w2 : IntKind.i64.wrap (((1 + (encB ((l.take k).map lx)).length : Nat) : Int) + ((1 + j : Nat) : Int)) = ((1 + (encB ((l.take (k + 1)).map lx)).length : Nat) : Int) := by rw [eenc, i64_in] <;> omega
        simp -implicitDefEqProofs only [go_sem, Nat.reduceEqDiff, Nat.reduceLT, Nat.reduceAdd, Nat.reduceMul, Int.reduceEq, Int.reduceLT, Int.reduceLE, Int.reduceNe, Int.reduceBEq, Int.reduceToNat, ↓reduceIte, e5, e8, e15, w1, w2, d2]
        rw [← List.replicate_succ'] at o57
        rw [← emap] at o7
        exact ⟨m - 1, by omega, k + 1, by omega, by omega, by simp -implicitDefEqProofs only [go_sem, Nat.reduceEqDiff, Nat.reduceLT, Nat.reduceAdd, Nat.reduceMul, Int.reduceEq, Int.reduceLT, Int.reduceLE, Int.reduceNe, Int.reduceBEq, Int.reduceToNat, ↓reduceIte, e13]; rw [ea'], by simp -implicitDefEqProofs only [go_sem, Nat.reduceEqDiff, Nat.reduceLT, Nat.reduceAdd, Nat.reduceMul, Int.reduceEq, Int.reduceLT, Int.reduceLE, Int.reduceNe, Int.reduceBEq, Int.reduceToNat, ↓reduceIte, e14], by simp -implicitDefEqProofs only [go_sem, Nat.reduceEqDiff, Nat.reduceLT, Nat.reduceAdd, Nat.reduceMul, Int.reduceEq, Int.reduceLT, Int.reduceLE, Int.reduceNe, Int.reduceBEq, Int.reduceToNat, ↓reduceIte], by simp -implicitDefEqProofs only [go_sem, Nat.reduceEqDiff, Nat.reduceLT, Nat.reduceAdd, Nat.reduceMul, Int.reduceEq, Int.reduceLT, Int.reduceLE, Int.reduceNe, Int.reduceBEq, Int.reduceToNat, ↓reduceIte], r5, r7, by simp -implicitDefEqProofs only [go_sem, Nat.reduceEqDiff, Nat.reduceLT, Nat.reduceAdd, Nat.reduceMul, Int.reduceEq, Int.reduceLT, Int.reduceLE, Int.reduceNe, Int.reduceBEq, Int.reduceToNat, ↓reduceIte], by simp -implicitDefEqProofs only [go_sem, Nat.reduceEqDiff, Nat.reduceLT, Nat.reduceAdd, Nat.reduceMul, Int.reduceEq, Int.reduceLT, Int.reduceLE, Int.reduceNe, Int.reduceBEq, Int.reduceToNat, ↓reduceIte], o57, o7, fr5, fr7, hne7, hs7⟩
  · have dX : decide ((k : Int) < (l.length : Int)) = false := decide_eq_false (by omega)
    have dY : True := trivial
    obtain ⟨a3, c3, e3⟩ := Row.slice o3
    rw [List.length_replicate] at e3
    rw [e3] at f3
    by_cases kz : k = 0
    · have dz : decide ((k : Int) = 0) = true := decide_eq_true (by omega)
      have e4 : (l.take k).map lx = [] := by rw [kz]; rfl
      have e5 : List.replicate k (2 : UInt8) = [] := by rw [kz]; rfl
      simp -implicitDefEqProofs only [go_sem, Nat.reduceEqDiff, Nat.reduceLT, Nat.reduceAdd, Nat.reduceMul, Int.reduceEq, Int.reduceLT, Int.reduceLE, Int.reduceNe, Int.reduceBEq, Int.reduceToNat, ↓reduceIte, f3, f4, f13, f14, f15, dX, dY, dz]
      rw [e5] at o3
      rw [e4] at o4
      refine (fits_ok (ks := []) (l := []) ht (by rw [← e3]; exact o3.bt) o4.vs (by simp) (by simp)).mono ?_
      rintro r H2 ⟨rfl, rfl⟩
      have ef : fitN [] [] = 1 := by decide +kernel
      rw [ef]
      simp -implicitDefEqProofs only [go_sem, Nat.reduceEqDiff, Nat.reduceLT, Nat.reduceAdd, Nat.reduceMul, Int.reduceEq, Int.reduceLT, Int.reduceLE, Int.reduceNe, Int.reduceBEq, Int.reduceToNat, ↓reduceIte]
      first | done | rfl
    · have dz : decide ((k : Int) = 0) = false := decide_eq_false (by omega)
      simp -implicitDefEqProofs only [go_sem, Nat.reduceEqDiff, Nat.reduceLT, Nat.reduceAdd, Nat.reduceMul, Int.reduceEq, Int.reduceLT, Int.reduceLE, Int.reduceNe, Int.reduceBEq, Int.reduceToNat, ↓reduceIte, f3, f4, f13, f14, f15, dX, dY, dz]
      refine (fits_ok (ks := List.replicate k 2) (l := (l.take k).map lx) ht (by rw [← e3]; exact o3.bt) o4.vs (by rw [List.length_replicate]; omega) (by rw [List.length_map, hlk]; omega)).mono ?_
      rintro r H2 ⟨rfl, rfl⟩
      have ef := long_fit (l := l.take k) (by omega) (by omega)
      rw [hlk] at ef
      by_cases c2 : 200 < 1 + (encB ((l.take k).map lx)).length
      · rw [if_pos c2] at ef
        have d2 : decide (((1 + (encB ((l.take k).map lx)).length : Nat) : Int) ≤ 200) = false := decide_eq_false (by omega)
        rw [ef]
        simp -implicitDefEqProofs only [go_sem, Nat.reduceEqDiff, Nat.reduceLT, Nat.reduceAdd, Nat.reduceMul, Int.reduceEq, Int.reduceLT, Int.reduceLE, Int.reduceNe, Int.reduceBEq, Int.reduceToNat, ↓reduceIte, f5, d2]
        first | done | rfl
      · rw [if_neg c2] at ef
        have d2 : decide (((1 + (encB ((l.take k).map lx)).length : Nat) : Int) ≤ 200) = true := decide_eq_true (by omega)
        rw [ef]
        simp -implicitDefEqProofs only [go_sem, Nat.reduceEqDiff, Nat.reduceLT, Nat.reduceAdd, Nat.reduceMul, Int.reduceEq, Int.reduceLT, Int.reduceLE, Int.reduceNe, Int.reduceBEq, Int.reduceToNat, ↓reduceIte, f5, d2]
        first | done | rfl
end
end Go.Proofs.YtoolnkemkhianaaDoor
