/-
  The law KeyOrders, walked.
  Conditions: as each theorem states them.
-/
import Derived.Test.YtoolnkemkhianaaDoorKjn
import Derived.Test.YtoolnkemkhianaaDoorOrd
namespace Go.Proofs.YtoolnkemkhianaaDoor
open Go Go.RowKit Go.Proofs.YtoolnkemkhianaaDoorW
set_option maxRecDepth 100000
set_option maxHeartbeats 1000000
set_option linter.unusedSimpArgs false
set_option linter.unusedVariables false
section
variable {w0 : World} {H Hb : Hp}
theorem min8 (a b : Nat) : (if (8 : Int) < (if (b : Int) < (a : Int) then (b : Int) else (a : Int)) then (8 : Int) else (if (b : Int) < (a : Int) then (b : Int) else (a : Int))) = ((min (min a b) 8 : Nat) : Int) := by
  split <;> split <;> omega
def KoI (H0 : Hp) (u v p q : Value) (a b : List Va) (n : Nat) (m : Nat) (F : Fr) (H : Hp) : Prop :=
  ∃ k, k + m = n ∧ F 0 = u ∧ F 1 = v ∧ F 6 = p ∧ F 8 = q ∧ F 43 = .int .i64 (n : Int) ∧ F 44 = .int .i64 (k : Int) ∧ a.take k = b.take k ∧ H = H0
theorem kb_pair {l : List Va} {r : Value} {H1 H2 : Hp} (h : KbQ w0 H1 l r H2) : ∃ p e, r = .tuple #[p, .int .i64 e] := by
  rcases h.2 with ⟨_, s, e, _⟩ | ⟨_, e⟩
  · exact ⟨_, _, e⟩
  · exact ⟨_, _, e⟩
theorem keyOrders_law {u v : Value} {a0 b0 : List Va} (ht : Tbl w0) (hu : Vs w0 (fun _ => none) u a0) (hwu : ∀ x ∈ a0, x.wf) (hv : Vs w0 (fun _ => none) v b0) (hwv : ∀ x ∈ b0, x.wf) :
    ACalls Tryd.prog w0 5 #[u, v] (fun _ => none) fun r H' => r = .bool true ∧ True := by
  obtain ⟨ua, uc, eu, hua⟩ := Rd.slice hu
  obtain ⟨va', vc', ev, hva⟩ := Rd.slice hv
  subst eu ev
  refine acalls_of Tryd.func5 rfl Tryd.ntmps5 r5 (by simp) ?_
  simp -implicitDefEqProofs only [go_sem, Nat.reduceEqDiff, Nat.reduceLT, Nat.reduceAdd, Nat.reduceMul, Int.reduceEq, Int.reduceLT, Int.reduceLE, Int.reduceNe, Int.reduceBEq, Int.reduceToNat, ↓reduceIte]
  refine (awake3_ok ht).mono ?_
  rintro r H ⟨rfl, rfl⟩
  simp -implicitDefEqProofs only [go_sem, Nat.reduceEqDiff, Nat.reduceLT, Nat.reduceAdd, Nat.reduceMul, Int.reduceEq, Int.reduceLT, Int.reduceLE, Int.reduceNe, Int.reduceBEq, Int.reduceToNat, ↓reduceIte]
  refine aop_min3 (k := .i64) (a := (a0.length : Int)) (b := (b0.length : Int)) (c := 8) (by simp -implicitDefEqProofs only [go_sem, Nat.reduceEqDiff, Nat.reduceLT, Nat.reduceAdd, Nat.reduceMul, Int.reduceEq, Int.reduceLT, Int.reduceLE, Int.reduceNe, Int.reduceBEq, Int.reduceToNat, ↓reduceIte]) (by simp -implicitDefEqProofs only [go_sem, Nat.reduceEqDiff, Nat.reduceLT, Nat.reduceAdd, Nat.reduceMul, Int.reduceEq, Int.reduceLT, Int.reduceLE, Int.reduceNe, Int.reduceBEq, Int.reduceToNat, ↓reduceIte]) (by simp -implicitDefEqProofs only [go_sem, Nat.reduceEqDiff, Nat.reduceLT, Nat.reduceAdd, Nat.reduceMul, Int.reduceEq, Int.reduceLT, Int.reduceLE, Int.reduceNe, Int.reduceBEq, Int.reduceToNat, ↓reduceIte]) ?_
  rw [min8]
  obtain ⟨n, hn⟩ : ∃ n, n = min (min a0.length b0.length) 8 := ⟨_, rfl⟩
  rw [← hn]
  simp -implicitDefEqProofs only [go_sem, Nat.reduceEqDiff, Nat.reduceLT, Nat.reduceAdd, Nat.reduceMul, Int.reduceEq, Int.reduceLT, Int.reduceLE, Int.reduceNe, Int.reduceBEq, Int.reduceToNat, ↓reduceIte]
  refine slice_hi (dst := none) (ty := 0) (pos := "") (after := #[]) (g := none) (a := ua) (n := a0.length) (c := uc) (l := n) Tryd.underlying28 s36 (by simp -implicitDefEqProofs only [go_sem, Nat.reduceEqDiff, Nat.reduceLT, Nat.reduceAdd, Nat.reduceMul, Int.reduceEq, Int.reduceLT, Int.reduceLE, Int.reduceNe, Int.reduceBEq, Int.reduceToNat, ↓reduceIte]) (by simp -implicitDefEqProofs only [go_sem, Nat.reduceEqDiff, Nat.reduceLT, Nat.reduceAdd, Nat.reduceMul, Int.reduceEq, Int.reduceLT, Int.reduceLE, Int.reduceNe, Int.reduceBEq, Int.reduceToNat, ↓reduceIte]) (by omega) ?_
  simp -implicitDefEqProofs only [go_sem, Nat.reduceEqDiff, Nat.reduceLT, Nat.reduceAdd, Nat.reduceMul, Int.reduceEq, Int.reduceLT, Int.reduceLE, Int.reduceNe, Int.reduceBEq, Int.reduceToNat, ↓reduceIte]
  have hA := hu.front (k := n) (by omega)
  have hB := hv.front (k := n) (by omega)
  have lA : (a0.take n).length = n := by rw [List.length_take]; omega
  have lB : (b0.take n).length = n := by rw [List.length_take]; omega
  have wA : ∀ x ∈ a0.take n, x.wf := fun x hx => hwu x (List.mem_of_mem_take hx)
  have wB : ∀ x ∈ b0.take n, x.wf := fun x hx => hwv x (List.mem_of_mem_take hx)
  refine (ACalls.hi (kbytes_ok ht hA (by omega) wA)).mono ?_
  rintro r1 H1 ⟨h1, hh1⟩
  obtain ⟨p1, e1, rfl⟩ := kb_pair h1
  simp -implicitDefEqProofs only [go_sem, Nat.reduceEqDiff, Nat.reduceLT, Nat.reduceAdd, Nat.reduceMul, Int.reduceEq, Int.reduceLT, Int.reduceLE, Int.reduceNe, Int.reduceBEq, Int.reduceToNat, ↓reduceIte]
  refine slice_hi (dst := none) (ty := 0) (pos := "") (after := #[]) (g := none) (a := va') (n := b0.length) (c := vc') (l := n) Tryd.underlying28 s36 (by simp -implicitDefEqProofs only [go_sem, Nat.reduceEqDiff, Nat.reduceLT, Nat.reduceAdd, Nat.reduceMul, Int.reduceEq, Int.reduceLT, Int.reduceLE, Int.reduceNe, Int.reduceBEq, Int.reduceToNat, ↓reduceIte]) (by simp -implicitDefEqProofs only [go_sem, Nat.reduceEqDiff, Nat.reduceLT, Nat.reduceAdd, Nat.reduceMul, Int.reduceEq, Int.reduceLT, Int.reduceLE, Int.reduceNe, Int.reduceBEq, Int.reduceToNat, ↓reduceIte]) (by omega) ?_
  simp -implicitDefEqProofs only [go_sem, Nat.reduceEqDiff, Nat.reduceLT, Nat.reduceAdd, Nat.reduceMul, Int.reduceEq, Int.reduceLT, Int.reduceLE, Int.reduceNe, Int.reduceBEq, Int.reduceToNat, ↓reduceIte]
  refine (ACalls.hi (kbytes_ok ht (hB.sub h1.1 hh1) (by omega) wB)).mono ?_
  rintro r2 H2 ⟨h2, hh2⟩
  obtain ⟨p2, e2, rfl⟩ := kb_pair h2
  obtain ⟨s1, h1⟩ := h1
  obtain ⟨s2, h2⟩ := h2
  rcases h1 with ⟨q1, p, e, own1, fr1⟩ | ⟨q1, e⟩
  · cases e
    rcases h2 with ⟨q2, p', e, own2, fr2⟩ | ⟨q2, e⟩
    · cases e
      have o1 := own1.sub s2
      simp -implicitDefEqProofs only [go_sem, Nat.reduceEqDiff, Nat.reduceLT, Nat.reduceAdd, Nat.reduceMul, Int.reduceEq, Int.reduceLT, Int.reduceLE, Int.reduceNe, Int.reduceBEq, Int.reduceToNat, ↓reduceIte]
      refine AC.loop (KoI H2 (.slice ua a0.length uc) (.slice va' b0.length vc') p1 p2 a0 b0 n) (n := n) ⟨0, by omega, by simp -implicitDefEqProofs only [go_sem, Nat.reduceEqDiff, Nat.reduceLT, Nat.reduceAdd, Nat.reduceMul, Int.reduceEq, Int.reduceLT, Int.reduceLE, Int.reduceNe, Int.reduceBEq, Int.reduceToNat, ↓reduceIte], by simp -implicitDefEqProofs only [go_sem, Nat.reduceEqDiff, Nat.reduceLT, Nat.reduceAdd, Nat.reduceMul, Int.reduceEq, Int.reduceLT, Int.reduceLE, Int.reduceNe, Int.reduceBEq, Int.reduceToNat, ↓reduceIte], by simp -implicitDefEqProofs only [go_sem, Nat.reduceEqDiff, Nat.reduceLT, Nat.reduceAdd, Nat.reduceMul, Int.reduceEq, Int.reduceLT, Int.reduceLE, Int.reduceNe, Int.reduceBEq, Int.reduceToNat, ↓reduceIte], by simp -implicitDefEqProofs only [go_sem, Nat.reduceEqDiff, Nat.reduceLT, Nat.reduceAdd, Nat.reduceMul, Int.reduceEq, Int.reduceLT, Int.reduceLE, Int.reduceNe, Int.reduceBEq, Int.reduceToNat, ↓reduceIte], by simp -implicitDefEqProofs only [go_sem, Nat.reduceEqDiff, Nat.reduceLT, Nat.reduceAdd, Nat.reduceMul, Int.reduceEq, Int.reduceLT, Int.reduceLE, Int.reduceNe, Int.reduceBEq, Int.reduceToNat, ↓reduceIte], by simp -implicitDefEqProofs only [go_sem, Nat.reduceEqDiff, Nat.reduceLT, Nat.reduceAdd, Nat.reduceMul, Int.reduceEq, Int.reduceLT, Int.reduceLE, Int.reduceNe, Int.reduceBEq, Int.reduceToNat, ↓reduceIte] <;> rfl, rfl, rfl⟩ ?_
      rintro m F H3 ⟨k, hk, f0, f1, f6, f8, f43, f44, htk, rfl⟩
      by_cases ck : k < n
      · have d1 : decide ((k : Int) < (n : Int)) = true := decide_eq_true (by omega)
        have d0 : decide ((0 : Int) ≤ (k : Int)) = true := decide_eq_true (by omega)
        have da : decide ((k : Int) < (a0.length : Int)) = true := decide_eq_true (by omega)
        have db : decide ((k : Int) < (b0.length : Int)) = true := decide_eq_true (by omega)
        have d2 : IntKind.i64.wrap ((k : Int) + 1) = (k + 1 : Nat) := by rw [i64_in] <;> omega
        obtain ⟨x, hx⟩ : ∃ x, a0[k]? = some x := ⟨_, List.getElem?_eq_getElem (by omega)⟩
        obtain ⟨y, hy⟩ : ∃ y, b0[k]? = some y := ⟨_, List.getElem?_eq_getElem (by omega)⟩
        have hxA : (a0.take n)[k]? = some x := by rw [List.getElem?_take_of_lt ck]; exact hx
        have hyB : (b0.take n)[k]? = some y := by rw [List.getElem?_take_of_lt ck]; exact hy
        obtain ⟨ad, c, ea, la⟩ := (hu.sub (s1.trans s2) hh2).at hx
        cases ea
        obtain ⟨bd, c, eb, lb⟩ := (hv.sub (s1.trans s2) hh2).at hy
        cases eb
        simp -implicitDefEqProofs only [go_sem, Nat.reduceEqDiff, Nat.reduceLT, Nat.reduceAdd, Nat.reduceMul, Int.reduceEq, Int.reduceLT, Int.reduceLE, Int.reduceNe, Int.reduceBEq, Int.reduceToNat, ↓reduceIte, f0, f1, f6, f8, f43, f44, d1]
        refine vdraw_t [⟨0, .p, [], []⟩, ⟨1, .p, [], []⟩, ⟨2, .p, [], []⟩, ⟨3, .n, [], []⟩, ⟨4, .p, [], []⟩, ⟨5, .p, [], []⟩, ⟨6, .p, [], []⟩, ⟨7, .n, [], []⟩, ⟨8, .c, [], []⟩, ⟨9, .p, [], []⟩] [0, 0, 3, 7, 0, 0, 48, 112, 255, 511] mixed (by kernel_rfl) ?_
        simp -implicitDefEqProofs only [go_sem, Nat.reduceEqDiff, Nat.reduceLT, Nat.reduceAdd, Nat.reduceMul, Int.reduceEq, Int.reduceLT, Int.reduceLE, Int.reduceNe, Int.reduceBEq, Int.reduceToNat, ↓reduceIte, f0, f1, f6, f8, f43, f44, d0, da, db, la, lb]
        refine same2_ok.mono ?_
        rintro r H4 ⟨rfl, rfl⟩
        cases hs : sameVs x y with
        | true =>
          have exy := same_eq (List.all_eq_true.1 q1 x (List.mem_of_getElem? hxA)) (List.all_eq_true.1 q2 y (List.mem_of_getElem? hyB)) hs
          simp -implicitDefEqProofs only [go_sem, Nat.reduceEqDiff, Nat.reduceLT, Nat.reduceAdd, Nat.reduceMul, Int.reduceEq, Int.reduceLT, Int.reduceLE, Int.reduceNe, Int.reduceBEq, Int.reduceToNat, ↓reduceIte, f0, f1, f6, f8, f43, f44, d2]
          exact ⟨m - 1, by omega, k + 1, by omega, by simp -implicitDefEqProofs only [go_sem, Nat.reduceEqDiff, Nat.reduceLT, Nat.reduceAdd, Nat.reduceMul, Int.reduceEq, Int.reduceLT, Int.reduceLE, Int.reduceNe, Int.reduceBEq, Int.reduceToNat, ↓reduceIte, f0], by simp -implicitDefEqProofs only [go_sem, Nat.reduceEqDiff, Nat.reduceLT, Nat.reduceAdd, Nat.reduceMul, Int.reduceEq, Int.reduceLT, Int.reduceLE, Int.reduceNe, Int.reduceBEq, Int.reduceToNat, ↓reduceIte, f1], by simp -implicitDefEqProofs only [go_sem, Nat.reduceEqDiff, Nat.reduceLT, Nat.reduceAdd, Nat.reduceMul, Int.reduceEq, Int.reduceLT, Int.reduceLE, Int.reduceNe, Int.reduceBEq, Int.reduceToNat, ↓reduceIte, f6], by simp -implicitDefEqProofs only [go_sem, Nat.reduceEqDiff, Nat.reduceLT, Nat.reduceAdd, Nat.reduceMul, Int.reduceEq, Int.reduceLT, Int.reduceLE, Int.reduceNe, Int.reduceBEq, Int.reduceToNat, ↓reduceIte, f8], by simp -implicitDefEqProofs only [go_sem, Nat.reduceEqDiff, Nat.reduceLT, Nat.reduceAdd, Nat.reduceMul, Int.reduceEq, Int.reduceLT, Int.reduceLE, Int.reduceNe, Int.reduceBEq, Int.reduceToNat, ↓reduceIte, f43], by simp -implicitDefEqProofs only [go_sem, Nat.reduceEqDiff, Nat.reduceLT, Nat.reduceAdd, Nat.reduceMul, Int.reduceEq, Int.reduceLT, Int.reduceLE, Int.reduceNe, Int.reduceBEq, Int.reduceToNat, ↓reduceIte], by rw [List.take_add_one, List.take_add_one, hx, hy, exy, htk], rfl⟩
        | false =>
          simp -implicitDefEqProofs only [go_sem, Nat.reduceEqDiff, Nat.reduceLT, Nat.reduceAdd, Nat.reduceMul, Int.reduceEq, Int.reduceLT, Int.reduceLE, Int.reduceNe, Int.reduceBEq, Int.reduceToNat, ↓reduceIte, f0, f1, f6, f8, f43, f44, d2]
          refine vdraw_t [⟨0, .p, [], []⟩, ⟨1, .p, [], []⟩, ⟨2, .p, [], []⟩, ⟨3, .n, [], []⟩, ⟨4, .p, [], []⟩, ⟨5, .p, [], []⟩, ⟨6, .p, [], []⟩, ⟨7, .n, [], []⟩, ⟨8, .c, [], []⟩, ⟨9, .p, [], []⟩] [0, 0, 3, 7, 0, 0, 48, 112, 255, 511] mixed (by kernel_rfl) ?_
          simp -implicitDefEqProofs only [go_sem, Nat.reduceEqDiff, Nat.reduceLT, Nat.reduceAdd, Nat.reduceMul, Int.reduceEq, Int.reduceLT, Int.reduceLE, Int.reduceNe, Int.reduceBEq, Int.reduceToNat, ↓reduceIte, f0, f1, f6, f8, f43, f44, d0, da, db, la, lb]
          refine less2_ok.mono ?_
          rintro r H4 ⟨rfl, rfl⟩
          have htk' : (a0.take n).take k = (b0.take n).take k := by rw [List.take_take, List.take_take, Nat.min_eq_left (by omega), htk]
          obtain ⟨g1, g2⟩ := order_at q1 q2 wA wB hxA hyB htk' hs
          simp -implicitDefEqProofs only [go_sem, Nat.reduceEqDiff, Nat.reduceLT, Nat.reduceAdd, Nat.reduceMul, Int.reduceEq, Int.reduceLT, Int.reduceLE, Int.reduceNe, Int.reduceBEq, Int.reduceToNat, ↓reduceIte, f0, f1, f6, f8]
          refine (kless_ok o1.bt own2.bt).mono ?_
          rintro r H5 ⟨rfl, rfl⟩
          have bb : ∀ b : Bool, (b == b) = true := fun b => by simp
          simp -implicitDefEqProofs only [go_sem, Nat.reduceEqDiff, Nat.reduceLT, Nat.reduceAdd, Nat.reduceMul, Int.reduceEq, Int.reduceLT, Int.reduceLE, Int.reduceNe, Int.reduceBEq, Int.reduceToNat, ↓reduceIte, g1, bb, f0, f1, f6, f8]
          refine (kless_ok own2.bt o1.bt).mono ?_
          rintro r H6 ⟨rfl, rfl⟩
          simp -implicitDefEqProofs only [go_sem, Nat.reduceEqDiff, Nat.reduceLT, Nat.reduceAdd, Nat.reduceMul, Int.reduceEq, Int.reduceLT, Int.reduceLE, Int.reduceNe, Int.reduceBEq, Int.reduceToNat, ↓reduceIte, g2, bb, f0, f1, f6, f8]
      · have d1 : decide ((k : Int) < (n : Int)) = false := decide_eq_false (by omega)
        have hkn : k = n := by omega
        subst hkn
        simp -implicitDefEqProofs only [go_sem, Nat.reduceEqDiff, Nat.reduceLT, Nat.reduceAdd, Nat.reduceMul, Int.reduceEq, Int.reduceLT, Int.reduceLE, Int.reduceNe, Int.reduceBEq, Int.reduceToNat, ↓reduceIte, f0, f1, f6, f8, f43, f44, d1]
        refine (same_ok o1.bt own2.bt).mono ?_
        rintro r H5 ⟨rfl, rfl⟩
        rw [htk]
        have bb : ∀ b : List UInt8, (b == b) = true := fun b => by simp
        simp -implicitDefEqProofs only [go_sem, Nat.reduceEqDiff, Nat.reduceLT, Nat.reduceAdd, Nat.reduceMul, Int.reduceEq, Int.reduceLT, Int.reduceLE, Int.reduceNe, Int.reduceBEq, Int.reduceToNat, ↓reduceIte, bb, f0, f1, f6, f8]
        rw [htk] at o1
        refine (kless_ok o1.bt own2.bt).mono ?_
        rintro r H6 ⟨rfl, rfl⟩
        simp -implicitDefEqProofs only [go_sem, Nat.reduceEqDiff, Nat.reduceLT, Nat.reduceAdd, Nat.reduceMul, Int.reduceEq, Int.reduceLT, Int.reduceLE, Int.reduceNe, Int.reduceBEq, Int.reduceToNat, ↓reduceIte, less_irr, f0, f1, f6, f8]
    · cases e
      simp -implicitDefEqProofs only [go_sem, Nat.reduceEqDiff, Nat.reduceLT, Nat.reduceAdd, Nat.reduceMul, Int.reduceEq, Int.reduceLT, Int.reduceLE, Int.reduceNe, Int.reduceBEq, Int.reduceToNat, ↓reduceIte]
      refine aop_max (k := .i64) (a := 0) (b := 3) (by simp -implicitDefEqProofs only [go_sem, Nat.reduceEqDiff, Nat.reduceLT, Nat.reduceAdd, Nat.reduceMul, Int.reduceEq, Int.reduceLT, Int.reduceLE, Int.reduceNe, Int.reduceBEq, Int.reduceToNat, ↓reduceIte]) (by simp -implicitDefEqProofs only [go_sem, Nat.reduceEqDiff, Nat.reduceLT, Nat.reduceAdd, Nat.reduceMul, Int.reduceEq, Int.reduceLT, Int.reduceLE, Int.reduceNe, Int.reduceBEq, Int.reduceToNat, ↓reduceIte]) ?_
      simp -implicitDefEqProofs only [go_sem, Nat.reduceEqDiff, Nat.reduceLT, Nat.reduceAdd, Nat.reduceMul, Int.reduceEq, Int.reduceLT, Int.reduceLE, Int.reduceNe, Int.reduceBEq, Int.reduceToNat, ↓reduceIte]
      rfl
  · cases e
    rcases h2 with ⟨q2, p', e, own2, fr2⟩ | ⟨q2, e⟩
    · cases e
      simp -implicitDefEqProofs only [go_sem, Nat.reduceEqDiff, Nat.reduceLT, Nat.reduceAdd, Nat.reduceMul, Int.reduceEq, Int.reduceLT, Int.reduceLE, Int.reduceNe, Int.reduceBEq, Int.reduceToNat, ↓reduceIte]
      refine aop_max (k := .i64) (a := 3) (b := 0) (by simp -implicitDefEqProofs only [go_sem, Nat.reduceEqDiff, Nat.reduceLT, Nat.reduceAdd, Nat.reduceMul, Int.reduceEq, Int.reduceLT, Int.reduceLE, Int.reduceNe, Int.reduceBEq, Int.reduceToNat, ↓reduceIte]) (by simp -implicitDefEqProofs only [go_sem, Nat.reduceEqDiff, Nat.reduceLT, Nat.reduceAdd, Nat.reduceMul, Int.reduceEq, Int.reduceLT, Int.reduceLE, Int.reduceNe, Int.reduceBEq, Int.reduceToNat, ↓reduceIte]) ?_
      simp -implicitDefEqProofs only [go_sem, Nat.reduceEqDiff, Nat.reduceLT, Nat.reduceAdd, Nat.reduceMul, Int.reduceEq, Int.reduceLT, Int.reduceLE, Int.reduceNe, Int.reduceBEq, Int.reduceToNat, ↓reduceIte]
      rfl
    · cases e
      simp -implicitDefEqProofs only [go_sem, Nat.reduceEqDiff, Nat.reduceLT, Nat.reduceAdd, Nat.reduceMul, Int.reduceEq, Int.reduceLT, Int.reduceLE, Int.reduceNe, Int.reduceBEq, Int.reduceToNat, ↓reduceIte]
      refine aop_max (k := .i64) (a := 3) (b := 3) (by simp -implicitDefEqProofs only [go_sem, Nat.reduceEqDiff, Nat.reduceLT, Nat.reduceAdd, Nat.reduceMul, Int.reduceEq, Int.reduceLT, Int.reduceLE, Int.reduceNe, Int.reduceBEq, Int.reduceToNat, ↓reduceIte]) (by simp -implicitDefEqProofs only [go_sem, Nat.reduceEqDiff, Nat.reduceLT, Nat.reduceAdd, Nat.reduceMul, Int.reduceEq, Int.reduceLT, Int.reduceLE, Int.reduceNe, Int.reduceBEq, Int.reduceToNat, ↓reduceIte]) ?_
      simp -implicitDefEqProofs only [go_sem, Nat.reduceEqDiff, Nat.reduceLT, Nat.reduceAdd, Nat.reduceMul, Int.reduceEq, Int.reduceLT, Int.reduceLE, Int.reduceNe, Int.reduceBEq, Int.reduceToNat, ↓reduceIte]
      rfl
end
end Go.Proofs.YtoolnkemkhianaaDoor
