/-
  slices.IndexFunc and slices.DeleteFunc over rows of pointers.
  Conditions: as each theorem states them.
-/
import Derived.Test.YtcpeiejabbdeiaaBke
import Derived.Test.YtcpeiejabbdeiaaAwy
namespace Go.Proofs.Ytcpeiejabbdeiaa
open Go Go.RowKit Go.Proofs.YtcpeiejabbdeiaaW
set_option maxRecDepth 100000
set_option maxHeartbeats 1000000
set_option linter.unusedSimpArgs false
set_option linter.unusedVariables false

/-- What a call of the test does at the k-th element. -/
def Tests (w0 : World) (T : Nat) (fid : Nat) (caps : Array Value) (es : List (Nat × Bool)) (J : Nat → Hp → Prop) : Prop :=
  (∀ k e H, es[k]? = some e → J k H → ACalls Try.prog w0 fid (#[ptr e.1] ++ caps) H fun r H' => r = .bool e.2 ∧ J (k + 1) H' ∧ ∀ c o, tyAt H c = some T → H c = some o → H' c = some o) ∧
  ∀ k H H' c, J k H → tyAt H c = some T → (∀ b, b ≠ c → H' b = H b) → tyAt H' c = some T → J k H'
def keptOf (es : List (Nat × Bool)) : List Value := (es.filter fun e => !e.2).map fun e => ptr e.1
theorem keptOf_take {es : List (Nat × Bool)} {k : Nat} {e : Nat × Bool} (h : es[k]? = some e) : keptOf (es.take (k + 1)) = keptOf (es.take k) ++ (if e.2 = true then [] else [ptr e.1]) := by
  unfold keptOf
  rw [take_push h, List.filter_append, List.map_append]
  congr 1
  cases c : e.2 <;> simp [c]
theorem keptOf_len (es : List (Nat × Bool)) (k : Nat) : (keptOf (es.take k)).length ≤ k := by
  unfold keptOf
  rw [List.length_map]
  refine Nat.le_trans (List.length_filter_le _ _) ?_
  rw [List.length_take]; omega
theorem keptOf_all {es : List (Nat × Bool)} {k : Nat} (h : ∀ j e, j < k → es[j]? = some e → e.2 = false) : keptOf (es.take k) = (es.take k).map fun e => ptr e.1 := by
  unfold keptOf
  rw [List.filter_eq_self.2]
  intro e he
  obtain ⟨j, hj⟩ := List.getElem?_of_mem he
  have hl := (List.getElem?_eq_some_iff.1 hj).1
  rw [List.length_take] at hl
  rw [List.getElem?_take_of_lt (by omega)] at hj
  rw [h j e (by omega) hj]; rfl

/-! ### tables -/
def IdfTI (w0 : World) (es : List (Nat × Bool)) (v : Value) (fid : Nat) (caps : Array Value) (J : Nat → Hp → Prop) (m : Nat) (F : Fr) (H : Hp) : Prop :=
  ∃ k, k + m = es.length ∧ F 0 = v ∧ F 1 = .func (.func fid) #[] caps ∧ F 7 = .int .i64 (es.length : Int) ∧ F 8 = .int .i64 (k : Int) ∧ J k H ∧ Row H 79 1 v es.length (es.map fun e => ptr e.1) ∧ ∀ j e, j < k → es[j]? = some e → e.2 = false
theorem idfT_ok {w0 : World} {H : Hp} {v : Value} {es : List (Nat × Bool)} {fid : Nat} {caps : Array Value} {J : Nat → Hp → Prop} (hok : callOk Try.prog fid = true) (hT : Tests w0 79 fid caps es J)
    (hrow : Row H 79 1 v es.length (es.map fun e => ptr e.1)) (hn : es.length < 1000000) (hJ : J 0 H) :
    ACalls Try.prog w0 54 #[v, .func (.func fid) #[] caps] H fun r H' => Row H' 79 1 v es.length (es.map fun e => ptr e.1) ∧
      ((r = .int .i64 (-1) ∧ J es.length H' ∧ ∀ j e, j < es.length → es[j]? = some e → e.2 = false) ∨
       ∃ (i : Nat) (e : Nat × Bool), es[i]? = some e ∧ e.2 = true ∧ r = .int .i64 (i : Int) ∧ J (i + 1) H' ∧ ∀ j e, j < i → es[j]? = some e → e.2 = false) := by
  obtain ⟨va, vc, hvs⟩ := hrow.slice
  refine acalls_of Try.func54 rfl Try.ntmps54 r54 (by simp) ?_
  simp -implicitDefEqProofs only [go_sem, Nat.reduceEqDiff, Nat.reduceLT, Nat.reduceAdd, Nat.reduceMul, Int.reduceEq, Int.reduceLT, Int.reduceLE, Int.reduceNe, Int.reduceBEq, Int.reduceToNat, ↓reduceIte, hvs]
  refine AC.loop (IdfTI w0 es v fid caps J) (n := es.length) ⟨0, by omega, by simp -implicitDefEqProofs only [go_sem, Nat.reduceEqDiff, Nat.reduceLT, Nat.reduceAdd, Nat.reduceMul, Int.reduceEq, Int.reduceLT, Int.reduceLE, Int.reduceNe, Int.reduceBEq, Int.reduceToNat, ↓reduceIte, hvs], by simp -implicitDefEqProofs only [go_sem, Nat.reduceEqDiff, Nat.reduceLT, Nat.reduceAdd, Nat.reduceMul, Int.reduceEq, Int.reduceLT, Int.reduceLE, Int.reduceNe, Int.reduceBEq, Int.reduceToNat, ↓reduceIte], by simp -implicitDefEqProofs only [go_sem, Nat.reduceEqDiff, Nat.reduceLT, Nat.reduceAdd, Nat.reduceMul, Int.reduceEq, Int.reduceLT, Int.reduceLE, Int.reduceNe, Int.reduceBEq, Int.reduceToNat, ↓reduceIte], by simp -implicitDefEqProofs only [go_sem, Nat.reduceEqDiff, Nat.reduceLT, Nat.reduceAdd, Nat.reduceMul, Int.reduceEq, Int.reduceLT, Int.reduceLE, Int.reduceNe, Int.reduceBEq, Int.reduceToNat, ↓reduceIte], hJ, hrow, fun j e hj => by omega⟩ ?_
  rintro m F H1 ⟨k, hk, f0, f1, f7, f8, hJk, hr1, hno⟩
  by_cases c : k < es.length
  · have d1 : decide ((k : Int) < (es.length : Int)) = true := by rw [dec_lt]; simp [c]
    have d2 : IntKind.i64.wrap ((k : Int) + 1) = (k + 1 : Nat) := by rw [i64_in] <;> omega
    have d3 : decide ((0 : Int) ≤ (k : Int)) = true := by simp
    have hzt : es[k]? = some es[k] := by simp [c]
    generalize es[k] = e at hzt
    obtain ⟨g, cap, hvv, hlg⟩ := row_at1 (w0 := w0) hr1 (k := k) (y := ptr e.1) (by rw [List.getElem?_map, hzt]; rfl)
    rw [hvv] at f0
    simp -implicitDefEqProofs only [go_sem, Nat.reduceEqDiff, Nat.reduceLT, Nat.reduceAdd, Nat.reduceMul, Int.reduceEq, Int.reduceLT, Int.reduceLE, Int.reduceNe, Int.reduceBEq, Int.reduceToNat, ↓reduceIte, f0, f1, f7, f8, d1, d3, hlg, aop_call, callK_fn hok]
    refine (hT.1 k e H1 hzt hJk).mono ?_
    rintro r H2 ⟨rfl, hJ2, hk2⟩
    have hr2 := hr1.keep (H' := H2) fun b o hb ho => hk2 b o (Row.tyAt hr1 hb) ho
    cases ce : e.2
    · simp -implicitDefEqProofs only [go_sem, Nat.reduceEqDiff, Nat.reduceLT, Nat.reduceAdd, Nat.reduceMul, Int.reduceEq, Int.reduceLT, Int.reduceLE, Int.reduceNe, Int.reduceBEq, Int.reduceToNat, ↓reduceIte, f0, f1, f7, f8, d2]
      refine ⟨m - 1, by omega, k + 1, by omega, by simp -implicitDefEqProofs only [go_sem, Nat.reduceEqDiff, Nat.reduceLT, Nat.reduceAdd, Nat.reduceMul, Int.reduceEq, Int.reduceLT, Int.reduceLE, Int.reduceNe, Int.reduceBEq, Int.reduceToNat, ↓reduceIte, f0, hvv], by simp -implicitDefEqProofs only [go_sem, Nat.reduceEqDiff, Nat.reduceLT, Nat.reduceAdd, Nat.reduceMul, Int.reduceEq, Int.reduceLT, Int.reduceLE, Int.reduceNe, Int.reduceBEq, Int.reduceToNat, ↓reduceIte, f1], by simp -implicitDefEqProofs only [go_sem, Nat.reduceEqDiff, Nat.reduceLT, Nat.reduceAdd, Nat.reduceMul, Int.reduceEq, Int.reduceLT, Int.reduceLE, Int.reduceNe, Int.reduceBEq, Int.reduceToNat, ↓reduceIte, f7], by simp -implicitDefEqProofs only [go_sem, Nat.reduceEqDiff, Nat.reduceLT, Nat.reduceAdd, Nat.reduceMul, Int.reduceEq, Int.reduceLT, Int.reduceLE, Int.reduceNe, Int.reduceBEq, Int.reduceToNat, ↓reduceIte], hJ2, hr2, fun j e' hj he' => ?_⟩
      by_cases cj : j = k
      · rw [cj, hzt] at he'; cases he'; exact ce
      · exact hno j e' (by omega) he'
    · simp -implicitDefEqProofs only [go_sem, Nat.reduceEqDiff, Nat.reduceLT, Nat.reduceAdd, Nat.reduceMul, Int.reduceEq, Int.reduceLT, Int.reduceLE, Int.reduceNe, Int.reduceBEq, Int.reduceToNat, ↓reduceIte, f0, f1, f7, f8]
      rw [← hvs]
      exact ⟨hr2, .inr ⟨k, e, hzt, ce, rfl, hJ2, hno⟩⟩
  · have d1 : decide ((k : Int) < (es.length : Int)) = false := by rw [dec_lt]; simp; omega
    have hkn : k = es.length := by omega
    subst hkn
    simp -implicitDefEqProofs only [go_sem, Nat.reduceEqDiff, Nat.reduceLT, Nat.reduceAdd, Nat.reduceMul, Int.reduceEq, Int.reduceLT, Int.reduceLE, Int.reduceNe, Int.reduceBEq, Int.reduceToNat, ↓reduceIte, f0, f1, f7, f8, d1]
    rw [← hvs]
    exact ⟨hr1, .inl ⟨hJk, hno⟩⟩

def DelTI (w0 : World) (es : List (Nat × Bool)) (g cap : Nat) (fid : Nat) (caps : Array Value) (J : Nat → Hp → Prop) (m : Nat) (F : Fr) (H : Hp) : Prop :=
  ∃ (k : Nat) (cur : Array Value), k + m = es.length ∧ F 0 = .slice (some ⟨g, 0, none⟩) es.length cap ∧ F 1 = .func (.func fid) #[] caps ∧ F 5 = .int .i64 ((keptOf (es.take k)).length : Int) ∧ F 6 = .int .i64 (k : Int) ∧ J k H ∧
    H g = some (.cells cur 79 (0, 0)) ∧ cur.size = cap ∧ es.length ≤ cap ∧ (keptOf (es.take k)).length < k ∧ cur.toList.take (keptOf (es.take k)).length = keptOf (es.take k) ∧ ∀ j e, k ≤ j → es[j]? = some e → cur[j]? = some (ptr e.1)
theorem delT_ok {w0 : World} {H : Hp} {v : Value} {es : List (Nat × Bool)} {fid : Nat} {caps : Array Value} {J : Nat → Hp → Prop} (hok : callOk Try.prog fid = true) (hT : Tests w0 79 fid caps es J)
    (hrow : Row H 79 1 v es.length (es.map fun e => ptr e.1)) (hn : es.length < 1000000) (hJ : J 0 H) :
    ACalls Try.prog w0 41 #[v, .func (.func fid) #[] caps] H fun r H' => Row H' 79 1 r (keptOf es).length (keptOf es) ∧ J es.length H' := by
  obtain ⟨va, vc, hvs⟩ := hrow.slice
  refine acalls_of Try.func41 rfl Try.ntmps41 r41 (by simp) ?_
  simp -implicitDefEqProofs only [go_sem, Nat.reduceEqDiff, Nat.reduceLT, Nat.reduceAdd, Nat.reduceMul, Int.reduceEq, Int.reduceLT, Int.reduceLE, Int.reduceNe, Int.reduceBEq, Int.reduceToNat, ↓reduceIte]
  refine (idfT_ok hok hT hrow hn hJ).mono ?_
  rintro r H1 ⟨hr1, ⟨rfl, hJ1, hno⟩ | ⟨i, e, hei, hde, rfl, hJ1, hno⟩⟩
  · have d1 : decide ((-1 : Int) = -1) = true := rfl
    simp -implicitDefEqProofs only [go_sem, Nat.reduceEqDiff, Nat.reduceLT, Nat.reduceAdd, Nat.reduceMul, Int.reduceEq, Int.reduceLT, Int.reduceLE, Int.reduceNe, Int.reduceBEq, Int.reduceToNat, ↓reduceIte, d1]
    have := keptOf_all hno
    rw [List.take_length] at this
    rw [this, List.length_map]
    exact ⟨hr1, hJ1⟩
  · have hil : i < es.length := (List.getElem?_eq_some_iff.1 hei).1
    have d1 : decide ((i : Int) = -1) = false := by rw [decide_eq_false_iff_not]; omega
    have d2 : IntKind.i64.wrap ((i : Int) + 1) = (i + 1 : Nat) := by rw [i64_in] <;> omega
    obtain ⟨g, cap, cur, hv, hg, hc, hs, hget, htk⟩ := hr1.open1 (by omega)
    have hka := keptOf_all hno
    have hkt : keptOf (es.take (i + 1)) = (es.take i).map fun e => ptr e.1 := by rw [keptOf_take hei, hde, hka]; simp
    have hlen : ((es.take i).map fun e : Nat × Bool => ptr e.1).length = i := by simp; omega
    simp -implicitDefEqProofs only [go_sem, Nat.reduceEqDiff, Nat.reduceLT, Nat.reduceAdd, Nat.reduceMul, Int.reduceEq, Int.reduceLT, Int.reduceLE, Int.reduceNe, Int.reduceBEq, Int.reduceToNat, ↓reduceIte, d1, d2]
    refine AC.loop (DelTI w0 es g cap fid caps J) (n := es.length - (i + 1)) ⟨i + 1, cur, by omega, by simp -implicitDefEqProofs only [go_sem, Nat.reduceEqDiff, Nat.reduceLT, Nat.reduceAdd, Nat.reduceMul, Int.reduceEq, Int.reduceLT, Int.reduceLE, Int.reduceNe, Int.reduceBEq, Int.reduceToNat, ↓reduceIte, hv], by simp -implicitDefEqProofs only [go_sem, Nat.reduceEqDiff, Nat.reduceLT, Nat.reduceAdd, Nat.reduceMul, Int.reduceEq, Int.reduceLT, Int.reduceLE, Int.reduceNe, Int.reduceBEq, Int.reduceToNat, ↓reduceIte], by rw [hkt, hlen]; simp -implicitDefEqProofs only [go_sem, Nat.reduceEqDiff, Nat.reduceLT, Nat.reduceAdd, Nat.reduceMul, Int.reduceEq, Int.reduceLT, Int.reduceLE, Int.reduceNe, Int.reduceBEq, Int.reduceToNat, ↓reduceIte], by simp -implicitDefEqProofs only [go_sem, Nat.reduceEqDiff, Nat.reduceLT, Nat.reduceAdd, Nat.reduceMul, Int.reduceEq, Int.reduceLT, Int.reduceLE, Int.reduceNe, Int.reduceBEq, Int.reduceToNat, ↓reduceIte], hJ1, hg, hs, hc, by rw [hkt, hlen]; omega, ?_, fun j e' hj he' => ?_⟩ ?_
    · rw [hkt, hlen, List.map_take, ← htk, List.take_take, Nat.min_eq_left (by omega)]
    · have := (List.getElem?_eq_some_iff.1 he').1
      rw [hget j (by omega), List.getElem?_map, he']; rfl
    · rintro m F H2 ⟨k, cur2, hk, f0, f1, f5, f6, hJk, hg2, hs2, hc2, hlt, htk2, hrest⟩
      have hki : (keptOf (es.take k)).length < cur2.size := by omega
      by_cases c : k < es.length
      · have e1 : decide ((k : Int) < (es.length : Int)) = true := by rw [dec_lt]; simp [c]
        have e2 : IntKind.i64.wrap ((k : Int) + 1) = (k + 1 : Nat) := by rw [i64_in] <;> omega
        have e3 : decide ((0 : Int) ≤ (k : Int)) = true := by simp
        have hzt : es[k]? = some es[k] := by simp [c]
        generalize es[k] = e' at hzt
        have hlg : ld w0 H2 ⟨g, k, none⟩ = some (ptr e'.1) := by rw [ld_own w0 hg2]; exact hrest k e' (Nat.le_refl _) hzt
        simp -implicitDefEqProofs only [go_sem, Nat.reduceEqDiff, Nat.reduceLT, Nat.reduceAdd, Nat.reduceMul, Int.reduceEq, Int.reduceLT, Int.reduceLE, Int.reduceNe, Int.reduceBEq, Int.reduceToNat, ↓reduceIte, f0, f1, f5, f6, e1, e3, hlg, aop_call, callK_fn hok]
        refine (hT.1 k e' H2 hzt hJk).mono ?_
        rintro r H3 ⟨rfl, hJ3, hk3⟩
        have hg3 := hk3 g _ (tyAt_of hg2) hg2
        have hkt2 := keptOf_take hzt
        cases ce : e'.2
        · have e5 : decide ((0 : Int) ≤ ((keptOf (es.take k)).length : Int)) = true := by simp
          have e6 : decide (((keptOf (es.take k)).length : Int) < (es.length : Int)) = true := by rw [dec_lt]; simp; omega
          have e7 : IntKind.i64.wrap (((keptOf (es.take k)).length : Int) + 1) = ((keptOf (es.take (k + 1))).length : Int) := by
            rw [hkt2, ce]; simp only [Bool.false_eq_true, if_false, List.length_append, List.length_singleton]; rw [i64_in] <;> omega
          rw [ce] at hkt2
          simp only [Bool.false_eq_true, if_false] at hkt2
          have hw := wr_own hg3 _ hki
          simp -implicitDefEqProofs only [go_sem, Nat.reduceEqDiff, Nat.reduceLT, Nat.reduceAdd, Nat.reduceMul, Int.reduceEq, Int.reduceLT, Int.reduceLE, Int.reduceNe, Int.reduceBEq, Int.reduceToNat, ↓reduceIte, f0, f1, f5, f6, e5, e6, e7, e2, hw]
          have hJ4 : J (k + 1) (H3.set g (.cells (cur2.setIfInBounds (keptOf (es.take k)).length (ptr e'.1)) 79 (0, 0))) := hT.2 _ _ _ g hJ3 (tyAt_of hg3) (fun b hb => Hp.set_ne _ _ _ _ hb) (tyAt_of (Hp.set_same _ _ _))
          refine ⟨m - 1, by omega, k + 1, _, by omega, by simp -implicitDefEqProofs only [go_sem, Nat.reduceEqDiff, Nat.reduceLT, Nat.reduceAdd, Nat.reduceMul, Int.reduceEq, Int.reduceLT, Int.reduceLE, Int.reduceNe, Int.reduceBEq, Int.reduceToNat, ↓reduceIte, f0], by simp -implicitDefEqProofs only [go_sem, Nat.reduceEqDiff, Nat.reduceLT, Nat.reduceAdd, Nat.reduceMul, Int.reduceEq, Int.reduceLT, Int.reduceLE, Int.reduceNe, Int.reduceBEq, Int.reduceToNat, ↓reduceIte, f1], by simp -implicitDefEqProofs only [go_sem, Nat.reduceEqDiff, Nat.reduceLT, Nat.reduceAdd, Nat.reduceMul, Int.reduceEq, Int.reduceLT, Int.reduceLE, Int.reduceNe, Int.reduceBEq, Int.reduceToNat, ↓reduceIte], by simp -implicitDefEqProofs only [go_sem, Nat.reduceEqDiff, Nat.reduceLT, Nat.reduceAdd, Nat.reduceMul, Int.reduceEq, Int.reduceLT, Int.reduceLE, Int.reduceNe, Int.reduceBEq, Int.reduceToNat, ↓reduceIte], hJ4, Hp.set_same _ _ _, by simpa using hs2, hc2, by rw [hkt2, List.length_append, List.length_singleton]; omega, ?_, fun j e'' hj he'' => ?_⟩
          · rw [hkt2, List.length_append, List.length_singleton, Array.toList_setIfInBounds, List.take_add_one, List.take_set_of_le (Nat.le_refl _), htk2]
            congr 1
            rw [List.getElem?_set_self (by rw [Array.length_toList]; exact hki)]
            rfl
          · rw [Array.getElem?_setIfInBounds_ne (by omega)]
            exact hrest j e'' (by omega) he''
        · rw [ce] at hkt2
          simp only [if_true, List.append_nil] at hkt2
          simp -implicitDefEqProofs only [go_sem, Nat.reduceEqDiff, Nat.reduceLT, Nat.reduceAdd, Nat.reduceMul, Int.reduceEq, Int.reduceLT, Int.reduceLE, Int.reduceNe, Int.reduceBEq, Int.reduceToNat, ↓reduceIte, f0, f1, f5, f6, e2]
          exact ⟨m - 1, by omega, k + 1, cur2, by omega, by simp -implicitDefEqProofs only [go_sem, Nat.reduceEqDiff, Nat.reduceLT, Nat.reduceAdd, Nat.reduceMul, Int.reduceEq, Int.reduceLT, Int.reduceLE, Int.reduceNe, Int.reduceBEq, Int.reduceToNat, ↓reduceIte, f0], by simp -implicitDefEqProofs only [go_sem, Nat.reduceEqDiff, Nat.reduceLT, Nat.reduceAdd, Nat.reduceMul, Int.reduceEq, Int.reduceLT, Int.reduceLE, Int.reduceNe, Int.reduceBEq, Int.reduceToNat, ↓reduceIte, f1], by rw [hkt2]; simp -implicitDefEqProofs only [go_sem, Nat.reduceEqDiff, Nat.reduceLT, Nat.reduceAdd, Nat.reduceMul, Int.reduceEq, Int.reduceLT, Int.reduceLE, Int.reduceNe, Int.reduceBEq, Int.reduceToNat, ↓reduceIte, f5], by simp -implicitDefEqProofs only [go_sem, Nat.reduceEqDiff, Nat.reduceLT, Nat.reduceAdd, Nat.reduceMul, Int.reduceEq, Int.reduceLT, Int.reduceLE, Int.reduceNe, Int.reduceBEq, Int.reduceToNat, ↓reduceIte], hJ3, hg3, hs2, hc2, by rw [hkt2]; omega, by rw [hkt2]; exact htk2, fun j e'' hj he'' => hrest j e'' (by omega) he''⟩
      · have e1 : decide ((k : Int) < (es.length : Int)) = false := by rw [dec_lt]; simp; omega
        have hkn : k = es.length := by omega
        subst hkn
        rw [List.take_length] at f5 hlt htk2 hki
        simp -implicitDefEqProofs only [go_sem, Nat.reduceEqDiff, Nat.reduceLT, Nat.reduceAdd, Nat.reduceMul, Int.reduceEq, Int.reduceLT, Int.reduceLE, Int.reduceNe, Int.reduceBEq, Int.reduceToNat, ↓reduceIte, f0, f1, f5, f6, e1]
        refine aop_slice_lo (b := g) (n := es.length) (c := cap) (l := (keptOf es).length) Try.underlying70 s79 (by simp -implicitDefEqProofs only [go_sem, Nat.reduceEqDiff, Nat.reduceLT, Nat.reduceAdd, Nat.reduceMul, Int.reduceEq, Int.reduceLT, Int.reduceLE, Int.reduceNe, Int.reduceBEq, Int.reduceToNat, ↓reduceIte, f0]) (by simp -implicitDefEqProofs only [go_sem, Nat.reduceEqDiff, Nat.reduceLT, Nat.reduceAdd, Nat.reduceMul, Int.reduceEq, Int.reduceLT, Int.reduceLE, Int.reduceNe, Int.reduceBEq, Int.reduceToNat, ↓reduceIte, f5]) (by omega) (by omega) ?_
        simp -implicitDefEqProofs only [go_sem, Nat.reduceEqDiff, Nat.reduceLT, Nat.reduceAdd, Nat.reduceMul, Int.reduceEq, Int.reduceLT, Int.reduceLE, Int.reduceNe, Int.reduceBEq, Int.reduceToNat, ↓reduceIte, f0, f1, f5, f6]
        refine aop_clear (b := g) (l := (keptOf es).length) (m := es.length - (keptOf es).length) (c := cap - (keptOf es).length) Try.underlying70 z79 rfl rfl (by simp -implicitDefEqProofs only [go_sem, Nat.reduceEqDiff, Nat.reduceLT, Nat.reduceAdd, Nat.reduceMul, Int.reduceEq, Int.reduceLT, Int.reduceLE, Int.reduceNe, Int.reduceBEq, Int.reduceToNat, ↓reduceIte]) (by omega) hg2 (by omega) ?_
        intro H3 cur3 hf3 hg3 hs3 htk3
        simp -implicitDefEqProofs only [go_sem, Nat.reduceEqDiff, Nat.reduceLT, Nat.reduceAdd, Nat.reduceMul, Int.reduceEq, Int.reduceLT, Int.reduceLE, Int.reduceNe, Int.reduceBEq, Int.reduceToNat, ↓reduceIte, f0, f1, f5, f6]
        refine slH_row (dst := none) (ty := 0) (pos := "") (after := #[]) (g := none) (b := g) (n := es.length) (c := cap) (l := (keptOf es).length) Try.underlying70 s79 (by simp -implicitDefEqProofs only [go_sem, Nat.reduceEqDiff, Nat.reduceLT, Nat.reduceAdd, Nat.reduceMul, Int.reduceEq, Int.reduceLT, Int.reduceLE, Int.reduceNe, Int.reduceBEq, Int.reduceToNat, ↓reduceIte, f0]) (by simp -implicitDefEqProofs only [go_sem, Nat.reduceEqDiff, Nat.reduceLT, Nat.reduceAdd, Nat.reduceMul, Int.reduceEq, Int.reduceLT, Int.reduceLE, Int.reduceNe, Int.reduceBEq, Int.reduceToNat, ↓reduceIte, f5]) (by omega) (by omega) ?_
        simp -implicitDefEqProofs only [go_sem, Nat.reduceEqDiff, Nat.reduceLT, Nat.reduceAdd, Nat.reduceMul, Int.reduceEq, Int.reduceLT, Int.reduceLE, Int.reduceNe, Int.reduceBEq, Int.reduceToNat, ↓reduceIte, f0, f1, f5, f6]
        exact ⟨⟨by simp, .inr ⟨g, cap, cur3, rfl, hg3, by omega, by omega, by rw [Nat.mul_one, htk3, htk2]⟩⟩, hT.2 _ _ _ g hJk (tyAt_of hg2) hf3 (tyAt_of hg3)⟩

/-! ### indexs -/
def IdfXI (w0 : World) (es : List (Nat × Bool)) (v : Value) (fid : Nat) (caps : Array Value) (J : Nat → Hp → Prop) (m : Nat) (F : Fr) (H : Hp) : Prop :=
  ∃ k, k + m = es.length ∧ F 0 = v ∧ F 1 = .func (.func fid) #[] caps ∧ F 7 = .int .i64 (es.length : Int) ∧ F 8 = .int .i64 (k : Int) ∧ J k H ∧ Row H 92 1 v es.length (es.map fun e => ptr e.1) ∧ ∀ j e, j < k → es[j]? = some e → e.2 = false
theorem idfX_ok {w0 : World} {H : Hp} {v : Value} {es : List (Nat × Bool)} {fid : Nat} {caps : Array Value} {J : Nat → Hp → Prop} (hok : callOk Try.prog fid = true) (hT : Tests w0 92 fid caps es J)
    (hrow : Row H 92 1 v es.length (es.map fun e => ptr e.1)) (hn : es.length < 1000000) (hJ : J 0 H) :
    ACalls Try.prog w0 56 #[v, .func (.func fid) #[] caps] H fun r H' => Row H' 92 1 v es.length (es.map fun e => ptr e.1) ∧
      ((r = .int .i64 (-1) ∧ J es.length H' ∧ ∀ j e, j < es.length → es[j]? = some e → e.2 = false) ∨
       ∃ (i : Nat) (e : Nat × Bool), es[i]? = some e ∧ e.2 = true ∧ r = .int .i64 (i : Int) ∧ J (i + 1) H' ∧ ∀ j e, j < i → es[j]? = some e → e.2 = false) := by
  obtain ⟨va, vc, hvs⟩ := hrow.slice
  refine acalls_of Try.func56 rfl Try.ntmps56 r56 (by simp) ?_
  simp -implicitDefEqProofs only [go_sem, Nat.reduceEqDiff, Nat.reduceLT, Nat.reduceAdd, Nat.reduceMul, Int.reduceEq, Int.reduceLT, Int.reduceLE, Int.reduceNe, Int.reduceBEq, Int.reduceToNat, ↓reduceIte, hvs]
  refine AC.loop (IdfXI w0 es v fid caps J) (n := es.length) ⟨0, by omega, by simp -implicitDefEqProofs only [go_sem, Nat.reduceEqDiff, Nat.reduceLT, Nat.reduceAdd, Nat.reduceMul, Int.reduceEq, Int.reduceLT, Int.reduceLE, Int.reduceNe, Int.reduceBEq, Int.reduceToNat, ↓reduceIte, hvs], by simp -implicitDefEqProofs only [go_sem, Nat.reduceEqDiff, Nat.reduceLT, Nat.reduceAdd, Nat.reduceMul, Int.reduceEq, Int.reduceLT, Int.reduceLE, Int.reduceNe, Int.reduceBEq, Int.reduceToNat, ↓reduceIte], by simp -implicitDefEqProofs only [go_sem, Nat.reduceEqDiff, Nat.reduceLT, Nat.reduceAdd, Nat.reduceMul, Int.reduceEq, Int.reduceLT, Int.reduceLE, Int.reduceNe, Int.reduceBEq, Int.reduceToNat, ↓reduceIte], by simp -implicitDefEqProofs only [go_sem, Nat.reduceEqDiff, Nat.reduceLT, Nat.reduceAdd, Nat.reduceMul, Int.reduceEq, Int.reduceLT, Int.reduceLE, Int.reduceNe, Int.reduceBEq, Int.reduceToNat, ↓reduceIte], hJ, hrow, fun j e hj => by omega⟩ ?_
  rintro m F H1 ⟨k, hk, f0, f1, f7, f8, hJk, hr1, hno⟩
  by_cases c : k < es.length
  · have d1 : decide ((k : Int) < (es.length : Int)) = true := by rw [dec_lt]; simp [c]
    have d2 : IntKind.i64.wrap ((k : Int) + 1) = (k + 1 : Nat) := by rw [i64_in] <;> omega
    have d3 : decide ((0 : Int) ≤ (k : Int)) = true := by simp
    have hzt : es[k]? = some es[k] := by simp [c]
    generalize es[k] = e at hzt
    obtain ⟨g, cap, hvv, hlg⟩ := row_at1 (w0 := w0) hr1 (k := k) (y := ptr e.1) (by rw [List.getElem?_map, hzt]; rfl)
    rw [hvv] at f0
    simp -implicitDefEqProofs only [go_sem, Nat.reduceEqDiff, Nat.reduceLT, Nat.reduceAdd, Nat.reduceMul, Int.reduceEq, Int.reduceLT, Int.reduceLE, Int.reduceNe, Int.reduceBEq, Int.reduceToNat, ↓reduceIte, f0, f1, f7, f8, d1, d3, hlg, aop_call, callK_fn hok]
    refine (hT.1 k e H1 hzt hJk).mono ?_
    rintro r H2 ⟨rfl, hJ2, hk2⟩
    have hr2 := hr1.keep (H' := H2) fun b o hb ho => hk2 b o (Row.tyAt hr1 hb) ho
    cases ce : e.2
    · simp -implicitDefEqProofs only [go_sem, Nat.reduceEqDiff, Nat.reduceLT, Nat.reduceAdd, Nat.reduceMul, Int.reduceEq, Int.reduceLT, Int.reduceLE, Int.reduceNe, Int.reduceBEq, Int.reduceToNat, ↓reduceIte, f0, f1, f7, f8, d2]
      refine ⟨m - 1, by omega, k + 1, by omega, by simp -implicitDefEqProofs only [go_sem, Nat.reduceEqDiff, Nat.reduceLT, Nat.reduceAdd, Nat.reduceMul, Int.reduceEq, Int.reduceLT, Int.reduceLE, Int.reduceNe, Int.reduceBEq, Int.reduceToNat, ↓reduceIte, f0, hvv], by simp -implicitDefEqProofs only [go_sem, Nat.reduceEqDiff, Nat.reduceLT, Nat.reduceAdd, Nat.reduceMul, Int.reduceEq, Int.reduceLT, Int.reduceLE, Int.reduceNe, Int.reduceBEq, Int.reduceToNat, ↓reduceIte, f1], by simp -implicitDefEqProofs only [go_sem, Nat.reduceEqDiff, Nat.reduceLT, Nat.reduceAdd, Nat.reduceMul, Int.reduceEq, Int.reduceLT, Int.reduceLE, Int.reduceNe, Int.reduceBEq, Int.reduceToNat, ↓reduceIte, f7], by simp -implicitDefEqProofs only [go_sem, Nat.reduceEqDiff, Nat.reduceLT, Nat.reduceAdd, Nat.reduceMul, Int.reduceEq, Int.reduceLT, Int.reduceLE, Int.reduceNe, Int.reduceBEq, Int.reduceToNat, ↓reduceIte], hJ2, hr2, fun j e' hj he' => ?_⟩
      by_cases cj : j = k
      · rw [cj, hzt] at he'; cases he'; exact ce
      · exact hno j e' (by omega) he'
    · simp -implicitDefEqProofs only [go_sem, Nat.reduceEqDiff, Nat.reduceLT, Nat.reduceAdd, Nat.reduceMul, Int.reduceEq, Int.reduceLT, Int.reduceLE, Int.reduceNe, Int.reduceBEq, Int.reduceToNat, ↓reduceIte, f0, f1, f7, f8]
      rw [← hvs]
      exact ⟨hr2, .inr ⟨k, e, hzt, ce, rfl, hJ2, hno⟩⟩
  · have d1 : decide ((k : Int) < (es.length : Int)) = false := by rw [dec_lt]; simp; omega
    have hkn : k = es.length := by omega
    subst hkn
    simp -implicitDefEqProofs only [go_sem, Nat.reduceEqDiff, Nat.reduceLT, Nat.reduceAdd, Nat.reduceMul, Int.reduceEq, Int.reduceLT, Int.reduceLE, Int.reduceNe, Int.reduceBEq, Int.reduceToNat, ↓reduceIte, f0, f1, f7, f8, d1]
    rw [← hvs]
    exact ⟨hr1, .inl ⟨hJk, hno⟩⟩

def DelXI (w0 : World) (es : List (Nat × Bool)) (g cap : Nat) (fid : Nat) (caps : Array Value) (J : Nat → Hp → Prop) (m : Nat) (F : Fr) (H : Hp) : Prop :=
  ∃ (k : Nat) (cur : Array Value), k + m = es.length ∧ F 0 = .slice (some ⟨g, 0, none⟩) es.length cap ∧ F 1 = .func (.func fid) #[] caps ∧ F 5 = .int .i64 ((keptOf (es.take k)).length : Int) ∧ F 6 = .int .i64 (k : Int) ∧ J k H ∧
    H g = some (.cells cur 92 (0, 0)) ∧ cur.size = cap ∧ es.length ≤ cap ∧ (keptOf (es.take k)).length < k ∧ cur.toList.take (keptOf (es.take k)).length = keptOf (es.take k) ∧ ∀ j e, k ≤ j → es[j]? = some e → cur[j]? = some (ptr e.1)
theorem delX_ok {w0 : World} {H : Hp} {v : Value} {es : List (Nat × Bool)} {fid : Nat} {caps : Array Value} {J : Nat → Hp → Prop} (hok : callOk Try.prog fid = true) (hT : Tests w0 92 fid caps es J)
    (hrow : Row H 92 1 v es.length (es.map fun e => ptr e.1)) (hn : es.length < 1000000) (hJ : J 0 H) :
    ACalls Try.prog w0 44 #[v, .func (.func fid) #[] caps] H fun r H' => Row H' 92 1 r (keptOf es).length (keptOf es) ∧ J es.length H' := by
  obtain ⟨va, vc, hvs⟩ := hrow.slice
  refine acalls_of Try.func44 rfl Try.ntmps44 r44 (by simp) ?_
  simp -implicitDefEqProofs only [go_sem, Nat.reduceEqDiff, Nat.reduceLT, Nat.reduceAdd, Nat.reduceMul, Int.reduceEq, Int.reduceLT, Int.reduceLE, Int.reduceNe, Int.reduceBEq, Int.reduceToNat, ↓reduceIte]
  refine (idfX_ok hok hT hrow hn hJ).mono ?_
  rintro r H1 ⟨hr1, ⟨rfl, hJ1, hno⟩ | ⟨i, e, hei, hde, rfl, hJ1, hno⟩⟩
  · have d1 : decide ((-1 : Int) = -1) = true := rfl
    simp -implicitDefEqProofs only [go_sem, Nat.reduceEqDiff, Nat.reduceLT, Nat.reduceAdd, Nat.reduceMul, Int.reduceEq, Int.reduceLT, Int.reduceLE, Int.reduceNe, Int.reduceBEq, Int.reduceToNat, ↓reduceIte, d1]
    have := keptOf_all hno
    rw [List.take_length] at this
    rw [this, List.length_map]
    exact ⟨hr1, hJ1⟩
  · have hil : i < es.length := (List.getElem?_eq_some_iff.1 hei).1
    have d1 : decide ((i : Int) = -1) = false := by rw [decide_eq_false_iff_not]; omega
    have d2 : IntKind.i64.wrap ((i : Int) + 1) = (i + 1 : Nat) := by rw [i64_in] <;> omega
    obtain ⟨g, cap, cur, hv, hg, hc, hs, hget, htk⟩ := hr1.open1 (by omega)
    have hka := keptOf_all hno
    have hkt : keptOf (es.take (i + 1)) = (es.take i).map fun e => ptr e.1 := by rw [keptOf_take hei, hde, hka]; simp
    have hlen : ((es.take i).map fun e : Nat × Bool => ptr e.1).length = i := by simp; omega
    simp -implicitDefEqProofs only [go_sem, Nat.reduceEqDiff, Nat.reduceLT, Nat.reduceAdd, Nat.reduceMul, Int.reduceEq, Int.reduceLT, Int.reduceLE, Int.reduceNe, Int.reduceBEq, Int.reduceToNat, ↓reduceIte, d1, d2]
    refine AC.loop (DelXI w0 es g cap fid caps J) (n := es.length - (i + 1)) ⟨i + 1, cur, by omega, by simp -implicitDefEqProofs only [go_sem, Nat.reduceEqDiff, Nat.reduceLT, Nat.reduceAdd, Nat.reduceMul, Int.reduceEq, Int.reduceLT, Int.reduceLE, Int.reduceNe, Int.reduceBEq, Int.reduceToNat, ↓reduceIte, hv], by simp -implicitDefEqProofs only [go_sem, Nat.reduceEqDiff, Nat.reduceLT, Nat.reduceAdd, Nat.reduceMul, Int.reduceEq, Int.reduceLT, Int.reduceLE, Int.reduceNe, Int.reduceBEq, Int.reduceToNat, ↓reduceIte], by rw [hkt, hlen]; simp -implicitDefEqProofs only [go_sem, Nat.reduceEqDiff, Nat.reduceLT, Nat.reduceAdd, Nat.reduceMul, Int.reduceEq, Int.reduceLT, Int.reduceLE, Int.reduceNe, Int.reduceBEq, Int.reduceToNat, ↓reduceIte], by simp -implicitDefEqProofs only [go_sem, Nat.reduceEqDiff, Nat.reduceLT, Nat.reduceAdd, Nat.reduceMul, Int.reduceEq, Int.reduceLT, Int.reduceLE, Int.reduceNe, Int.reduceBEq, Int.reduceToNat, ↓reduceIte], hJ1, hg, hs, hc, by rw [hkt, hlen]; omega, ?_, fun j e' hj he' => ?_⟩ ?_
    · rw [hkt, hlen, List.map_take, ← htk, List.take_take, Nat.min_eq_left (by omega)]
    · have := (List.getElem?_eq_some_iff.1 he').1
      rw [hget j (by omega), List.getElem?_map, he']; rfl
    · rintro m F H2 ⟨k, cur2, hk, f0, f1, f5, f6, hJk, hg2, hs2, hc2, hlt, htk2, hrest⟩
      have hki : (keptOf (es.take k)).length < cur2.size := by omega
      by_cases c : k < es.length
      · have e1 : decide ((k : Int) < (es.length : Int)) = true := by rw [dec_lt]; simp [c]
        have e2 : IntKind.i64.wrap ((k : Int) + 1) = (k + 1 : Nat) := by rw [i64_in] <;> omega
        have e3 : decide ((0 : Int) ≤ (k : Int)) = true := by simp
        have hzt : es[k]? = some es[k] := by simp [c]
        generalize es[k] = e' at hzt
        have hlg : ld w0 H2 ⟨g, k, none⟩ = some (ptr e'.1) := by rw [ld_own w0 hg2]; exact hrest k e' (Nat.le_refl _) hzt
        simp -implicitDefEqProofs only [go_sem, Nat.reduceEqDiff, Nat.reduceLT, Nat.reduceAdd, Nat.reduceMul, Int.reduceEq, Int.reduceLT, Int.reduceLE, Int.reduceNe, Int.reduceBEq, Int.reduceToNat, ↓reduceIte, f0, f1, f5, f6, e1, e3, hlg, aop_call, callK_fn hok]
        refine (hT.1 k e' H2 hzt hJk).mono ?_
        rintro r H3 ⟨rfl, hJ3, hk3⟩
        have hg3 := hk3 g _ (tyAt_of hg2) hg2
        have hkt2 := keptOf_take hzt
        cases ce : e'.2
        · have e5 : decide ((0 : Int) ≤ ((keptOf (es.take k)).length : Int)) = true := by simp
          have e6 : decide (((keptOf (es.take k)).length : Int) < (es.length : Int)) = true := by rw [dec_lt]; simp; omega
          have e7 : IntKind.i64.wrap (((keptOf (es.take k)).length : Int) + 1) = ((keptOf (es.take (k + 1))).length : Int) := by
            rw [hkt2, ce]; simp only [Bool.false_eq_true, if_false, List.length_append, List.length_singleton]; rw [i64_in] <;> omega
          rw [ce] at hkt2
          simp only [Bool.false_eq_true, if_false] at hkt2
          have hw := wr_own hg3 _ hki
          simp -implicitDefEqProofs only [go_sem, Nat.reduceEqDiff, Nat.reduceLT, Nat.reduceAdd, Nat.reduceMul, Int.reduceEq, Int.reduceLT, Int.reduceLE, Int.reduceNe, Int.reduceBEq, Int.reduceToNat, ↓reduceIte, f0, f1, f5, f6, e5, e6, e7, e2, hw]
          have hJ4 : J (k + 1) (H3.set g (.cells (cur2.setIfInBounds (keptOf (es.take k)).length (ptr e'.1)) 92 (0, 0))) := hT.2 _ _ _ g hJ3 (tyAt_of hg3) (fun b hb => Hp.set_ne _ _ _ _ hb) (tyAt_of (Hp.set_same _ _ _))
          refine ⟨m - 1, by omega, k + 1, _, by omega, by simp -implicitDefEqProofs only [go_sem, Nat.reduceEqDiff, Nat.reduceLT, Nat.reduceAdd, Nat.reduceMul, Int.reduceEq, Int.reduceLT, Int.reduceLE, Int.reduceNe, Int.reduceBEq, Int.reduceToNat, ↓reduceIte, f0], by simp -implicitDefEqProofs only [go_sem, Nat.reduceEqDiff, Nat.reduceLT, Nat.reduceAdd, Nat.reduceMul, Int.reduceEq, Int.reduceLT, Int.reduceLE, Int.reduceNe, Int.reduceBEq, Int.reduceToNat, ↓reduceIte, f1], by simp -implicitDefEqProofs only [go_sem, Nat.reduceEqDiff, Nat.reduceLT, Nat.reduceAdd, Nat.reduceMul, Int.reduceEq, Int.reduceLT, Int.reduceLE, Int.reduceNe, Int.reduceBEq, Int.reduceToNat, ↓reduceIte], by simp -implicitDefEqProofs only [go_sem, Nat.reduceEqDiff, Nat.reduceLT, Nat.reduceAdd, Nat.reduceMul, Int.reduceEq, Int.reduceLT, Int.reduceLE, Int.reduceNe, Int.reduceBEq, Int.reduceToNat, ↓reduceIte], hJ4, Hp.set_same _ _ _, by simpa using hs2, hc2, by rw [hkt2, List.length_append, List.length_singleton]; omega, ?_, fun j e'' hj he'' => ?_⟩
          · rw [hkt2, List.length_append, List.length_singleton, Array.toList_setIfInBounds, List.take_add_one, List.take_set_of_le (Nat.le_refl _), htk2]
            congr 1
            rw [List.getElem?_set_self (by rw [Array.length_toList]; exact hki)]
            rfl
          · rw [Array.getElem?_setIfInBounds_ne (by omega)]
            exact hrest j e'' (by omega) he''
        · rw [ce] at hkt2
          simp only [if_true, List.append_nil] at hkt2
          simp -implicitDefEqProofs only [go_sem, Nat.reduceEqDiff, Nat.reduceLT, Nat.reduceAdd, Nat.reduceMul, Int.reduceEq, Int.reduceLT, Int.reduceLE, Int.reduceNe, Int.reduceBEq, Int.reduceToNat, ↓reduceIte, f0, f1, f5, f6, e2]
          exact ⟨m - 1, by omega, k + 1, cur2, by omega, by simp -implicitDefEqProofs only [go_sem, Nat.reduceEqDiff, Nat.reduceLT, Nat.reduceAdd, Nat.reduceMul, Int.reduceEq, Int.reduceLT, Int.reduceLE, Int.reduceNe, Int.reduceBEq, Int.reduceToNat, ↓reduceIte, f0], by simp -implicitDefEqProofs only [go_sem, Nat.reduceEqDiff, Nat.reduceLT, Nat.reduceAdd, Nat.reduceMul, Int.reduceEq, Int.reduceLT, Int.reduceLE, Int.reduceNe, Int.reduceBEq, Int.reduceToNat, ↓reduceIte, f1], by rw [hkt2]; simp -implicitDefEqProofs only [go_sem, Nat.reduceEqDiff, Nat.reduceLT, Nat.reduceAdd, Nat.reduceMul, Int.reduceEq, Int.reduceLT, Int.reduceLE, Int.reduceNe, Int.reduceBEq, Int.reduceToNat, ↓reduceIte, f5], by simp -implicitDefEqProofs only [go_sem, Nat.reduceEqDiff, Nat.reduceLT, Nat.reduceAdd, Nat.reduceMul, Int.reduceEq, Int.reduceLT, Int.reduceLE, Int.reduceNe, Int.reduceBEq, Int.reduceToNat, ↓reduceIte], hJ3, hg3, hs2, hc2, by rw [hkt2]; omega, by rw [hkt2]; exact htk2, fun j e'' hj he'' => hrest j e'' (by omega) he''⟩
      · have e1 : decide ((k : Int) < (es.length : Int)) = false := by rw [dec_lt]; simp; omega
        have hkn : k = es.length := by omega
        subst hkn
        rw [List.take_length] at f5 hlt htk2 hki
        simp -implicitDefEqProofs only [go_sem, Nat.reduceEqDiff, Nat.reduceLT, Nat.reduceAdd, Nat.reduceMul, Int.reduceEq, Int.reduceLT, Int.reduceLE, Int.reduceNe, Int.reduceBEq, Int.reduceToNat, ↓reduceIte, f0, f1, f5, f6, e1]
        refine aop_slice_lo (b := g) (n := es.length) (c := cap) (l := (keptOf es).length) Try.underlying71 s92 (by simp -implicitDefEqProofs only [go_sem, Nat.reduceEqDiff, Nat.reduceLT, Nat.reduceAdd, Nat.reduceMul, Int.reduceEq, Int.reduceLT, Int.reduceLE, Int.reduceNe, Int.reduceBEq, Int.reduceToNat, ↓reduceIte, f0]) (by simp -implicitDefEqProofs only [go_sem, Nat.reduceEqDiff, Nat.reduceLT, Nat.reduceAdd, Nat.reduceMul, Int.reduceEq, Int.reduceLT, Int.reduceLE, Int.reduceNe, Int.reduceBEq, Int.reduceToNat, ↓reduceIte, f5]) (by omega) (by omega) ?_
        simp -implicitDefEqProofs only [go_sem, Nat.reduceEqDiff, Nat.reduceLT, Nat.reduceAdd, Nat.reduceMul, Int.reduceEq, Int.reduceLT, Int.reduceLE, Int.reduceNe, Int.reduceBEq, Int.reduceToNat, ↓reduceIte, f0, f1, f5, f6]
        refine aop_clear (b := g) (l := (keptOf es).length) (m := es.length - (keptOf es).length) (c := cap - (keptOf es).length) Try.underlying71 z92 rfl rfl (by simp -implicitDefEqProofs only [go_sem, Nat.reduceEqDiff, Nat.reduceLT, Nat.reduceAdd, Nat.reduceMul, Int.reduceEq, Int.reduceLT, Int.reduceLE, Int.reduceNe, Int.reduceBEq, Int.reduceToNat, ↓reduceIte]) (by omega) hg2 (by omega) ?_
        intro H3 cur3 hf3 hg3 hs3 htk3
        simp -implicitDefEqProofs only [go_sem, Nat.reduceEqDiff, Nat.reduceLT, Nat.reduceAdd, Nat.reduceMul, Int.reduceEq, Int.reduceLT, Int.reduceLE, Int.reduceNe, Int.reduceBEq, Int.reduceToNat, ↓reduceIte, f0, f1, f5, f6]
        refine slH_row (dst := none) (ty := 0) (pos := "") (after := #[]) (g := none) (b := g) (n := es.length) (c := cap) (l := (keptOf es).length) Try.underlying71 s92 (by simp -implicitDefEqProofs only [go_sem, Nat.reduceEqDiff, Nat.reduceLT, Nat.reduceAdd, Nat.reduceMul, Int.reduceEq, Int.reduceLT, Int.reduceLE, Int.reduceNe, Int.reduceBEq, Int.reduceToNat, ↓reduceIte, f0]) (by simp -implicitDefEqProofs only [go_sem, Nat.reduceEqDiff, Nat.reduceLT, Nat.reduceAdd, Nat.reduceMul, Int.reduceEq, Int.reduceLT, Int.reduceLE, Int.reduceNe, Int.reduceBEq, Int.reduceToNat, ↓reduceIte, f5]) (by omega) (by omega) ?_
        simp -implicitDefEqProofs only [go_sem, Nat.reduceEqDiff, Nat.reduceLT, Nat.reduceAdd, Nat.reduceMul, Int.reduceEq, Int.reduceLT, Int.reduceLE, Int.reduceNe, Int.reduceBEq, Int.reduceToNat, ↓reduceIte, f0, f1, f5, f6]
        exact ⟨⟨by simp, .inr ⟨g, cap, cur3, rfl, hg3, by omega, by omega, by rw [Nat.mul_one, htk3, htk2]⟩⟩, hT.2 _ _ _ g hJk (tyAt_of hg2) hf3 (tyAt_of hg3)⟩
end Go.Proofs.Ytcpeiejabbdeiaa
