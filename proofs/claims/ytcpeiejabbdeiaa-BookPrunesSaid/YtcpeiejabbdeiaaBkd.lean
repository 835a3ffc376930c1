/-
  Package book: tables and indexes are dropped.
  Conditions: as each theorem states them.
-/
import Derived.Test.YtcpeiejabbdeiaaBst
namespace Go.Proofs.Ytcpeiejabbdeiaa
open Go Go.RowKit Go.Proofs.YtcpeiejabbdeiaaW
set_option maxRecDepth 100000
set_option maxHeartbeats 1000000
set_option linter.unusedSimpArgs false
set_option linter.unusedVariables false

def freeE (sts : List Nat) (z : Shot) (e : En) : Nat := freeC 1 sts z.own z.xmax z.run e.xmin e.xmax
def endC (sts : List Nat) (z : Shot) (es : List (Nat × En)) : Nat := if es.any (fun p => decide (¬ freeE sts z p.2 = 0)) = true then 11 else 0
/-- These blocks' fourth cells hold v now, all else is as it was. -/
def Marked (H H' : Hp) (bs : List Nat) (v : Value) : Prop :=
  (∀ b o, b ∉ bs → H b = some o → H' b = some o) ∧ ∀ b ∈ bs, ∀ c e, H b = some (.cells c e (0, 0)) → H' b = some (.cells (c.setIfInBounds 3 v) e (0, 0))
theorem set_twice (c : Array Value) (i : Nat) (v : Value) : (c.setIfInBounds i v).setIfInBounds i v = c.setIfInBounds i v := by
  apply Array.toList_inj.1
  simp [Array.toList_setIfInBounds]
def EntI (H : Hp) (es : List (Nat × En)) (sts : List Nat) (z : Shot) (l b4 : Nat) (v : Value) (m : Nat) (F : Fr) (H1 : Hp) : Prop :=
  ∃ k, k + m = es.length ∧ F 0 = ptr l ∧ F 2 = v ∧ F 4 = ptr b4 ∧ F 11 = v ∧ F 12 = .int .i64 (es.length : Int) ∧ F 13 = .int .i64 (k : Int) ∧ H1 = H ∧ (es.take k).any (fun p => decide (¬ freeE sts z p.2 = 0)) = false
def EntJ (H : Hp) (es : List (Nat × En)) (own : Nat) (b4 : Nat) (v : Value) (m : Nat) (F : Fr) (H1 : Hp) : Prop :=
  ∃ k, k + m = es.length ∧ F 4 = ptr b4 ∧ F 24 = v ∧ F 25 = .int .i64 (es.length : Int) ∧ F 26 = .int .i64 (k : Int) ∧ Marked H H1 ((es.take k).map (·.1)) (.int .u64 (own : Int))
theorem end11_ok {w0 : World} {H : Hp} {l : Nat} {S : Nat → Prop} {sts : List Nat} {z : Shot} (hl : LogAt H l S 1 sts) (hb : 1 + sts.length < 10000000000000) (hz : ShotAt H z) {es : List (Nat × En)} {v : Value} (hn : es.length < 1000000)
    (hv : Row H 99 1 v es.length (es.map fun p => ptr p.1)) (he : ∀ p ∈ es, EnAt w0 H p.1 p.2 ∧ ∃ c e, H p.1 = some (.cells c e (0, 0)) ∧ 3 < c.size ∧ e ≠ 99) :
    ACalls Try.prog w0 40 #[ptr l, .agg #[.int .u64 (z.own : Int), .int .u64 (z.xmin : Int), .int .u64 (z.xmax : Int), z.v], v] H fun r H' => r = .int .i64 (endC sts z es : Nat) ∧ (endC sts z es = 11 → Sub H H') ∧ (endC sts z es = 0 → Marked H H' (es.map (·.1)) (.int .u64 (z.own : Int))) := by
  refine acalls_of Try.func40 rfl Try.ntmps40 r40 (by simp) ?_
  simp -implicitDefEqProofs only [go_sem, Nat.reduceEqDiff, Nat.reduceLT, Nat.reduceAdd, Nat.reduceMul, Int.reduceEq, Int.reduceLT, Int.reduceLE, Int.reduceNe, Int.reduceBEq, Int.reduceToNat, ↓reduceIte]
  refine newK_of ?_
  intro b4 H1 hb4 hn4 h4 s1 g1
  have l4 := ldc w0 h4 4
  have l4' := ld_own w0 h4
  have hl1 := hl.keep (H' := H1) fun b o _ hb => s1 b o hb
  have hz1 := hz.sub s1
  have hv1 := hv.keep (H' := H1) fun b o _ hb => s1 b o hb
  obtain ⟨va, vc, hvs⟩ := hv1.slice
  simp -implicitDefEqProofs only [go_sem, Nat.reduceEqDiff, Nat.reduceLT, Nat.reduceAdd, Nat.reduceMul, Int.reduceEq, Int.reduceLT, Int.reduceLE, Int.reduceNe, Int.reduceBEq, Int.reduceToNat, ↓reduceIte, hvs]
  refine AC.loop (EntI H1 es sts z l b4 v) (n := es.length) ⟨0, by omega, rfl, by simp -implicitDefEqProofs only [go_sem, Nat.reduceEqDiff, Nat.reduceLT, Nat.reduceAdd, Nat.reduceMul, Int.reduceEq, Int.reduceLT, Int.reduceLE, Int.reduceNe, Int.reduceBEq, Int.reduceToNat, ↓reduceIte, hvs], rfl, by simp -implicitDefEqProofs only [go_sem, Nat.reduceEqDiff, Nat.reduceLT, Nat.reduceAdd, Nat.reduceMul, Int.reduceEq, Int.reduceLT, Int.reduceLE, Int.reduceNe, Int.reduceBEq, Int.reduceToNat, ↓reduceIte, hvs], by simp -implicitDefEqProofs only [go_sem, Nat.reduceEqDiff, Nat.reduceLT, Nat.reduceAdd, Nat.reduceMul, Int.reduceEq, Int.reduceLT, Int.reduceLE, Int.reduceNe, Int.reduceBEq, Int.reduceToNat, ↓reduceIte, List.length_map], rfl, rfl, rfl⟩ ?_
  rintro m F H2 ⟨k, hk, f0, f2, f4, f11, f12, f13, rfl, hno⟩
  by_cases c : k < es.length
  · have d1 : decide ((k : Int) < (es.length : Int)) = true := by simp; omega
    have d2 : IntKind.i64.wrap ((k : Int) + 1) = (k + 1 : Nat) := by rw [i64_in] <;> omega
    have d3 : decide ((0 : Int) ≤ (k : Int)) = true := by simp
    have hzt : es[k]? = some es[k] := by simp [c]
    generalize es[k] = p at hzt
    have hat := any_take (p := fun p : Nat × En => decide (¬ freeE sts z p.2 = 0)) hzt
    obtain ⟨g, cap, hvv, hlg⟩ := row_at1 (w0 := w0) hv1 (k := k) (y := ptr p.1) (by rw [List.getElem?_map, hzt]; rfl)
    have hen := (he p (List.mem_of_getElem? hzt)).1.sub s1
    rw [hvv] at f11 f2
    simp -implicitDefEqProofs only [go_sem, Nat.reduceEqDiff, Nat.reduceLT, Nat.reduceAdd, Nat.reduceMul, Int.reduceEq, Int.reduceLT, Int.reduceLE, Int.reduceNe, Int.reduceBEq, Int.reduceToNat, ↓reduceIte, f0, f2, f4, f11, f12, f13, d1, d3, hlg]
    refine vdraw_t [⟨0, .p, [], []⟩, ⟨1, .n, [], []⟩, ⟨2, .p, [], []⟩, ⟨3, .c, [1], []⟩, ⟨4, .c, [], []⟩, ⟨5, .p, [], []⟩] [0, 0, 0, 4, 15, 31] mixed (by kernel_rfl) ?_
    simp -implicitDefEqProofs only [go_sem, Nat.reduceEqDiff, Nat.reduceLT, Nat.reduceAdd, Nat.reduceMul, Int.reduceEq, Int.reduceLT, Int.reduceLE, Int.reduceNe, Int.reduceBEq, Int.reduceToNat, ↓reduceIte, f0, f2, f4, f11, f12, f13, l4, ldK_agg]
    refine (ent_tuple hen).mono ?_
    rintro rr H3 ⟨rfl, rfl⟩
    simp -implicitDefEqProofs only [go_sem, Nat.reduceEqDiff, Nat.reduceLT, Nat.reduceAdd, Nat.reduceMul, Int.reduceEq, Int.reduceLT, Int.reduceLE, Int.reduceNe, Int.reduceBEq, Int.reduceToNat, ↓reduceIte, f0, f2, f4, f11, f12, f13, l4, ldK_agg]
    refine (free_log hl1 (by omega) hz1.1 hz1.2 p.2.xmin p.2.xmax).mono ?_
    rintro rr H3 ⟨rfl, rfl⟩
    have hfe : freeC 1 sts z.own z.xmax z.run p.2.xmin p.2.xmax = freeE sts z p.2 := rfl
    rw [hfe]
    by_cases cf : freeE sts z p.2 = 0
    · have e1 : decide (((freeE sts z p.2 : Nat) : Int) = 0) = true := by rw [dec_zero]; simp [cf]
      simp -implicitDefEqProofs only [go_sem, Nat.reduceEqDiff, Nat.reduceLT, Nat.reduceAdd, Nat.reduceMul, Int.reduceEq, Int.reduceLT, Int.reduceLE, Int.reduceNe, Int.reduceBEq, Int.reduceToNat, ↓reduceIte, f0, f2, f4, f11, f12, f13, d2, e1]
      refine ⟨m - 1, by omega, k + 1, by omega, by simp -implicitDefEqProofs only [go_sem, Nat.reduceEqDiff, Nat.reduceLT, Nat.reduceAdd, Nat.reduceMul, Int.reduceEq, Int.reduceLT, Int.reduceLE, Int.reduceNe, Int.reduceBEq, Int.reduceToNat, ↓reduceIte, f0], by simp -implicitDefEqProofs only [go_sem, Nat.reduceEqDiff, Nat.reduceLT, Nat.reduceAdd, Nat.reduceMul, Int.reduceEq, Int.reduceLT, Int.reduceLE, Int.reduceNe, Int.reduceBEq, Int.reduceToNat, ↓reduceIte, f2, hvv], by simp -implicitDefEqProofs only [go_sem, Nat.reduceEqDiff, Nat.reduceLT, Nat.reduceAdd, Nat.reduceMul, Int.reduceEq, Int.reduceLT, Int.reduceLE, Int.reduceNe, Int.reduceBEq, Int.reduceToNat, ↓reduceIte, f4], by simp -implicitDefEqProofs only [go_sem, Nat.reduceEqDiff, Nat.reduceLT, Nat.reduceAdd, Nat.reduceMul, Int.reduceEq, Int.reduceLT, Int.reduceLE, Int.reduceNe, Int.reduceBEq, Int.reduceToNat, ↓reduceIte, f11, hvv], by simp -implicitDefEqProofs only [go_sem, Nat.reduceEqDiff, Nat.reduceLT, Nat.reduceAdd, Nat.reduceMul, Int.reduceEq, Int.reduceLT, Int.reduceLE, Int.reduceNe, Int.reduceBEq, Int.reduceToNat, ↓reduceIte, f12], by simp -implicitDefEqProofs only [go_sem, Nat.reduceEqDiff, Nat.reduceLT, Nat.reduceAdd, Nat.reduceMul, Int.reduceEq, Int.reduceLT, Int.reduceLE, Int.reduceNe, Int.reduceBEq, Int.reduceToNat, ↓reduceIte], rfl, ?_⟩
      rw [hat, hno]; simp [cf]
    · have e1 : decide (((freeE sts z p.2 : Nat) : Int) = 0) = false := by rw [dec_zero]; simp [cf]
      have hc : endC sts z es = 11 := by unfold endC; rw [any_at hzt (by simp [cf]), if_pos rfl]
      simp -implicitDefEqProofs only [go_sem, Nat.reduceEqDiff, Nat.reduceLT, Nat.reduceAdd, Nat.reduceMul, Int.reduceEq, Int.reduceLT, Int.reduceLE, Int.reduceNe, Int.reduceBEq, Int.reduceToNat, ↓reduceIte, f0, f2, f4, f11, f12, f13, e1]
      exact ⟨by rw [hc]; rfl, fun _ => s1, fun h => by rw [hc] at h; cases h⟩
  · have d1 : decide ((k : Int) < (es.length : Int)) = false := by simp; omega
    have htk : es.take k = es := List.take_of_length_le (by omega)
    rw [htk] at hno
    have hc : endC sts z es = 0 := by unfold endC; rw [hno]; rfl
    simp -implicitDefEqProofs only [go_sem, Nat.reduceEqDiff, Nat.reduceLT, Nat.reduceAdd, Nat.reduceMul, Int.reduceEq, Int.reduceLT, Int.reduceLE, Int.reduceNe, Int.reduceBEq, Int.reduceToNat, ↓reduceIte, f0, f2, f4, f11, f12, f13, d1, hvs]
    rw [← hvs]
    refine AC.loop (EntJ H2 es z.own b4 v) (n := es.length) ⟨0, by omega, by simp -implicitDefEqProofs only [go_sem, Nat.reduceEqDiff, Nat.reduceLT, Nat.reduceAdd, Nat.reduceMul, Int.reduceEq, Int.reduceLT, Int.reduceLE, Int.reduceNe, Int.reduceBEq, Int.reduceToNat, ↓reduceIte, f4], by simp -implicitDefEqProofs only [go_sem, Nat.reduceEqDiff, Nat.reduceLT, Nat.reduceAdd, Nat.reduceMul, Int.reduceEq, Int.reduceLT, Int.reduceLE, Int.reduceNe, Int.reduceBEq, Int.reduceToNat, ↓reduceIte, hvs], by simp -implicitDefEqProofs only [go_sem, Nat.reduceEqDiff, Nat.reduceLT, Nat.reduceAdd, Nat.reduceMul, Int.reduceEq, Int.reduceLT, Int.reduceLE, Int.reduceNe, Int.reduceBEq, Int.reduceToNat, ↓reduceIte], by simp -implicitDefEqProofs only [go_sem, Nat.reduceEqDiff, Nat.reduceLT, Nat.reduceAdd, Nat.reduceMul, Int.reduceEq, Int.reduceLT, Int.reduceLE, Int.reduceNe, Int.reduceBEq, Int.reduceToNat, ↓reduceIte], fun b o _ h => h, fun b hb => by simp at hb⟩ ?_
    clear f0 f2 f4 f11 f12 f13 d1 c htk hno
    rintro m F H3 ⟨k, hk, f4, f24, f25, f26, hm1, hm2⟩
    by_cases c : k < es.length
    · have d1 : decide ((k : Int) < (es.length : Int)) = true := by simp; omega
      have d2 : IntKind.i64.wrap ((k : Int) + 1) = (k + 1 : Nat) := by rw [i64_in] <;> omega
      have d3 : decide ((0 : Int) ≤ (k : Int)) = true := by simp
      have hzt : es[k]? = some es[k] := by simp [c]
      generalize es[k] = p at hzt
      obtain ⟨hen, cc, ec, hpc, h3c, hety⟩ := he p (List.mem_of_getElem? hzt)
      have hp1 := s1 _ _ hpc

      have hnb : ∀ b, tyAt H2 b = some 99 → b ∉ (es.take k).map (·.1) := fun b hb hm => by
        obtain ⟨q, hq, rfl⟩ := List.mem_map.1 hm
        obtain ⟨_, c', e', h', _, ne'⟩ := he q (List.mem_of_mem_take hq)
        rw [tyAt_of (s1 _ _ h')] at hb
        exact ne' (Option.some.inj hb)
      have hv3 := hv1.keep (H' := H3) fun b o hb ho => hm1 b o (hnb b (Row.tyAt hv1 hb)) ho
      obtain ⟨g, cap, hvv, hlg⟩ := row_at1 (w0 := w0) hv3 (k := k) (y := ptr p.1) (by rw [List.getElem?_map, hzt]; rfl)
      rw [hvv] at f24
      have n4 : b4 ∉ (es.take k).map (·.1) := fun hm => by
        obtain ⟨q, hq, hqe⟩ := List.mem_map.1 hm
        obtain ⟨_, c', e', h', _⟩ := he q (List.mem_of_mem_take hq)
        rw [hqe, hn4] at h'; cases h'
      have l4'' := ld_own w0 (hm1 b4 _ n4 h4)
      obtain ⟨c3, hc3, hc3s, hc3t⟩ : ∃ c3, H3 p.1 = some (.cells c3 ec (0, 0)) ∧ 3 < c3.size ∧ c3.setIfInBounds 3 (.int .u64 (z.own : Int)) = cc.setIfInBounds 3 (.int .u64 (z.own : Int)) := by
        by_cases hm : p.1 ∈ (es.take k).map (·.1)
        · exact ⟨_, hm2 p.1 hm cc ec hp1, by simp; omega, set_twice _ _ _⟩
        · exact ⟨cc, hm1 p.1 _ hm hp1, h3c, rfl⟩
      have hw := wr_own hc3 3 hc3s
      simp -implicitDefEqProofs only [go_sem, Nat.reduceEqDiff, Nat.reduceLT, Nat.reduceAdd, Nat.reduceMul, Int.reduceEq, Int.reduceLT, Int.reduceLE, Int.reduceNe, Int.reduceBEq, Int.reduceToNat, ↓reduceIte, f4, f24, f25, f26, d1, d2, d3, hlg, l4'', hw]
      refine ⟨m - 1, by omega, k + 1, by omega, by simp -implicitDefEqProofs only [go_sem, Nat.reduceEqDiff, Nat.reduceLT, Nat.reduceAdd, Nat.reduceMul, Int.reduceEq, Int.reduceLT, Int.reduceLE, Int.reduceNe, Int.reduceBEq, Int.reduceToNat, ↓reduceIte, f4], by simp -implicitDefEqProofs only [go_sem, Nat.reduceEqDiff, Nat.reduceLT, Nat.reduceAdd, Nat.reduceMul, Int.reduceEq, Int.reduceLT, Int.reduceLE, Int.reduceNe, Int.reduceBEq, Int.reduceToNat, ↓reduceIte, f24, hvv], by simp -implicitDefEqProofs only [go_sem, Nat.reduceEqDiff, Nat.reduceLT, Nat.reduceAdd, Nat.reduceMul, Int.reduceEq, Int.reduceLT, Int.reduceLE, Int.reduceNe, Int.reduceBEq, Int.reduceToNat, ↓reduceIte, f25], by simp -implicitDefEqProofs only [go_sem, Nat.reduceEqDiff, Nat.reduceLT, Nat.reduceAdd, Nat.reduceMul, Int.reduceEq, Int.reduceLT, Int.reduceLE, Int.reduceNe, Int.reduceBEq, Int.reduceToNat, ↓reduceIte], ?_⟩
      rw [hc3t, take_push hzt, List.map_append, List.map_cons, List.map_nil]
      refine ⟨fun b o hb ho => ?_, fun b hb c' e' h' => ?_⟩
      · simp only [List.mem_append, List.mem_singleton, not_or] at hb
        rw [Hp.set_ne _ _ _ _ hb.2]
        exact hm1 b o hb.1 ho
      · by_cases e : b = p.1
        · rw [e] at h' ⊢
          rw [hp1] at h'
          simp only [Option.some.injEq, Obj.cells.injEq] at h'
          obtain ⟨rfl, rfl, _⟩ := h'
          exact Hp.set_same _ _ _
        · rw [Hp.set_ne _ _ _ _ e]
          simp only [List.mem_append, List.mem_singleton, e, or_false] at hb
          exact hm2 b hb c' e' h'
    · have d1 : decide ((k : Int) < (es.length : Int)) = false := by simp; omega
      have htk : es.take k = es := List.take_of_length_le (by omega)
      rw [htk] at hm1 hm2
      simp -implicitDefEqProofs only [go_sem, Nat.reduceEqDiff, Nat.reduceLT, Nat.reduceAdd, Nat.reduceMul, Int.reduceEq, Int.reduceLT, Int.reduceLE, Int.reduceNe, Int.reduceBEq, Int.reduceToNat, ↓reduceIte, f4, f24, f25, f26, d1]
      refine ⟨by rw [hc]; rfl, fun h => (by rw [hc] at h; cases h), fun _ => ⟨fun b o hb ho => hm1 b o hb (s1 _ _ ho), fun b hb c' e' h' => hm2 b hb c' e' (s1 _ _ h')⟩⟩
end Go.Proofs.Ytcpeiejabbdeiaa
