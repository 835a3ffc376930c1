/-
  The horizon, and the document's answers for snapshots.
  Conditions: as each theorem states them.
-/
import Derived.Test.YtcpeiejabbdeiaaSho
import Derived.Test.YtcpeiejabbdeiaaVis
namespace Go.Proofs.Ytcpeiejabbdeiaa
open Go Go.RowKit Go.Proofs.YtcpeiejabbdeiaaW
set_option maxRecDepth 100000
set_option linter.unusedSimpArgs false
set_option linter.unusedVariables false

def Shot.xmin (z : Shot) : Nat := least z.xmax z.run
def hzn (n : Nat) : List Nat → Nat
  | [] => n
  | x :: xs => xs.foldl min x
theorem hzn_push (n x : Nat) (xs : List Nat) : hzn n (xs ++ [x]) = if xs.length = 0 then x else min (hzn n xs) x := by
  cases xs with
  | nil => rfl
  | cons a xs => simp [hzn]
theorem take_push {α : Type} {xs : List α} {k : Nat} {x : α} (h : xs[k]? = some x) : xs.take (k + 1) = xs.take k ++ [x] := by
  rw [List.take_add_one, h]; rfl
theorem Shot.cs_len (z : Shot) : z.cs.length = 4 := rfl

def HorI (w0 : World) (H : Hp) (nxt : Nat) (l : Nat) (ss : Value) (zs : List Shot) (m : Nat) (F : Fr) (H1 : Hp) : Prop :=
  ∃ k : Nat, k + m = zs.length ∧ F 5 = .int .u64 (hzn nxt ((zs.take k).map Shot.xmin) : Nat) ∧ F 10 = ss ∧ F 11 = .int .i64 (zs.length : Int) ∧ F 12 = .int .i64 (k : Int) ∧ Sub H H1
theorem horizon_log {w0 : World} {H : Hp} {l : Nat} {S : Nat → Prop} {f : Nat} {sts : List Nat} (h : LogAt H l S f sts) (hb : f + sts.length < 10000000000000) {ss : Value} {zs : List Shot}
    (hr : Row H 34 4 ss zs.length (zs.flatMap Shot.cs)) (hn : zs.length < 1000000) (hc : ∀ z ∈ zs, cell1 z.v = true) :
    ACalls Try.prog w0 23 #[ptr l, ss] H fun r H' => r = .int .u64 (hzn (f + sts.length) (zs.map Shot.xmin) : Nat) ∧ H' = H := by
  refine ACalls.quiet ?_
  obtain ⟨sa, sc, hs⟩ := hr.slice
  refine acalls_of Try.func23 rfl Try.ntmps23 r23 (by simp) ?_
  simp -implicitDefEqProofs only [go_sem, Nat.reduceEqDiff, Nat.reduceLT, Nat.reduceAdd, Nat.reduceMul, Int.reduceEq, Int.reduceLT, Int.reduceLE, Int.reduceNe, Int.reduceBEq, Int.reduceToNat, ↓reduceIte, hs]
  refine (next_log h (by omega)).mono ?_
  rintro r H' ⟨rfl, rfl⟩
  simp -implicitDefEqProofs only [go_sem, Nat.reduceEqDiff, Nat.reduceLT, Nat.reduceAdd, Nat.reduceMul, Int.reduceEq, Int.reduceLT, Int.reduceLE, Int.reduceNe, Int.reduceBEq, Int.reduceToNat, ↓reduceIte]
  refine AC.loop (HorI w0 H' (f + sts.length) l ss zs) (n := zs.length) ⟨0, by omega, rfl, hs.symm, rfl, rfl, Sub.refl _⟩ ?_
  rintro m F H1 ⟨k, hk, f5, f10, f11, f12, s1⟩
  by_cases c : k < zs.length
  · have d1 : decide ((k : Int) < (zs.length : Int)) = true := by simp; omega
    have d2 : IntKind.i64.wrap ((k : Int) + 1) = (k + 1 : Nat) := by rw [i64_in] <;> omega
    have d3 : decide ((0 : Int) ≤ (k : Int)) = true := by simp
    have hz : zs[k]? = some zs[k] := by simp [c]
    have htk := take_push hz
    generalize zs[k] = z at hz htk
    obtain ⟨g, cap, hv, hl⟩ := (hr.keep (H' := H1) fun b o _ hb => s1 b o hb).at w0 rfl (fun z _ => z.cs_len) hz
    rw [hv] at f10
    have hl' : ldCells w0 H1 ⟨g, k * 4, none⟩ 0 4 = some [.int .u64 (z.own : Int), .int .u64 (z.xmin : Int), .int .u64 (z.xmax : Int), z.v] := hl
    have hv1 : cell1 z.v = true := hc z (List.mem_of_getElem? hz)
    simp -implicitDefEqProofs only [go_sem, Nat.reduceEqDiff, Nat.reduceLT, Nat.reduceAdd, Nat.reduceMul, Int.reduceEq, Int.reduceLT, Int.reduceLE, Int.reduceNe, Int.reduceBEq, Int.reduceToNat, ↓reduceIte, f5, f10, f11, f12, d1, d3, hl', ldK_agg]
    refine newK_of ?_
    intro b7 H2 hb7 hn7 h7 s2 g2
    simp -implicitDefEqProofs only [go_sem, Nat.reduceEqDiff, Nat.reduceLT, Nat.reduceAdd, Nat.reduceMul, Int.reduceEq, Int.reduceLT, Int.reduceLE, Int.reduceNe, Int.reduceBEq, Int.reduceToNat, ↓reduceIte, f5, f10, f11, f12, d1, d3, hl', ldK_agg]
    refine store_all h7 rfl (by simp [cell1_int, hv1]) rfl ?_
    intro H3 h3 g3
    have l3 := ld_own w0 h3
    have s3 : Sub H' H3 := s1.trans (Sub.ne2 hn7 g2 g3)
    have hgo : hzn (f + sts.length) ((zs.take (k + 1)).map Shot.xmin) = if k = 0 then z.xmin else min (hzn (f + sts.length) ((zs.take k).map Shot.xmin)) z.xmin := by
      rw [htk, List.map_append, List.map_cons, List.map_nil, hzn_push, List.length_map, List.length_take, Nat.min_eq_left (by omega)]
    generalize hzn (f + sts.length) ((zs.take k).map Shot.xmin) = q at f5 hgo
    by_cases c0 : k = 0
    · have d4 : decide ((k : Int) = 0) = true := by rw [dec_zero]; simp [c0]
      simp -implicitDefEqProofs only [go_sem, Nat.reduceEqDiff, Nat.reduceLT, Nat.reduceAdd, Nat.reduceMul, Int.reduceEq, Int.reduceLT, Int.reduceLE, Int.reduceNe, Int.reduceBEq, Int.reduceToNat, ↓reduceIte, f5, f10, f11, f12, d2, d4, l3]
      rw [if_pos c0] at hgo
      exact ⟨m - 1, by omega, k + 1, by omega, by simp -implicitDefEqProofs only [go_sem, Nat.reduceEqDiff, Nat.reduceLT, Nat.reduceAdd, Nat.reduceMul, Int.reduceEq, Int.reduceLT, Int.reduceLE, Int.reduceNe, Int.reduceBEq, Int.reduceToNat, ↓reduceIte, hgo], by simp -implicitDefEqProofs only [go_sem, Nat.reduceEqDiff, Nat.reduceLT, Nat.reduceAdd, Nat.reduceMul, Int.reduceEq, Int.reduceLT, Int.reduceLE, Int.reduceNe, Int.reduceBEq, Int.reduceToNat, ↓reduceIte, f10, hv], by simp -implicitDefEqProofs only [go_sem, Nat.reduceEqDiff, Nat.reduceLT, Nat.reduceAdd, Nat.reduceMul, Int.reduceEq, Int.reduceLT, Int.reduceLE, Int.reduceNe, Int.reduceBEq, Int.reduceToNat, ↓reduceIte, f11], by simp -implicitDefEqProofs only [go_sem, Nat.reduceEqDiff, Nat.reduceLT, Nat.reduceAdd, Nat.reduceMul, Int.reduceEq, Int.reduceLT, Int.reduceLE, Int.reduceNe, Int.reduceBEq, Int.reduceToNat, ↓reduceIte], s3⟩
    · have d4 : decide ((k : Int) = 0) = false := by rw [dec_zero]; simp [c0]
      rw [if_neg c0] at hgo
      by_cases c1 : z.xmin < q
      · have d5 : decide ((z.xmin : Int) < (q : Int)) = true := by rw [dec_lt]; simp [c1]
        rw [Nat.min_eq_right (by omega)] at hgo
        simp -implicitDefEqProofs only [go_sem, Nat.reduceEqDiff, Nat.reduceLT, Nat.reduceAdd, Nat.reduceMul, Int.reduceEq, Int.reduceLT, Int.reduceLE, Int.reduceNe, Int.reduceBEq, Int.reduceToNat, ↓reduceIte, f5, f10, f11, f12, d2, d4, d5, l3]
        exact ⟨m - 1, by omega, k + 1, by omega, by simp -implicitDefEqProofs only [go_sem, Nat.reduceEqDiff, Nat.reduceLT, Nat.reduceAdd, Nat.reduceMul, Int.reduceEq, Int.reduceLT, Int.reduceLE, Int.reduceNe, Int.reduceBEq, Int.reduceToNat, ↓reduceIte, hgo], by simp -implicitDefEqProofs only [go_sem, Nat.reduceEqDiff, Nat.reduceLT, Nat.reduceAdd, Nat.reduceMul, Int.reduceEq, Int.reduceLT, Int.reduceLE, Int.reduceNe, Int.reduceBEq, Int.reduceToNat, ↓reduceIte, f10, hv], by simp -implicitDefEqProofs only [go_sem, Nat.reduceEqDiff, Nat.reduceLT, Nat.reduceAdd, Nat.reduceMul, Int.reduceEq, Int.reduceLT, Int.reduceLE, Int.reduceNe, Int.reduceBEq, Int.reduceToNat, ↓reduceIte, f11], by simp -implicitDefEqProofs only [go_sem, Nat.reduceEqDiff, Nat.reduceLT, Nat.reduceAdd, Nat.reduceMul, Int.reduceEq, Int.reduceLT, Int.reduceLE, Int.reduceNe, Int.reduceBEq, Int.reduceToNat, ↓reduceIte], s3⟩
      · have d5 : decide ((z.xmin : Int) < (q : Int)) = false := by rw [dec_lt]; simp [c1]
        rw [Nat.min_eq_left (by omega)] at hgo
        simp -implicitDefEqProofs only [go_sem, Nat.reduceEqDiff, Nat.reduceLT, Nat.reduceAdd, Nat.reduceMul, Int.reduceEq, Int.reduceLT, Int.reduceLE, Int.reduceNe, Int.reduceBEq, Int.reduceToNat, ↓reduceIte, f5, f10, f11, f12, d2, d4, d5, l3]
        exact ⟨m - 1, by omega, k + 1, by omega, by simp -implicitDefEqProofs only [go_sem, Nat.reduceEqDiff, Nat.reduceLT, Nat.reduceAdd, Nat.reduceMul, Int.reduceEq, Int.reduceLT, Int.reduceLE, Int.reduceNe, Int.reduceBEq, Int.reduceToNat, ↓reduceIte, f5, hgo], by simp -implicitDefEqProofs only [go_sem, Nat.reduceEqDiff, Nat.reduceLT, Nat.reduceAdd, Nat.reduceMul, Int.reduceEq, Int.reduceLT, Int.reduceLE, Int.reduceNe, Int.reduceBEq, Int.reduceToNat, ↓reduceIte, f10, hv], by simp -implicitDefEqProofs only [go_sem, Nat.reduceEqDiff, Nat.reduceLT, Nat.reduceAdd, Nat.reduceMul, Int.reduceEq, Int.reduceLT, Int.reduceLE, Int.reduceNe, Int.reduceBEq, Int.reduceToNat, ↓reduceIte, f11], by simp -implicitDefEqProofs only [go_sem, Nat.reduceEqDiff, Nat.reduceLT, Nat.reduceAdd, Nat.reduceMul, Int.reduceEq, Int.reduceLT, Int.reduceLE, Int.reduceNe, Int.reduceBEq, Int.reduceToNat, ↓reduceIte], s3⟩
  · have d1 : decide ((k : Int) < (zs.length : Int)) = false := by simp; omega
    have : zs.take k = zs := List.take_of_length_le (by omega)
    rw [this] at f5
    simp -implicitDefEqProofs only [go_sem, Nat.reduceEqDiff, Nat.reduceLT, Nat.reduceAdd, Nat.reduceMul, Int.reduceEq, Int.reduceLT, Int.reduceLE, Int.reduceNe, Int.reduceBEq, Int.reduceToNat, ↓reduceIte, f5, f10, f11, f12, d1]
    exact s1
end Go.Proofs.Ytcpeiejabbdeiaa
