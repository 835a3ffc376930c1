/-
  The law SnapOne, walked.
  Conditions: the script's steps read as steps, the makers as bytes.
-/
import Derived.Test.YtmpepacfnckadaaHlf
import Derived.Test.YtmpepacfnckadaaOnce
namespace Go.Proofs.Ytmpepacfnckadaa
open Go Go.RowKit Go.Proofs.YtmpepacfnckadaaW
set_option maxRecDepth 100000
set_option linter.unusedSimpArgs false
set_option linter.unusedVariables false

/-- A version's cells. -/
def tcs (t : Nat × Nat) : List Value := [.int .u64 0, .int .u64 (t.1 : Int), .int .u64 (t.2 : Int), .int .i64 0, .int .i64 0, .slice none 0 0]
theorem tcs_len (t : Nat × Nat) : (tcs t).length = 6 := rfl
/-- Versions, each ended by who made the next one. -/
def chain (xs : List Nat) : List (Nat × Nat) := (List.range xs.length).map fun i => (xs.getD i 0, xs.getD (i + 1) 0)
theorem chain_len (xs : List Nat) : (chain xs).length = xs.length := by simp [chain]
theorem chain_at (xs : List Nat) {i : Nat} (h : i < xs.length) : (chain xs)[i]? = some (xs.getD i 0, xs.getD (i + 1) 0) := by simp [chain, h]
theorem getD_snoc (xs : List Nat) (x : Nat) (i : Nat) : (xs ++ [x]).getD i 0 = if i < xs.length then xs.getD i 0 else if i = xs.length then x else 0 := by
  rw [List.getD_eq_getElem?_getD, List.getD_eq_getElem?_getD]
  by_cases h : i < xs.length
  · rw [if_pos h, List.getElem?_append_left h]
  · rw [if_neg h, List.getElem?_append_right (by omega)]
    by_cases e : i = xs.length
    · rw [if_pos e, e, Nat.sub_self]; rfl
    · rw [if_neg e]
      rw [List.getElem?_eq_none (by simp; omega)]; rfl
theorem chain_push (xs : List Nat) (x : Nat) (h : 0 < xs.length) : (chain xs).set (xs.length - 1) (xs.getD (xs.length - 1) 0, x) ++ [(x, 0)] = chain (xs ++ [x]) := by
  apply List.ext_getElem?
  intro i
  by_cases c : i < xs.length
  · rw [List.getElem?_append_left (by rw [List.length_set, chain_len]; exact c), chain_at (xs ++ [x]) (by rw [List.length_append]; omega), getD_snoc, if_pos c, getD_snoc]
    by_cases e : i = xs.length - 1
    · rw [e, List.getElem?_set_self (by rw [chain_len]; omega), if_neg (by omega), if_pos (by omega)]
    · rw [List.getElem?_set_ne (fun q => e q.symm), chain_at xs c, if_pos (by omega)]
  · rw [List.getElem?_append_right (by rw [List.length_set, chain_len]; omega), List.length_set, chain_len]
    by_cases e : i = xs.length
    · rw [e, Nat.sub_self, chain_at (xs ++ [x]) (by rw [List.length_append, List.length_singleton]; omega), getD_snoc, getD_snoc, if_neg (by omega), if_pos rfl, if_neg (by omega), if_neg (by omega)]; rfl
    · rw [List.getElem?_eq_none (by simp; omega), List.getElem?_eq_none (by rw [chain_len, List.length_append, List.length_singleton]; omega)]
theorem chain_one (x : Nat) : chain [x] = [(x, 0)] := rfl

def OneInv (xs : List Nat) (s : Nat → Bool) (j : Nat) (n : Int) : Prop :=
  n ≤ (j : Int) - 100 ∧ -100 ≤ n ∨ 0 ≤ n ∧ n ≤ 1 ∧ (n = 1 → 1 ≤ j ∧ (s (xs.getD j 0) = true → j < xs.length → s (xs.getD (j - 1) 0) = false))
def SoneI (w0 : World) (p l x : Nat) (S : Nat → Prop) (sts : List Nat) (zs : List Shot) (n : Nat) (ss tt a : Value) (m : Nat) (F : Fr) (H : Hp) : Prop :=
  ∃ (i r : Nat) (lv : Value) (xs : List Nat) (ps : Ents), i + m = n ∧ F 5 = ptr p ∧ F 7 = lv ∧ F 8 = .map (some r) ∧ F 28 = a ∧ F 29 = .int .i64 (n : Int) ∧ F 30 = .int .i64 (i : Int) ∧
    HalfAt H p l x S sts zs ss tt ∧ Row H 76 6 lv xs.length ((chain xs).flatMap tcs) ∧ IMap H r .u64 ps ∧ (∀ k v, ps.get k = some v → v = .bool true) ∧ xs.length ≤ 12 ∧ xs.length ≤ i ∧ (∀ x ∈ xs, x ≠ 0 ∧ x < 40)
def SoneJ (w0 : World) (H0 : Hp) (p : Nat) (zs : List Shot) (lv ss : Value) (m : Nat) (F : Fr) (H : Hp) : Prop :=
  ∃ i, i + m = zs.length ∧ F 5 = ptr p ∧ F 7 = lv ∧ F 70 = ss ∧ F 71 = .int .i64 (zs.length : Int) ∧ F 72 = .int .i64 (i : Int) ∧ Sub H0 H
def SoneK (w0 : World) (H0 : Hp) (p i b14 zn : Nat) (xs : List Nat) (s : Nat → Bool) (lv ss : Value) (m : Nat) (F : Fr) (H : Hp) : Prop :=
  ∃ (j : Nat) (n : Int), j + m = xs.length ∧ F 5 = ptr p ∧ F 7 = lv ∧ F 14 = ptr b14 ∧ F 15 = .int .i64 n ∧ F 70 = ss ∧ F 71 = .int .i64 (zn : Int) ∧ F 72 = .int .i64 (i : Int) ∧ F 76 = lv ∧ F 77 = .int .i64 (xs.length : Int) ∧ F 78 = .int .i64 (j : Int) ∧ Sub H0 H ∧ OneInv xs s j n

theorem OneInv.le {xs : List Nat} {s : Nat → Bool} {j : Nat} {n : Int} (h : OneInv xs s j n) (hj : j ≤ 12) : n ≤ 1 ∧ -100 ≤ n := by
  rcases h with ⟨h, h'⟩ | ⟨h1, h2, h3⟩
  · exact ⟨by omega, h'⟩
  · exact ⟨h2, by omega⟩
/-- A step without a break. -/
theorem OneInv.next {xs : List Nat} {s : Nat → Bool} {j : Nat} {n : Int} (h : OneInv xs s j n) (hj : j < xs.length) (hb : 0 < j → s (xs.getD j 0) = true → s (xs.getD (j - 1) 0) = true) (v : Bool)
    (hv : v = true → s (xs.getD j 0) = true ∧ (j + 1 < xs.length → s (xs.getD (j + 1) 0) = false)) : OneInv xs s (j + 1) (if v = true then n + 1 else n) := by
  rcases h with ⟨h, h'⟩ | ⟨h1, h2, h3⟩
  · left; split <;> omega
  · right
    cases v with
    | true =>
      obtain ⟨v1, v2⟩ := hv rfl
      have hn0 : n = 0 := by
        rcases Classical.em (n = 1) with e | e
        · obtain ⟨q1, q2⟩ := h3 e
          rw [hb (by omega) v1] at q2
          exact absurd (q2 v1 hj) (by simp)
        · omega
      simp only [if_true]
      refine ⟨by omega, by omega, fun _ => ⟨by omega, fun hs hl => ?_⟩⟩
      rw [v2 hl] at hs; cases hs
    | false =>
      simp only [Bool.false_eq_true, if_false]
      refine ⟨h1, h2, fun e => ⟨by omega, fun hs hl => ?_⟩⟩
      rw [Nat.add_sub_cancel]
      obtain ⟨q1, q2⟩ := h3 e
      cases c : s (xs.getD j 0) with
      | false => rfl
      | true => rw [hb (by omega) c] at q2; exact absurd (q2 c hj) (by simp)
/-- A step behind a break. -/
theorem OneInv.brk {xs : List Nat} {s : Nat → Bool} {j : Nat} (v : Bool) : OneInv xs s (j + 1) (if v = true then -100 + 1 else -100) := by
  left; split <;> omega

theorem one_ok (w0 : World) (a : Value) (n0 : Nat) (ha : Ops10Arg w0 a n0) (b : Value) (n : Nat) (hb : BytesArg w0 b n) :
    ACalls Try.prog w0 8 #[a, b] (fun _ => none) fun r H' => r = .bool true ∧ True := by
  obtain ⟨ad, c, rfl, hn, hops⟩ := hb
  refine acalls_of Try.func8 rfl Try.ntmps8 r8 (by simp) ?_
  simp -implicitDefEqProofs only [go_sem, Nat.reduceEqDiff, Nat.reduceLT, Nat.reduceAdd, Nat.reduceMul, Int.reduceEq, Int.reduceLT, Int.reduceLE, Int.reduceNe, Int.reduceBEq, Int.reduceToNat, ↓reduceIte]
  refine (awake10_ok w0 _).mono ?_
  rintro r H' ⟨rfl, rfl⟩
  simp -implicitDefEqProofs only [go_sem, Nat.reduceEqDiff, Nat.reduceLT, Nat.reduceAdd, Nat.reduceMul, Int.reduceEq, Int.reduceLT, Int.reduceLE, Int.reduceNe, Int.reduceBEq, Int.reduceToNat, ↓reduceIte]
  refine (play_ok w0 _ 40 (by omega) a n0 ha).mono ?_
  rintro r H0 ⟨p, l, x, P, sts, zs, ss, tt, rfl, hpl, hs2, hz2, hhi⟩
  obtain ⟨S, hhf⟩ := hpl.half
  clear hpl hhi
  simp -implicitDefEqProofs only [go_sem, Nat.reduceEqDiff, Nat.reduceLT, Nat.reduceAdd, Nat.reduceMul, Int.reduceEq, Int.reduceLT, Int.reduceLE, Int.reduceNe, Int.reduceBEq, Int.reduceToNat, ↓reduceIte]
  refine newK_of ?_
  intro br H1 hbr hnr hr1 s1 g1
  simp -implicitDefEqProofs only [go_sem, Nat.reduceEqDiff, Nat.reduceLT, Nat.reduceAdd, Nat.reduceMul, Int.reduceEq, Int.reduceLT, Int.reduceLE, Int.reduceNe, Int.reduceBEq, Int.reduceToNat, ↓reduceIte]
  refine AC.loopH (SoneI w0 p l x S sts zs n ss tt (.slice ad n c)) (n := n) ⟨0, br, .slice none 0 0, [], [], by omega, rfl, rfl, rfl, rfl, rfl, rfl, hhf.sub s1, ⟨by simp [chain], .inl ⟨rfl, rfl⟩⟩, ⟨_, _, hr1, rfl⟩, fun k v h => (by cases h), by simp, by simp, by simp⟩ ?_
  clear hhf s1 g1 hr1 hnr hbr H1 br
  rintro m F H1 ⟨i, br, lv, xs, ps, hi, f5, f7, f8, f28, f29, f30, hhf, hrow, hmap, hps, hx12, hxi, hxs⟩ hhi1
  by_cases c1 : i < n
  · have d1 : decide ((i : Int) < (n : Int)) = true := by simp; omega
    have d0 : decide ((0 : Int) ≤ (i : Int)) = true := by simp
    have d2 : IntKind.i64.wrap ((i : Int) + 1) = (i + 1 : Nat) := by rw [i64_in] <;> omega
    obtain ⟨ab, rfl, q, hq, hc0⟩ := hops i c1
    have l0 := ld_arg hhi1 hc0
    have qm : (q : Int).tmod 40 = ((q % 40 : Nat) : Int) := by rw [Int.tmod_eq_emod_of_nonneg (by omega)]; omega
    have qw : IntKind.u64.wrap ((q % 40 : Nat) : Int) = ((q % 40 : Nat) : Int) := by rw [u64_in] <;> omega
    obtain ⟨y, ey⟩ : ∃ y, y = q % 40 := ⟨_, rfl⟩
    have hy40 : y < 40 := by omega
    rw [← ey] at qm qw
    have hskip : ∀ F' : Fr, True := fun _ => trivial
    by_cases c12 : i < 12
    · have d3 : decide ((12 : Int) ≤ (i : Int)) = false := by simp; omega
      by_cases c0 : y = 0
      · have d4 : decide ((y : Int) = 0) = true := by rw [dec_zero]; simp [c0]
        simp -implicitDefEqProofs only [go_sem, Nat.reduceEqDiff, Nat.reduceLT, Nat.reduceAdd, Nat.reduceMul, Int.reduceEq, Int.reduceLT, Int.reduceLE, Int.reduceNe, Int.reduceBEq, Int.reduceToNat, ↓reduceIte, f5, f7, f8, f28, f29, f30, d0, d1, d2, d3, d4, l0, qm, qw]
        exact ⟨m - 1, by omega, i + 1, br, lv, xs, ps, by omega, by simp -implicitDefEqProofs only [go_sem, Nat.reduceEqDiff, Nat.reduceLT, Nat.reduceAdd, Nat.reduceMul, Int.reduceEq, Int.reduceLT, Int.reduceLE, Int.reduceNe, Int.reduceBEq, Int.reduceToNat, ↓reduceIte, f5], by simp -implicitDefEqProofs only [go_sem, Nat.reduceEqDiff, Nat.reduceLT, Nat.reduceAdd, Nat.reduceMul, Int.reduceEq, Int.reduceLT, Int.reduceLE, Int.reduceNe, Int.reduceBEq, Int.reduceToNat, ↓reduceIte, f7], by simp -implicitDefEqProofs only [go_sem, Nat.reduceEqDiff, Nat.reduceLT, Nat.reduceAdd, Nat.reduceMul, Int.reduceEq, Int.reduceLT, Int.reduceLE, Int.reduceNe, Int.reduceBEq, Int.reduceToNat, ↓reduceIte, f8], by simp -implicitDefEqProofs only [go_sem, Nat.reduceEqDiff, Nat.reduceLT, Nat.reduceAdd, Nat.reduceMul, Int.reduceEq, Int.reduceLT, Int.reduceLE, Int.reduceNe, Int.reduceBEq, Int.reduceToNat, ↓reduceIte, f28], by simp -implicitDefEqProofs only [go_sem, Nat.reduceEqDiff, Nat.reduceLT, Nat.reduceAdd, Nat.reduceMul, Int.reduceEq, Int.reduceLT, Int.reduceLE, Int.reduceNe, Int.reduceBEq, Int.reduceToNat, ↓reduceIte, f29], by simp -implicitDefEqProofs only [go_sem, Nat.reduceEqDiff, Nat.reduceLT, Nat.reduceAdd, Nat.reduceMul, Int.reduceEq, Int.reduceLT, Int.reduceLE, Int.reduceNe, Int.reduceBEq, Int.reduceToNat, ↓reduceIte], hhf, hrow, hmap, hps, hx12, by omega, hxs⟩
      · have d4 : decide ((y : Int) = 0) = false := by rw [dec_zero]; simp [c0]
        have hget : ps.get (y : Int) = none ∨ ps.get (y : Int) = some (.bool true) := by
          cases e : ps.get (y : Int) with
          | none => exact .inl rfl
          | some v => right; rw [hps _ _ e]
        rcases hget with hget | hget
        · simp -implicitDefEqProofs only [go_sem, Nat.reduceEqDiff, Nat.reduceLT, Nat.reduceAdd, Nat.reduceMul, Int.reduceEq, Int.reduceLT, Int.reduceLE, Int.reduceNe, Int.reduceBEq, Int.reduceToNat, ↓reduceIte, f5, f7, f8, f28, f29, f30, d0, d1, d2, d3, d4, l0, qm, qw, lookK_int Try.underlying54 Try.underlying23 z4 hmap, hget, Option.getD_none]
          refine aop_mapUpdate (n := (y : Int)) (v := .bool true) Try.underlying54 Try.underlying23 hmap (by simp -implicitDefEqProofs only [go_sem, Nat.reduceEqDiff, Nat.reduceLT, Nat.reduceAdd, Nat.reduceMul, Int.reduceEq, Int.reduceLT, Int.reduceLE, Int.reduceNe, Int.reduceBEq, Int.reduceToNat, ↓reduceIte, f8]) (by simp -implicitDefEqProofs only [go_sem, Nat.reduceEqDiff, Nat.reduceLT, Nat.reduceAdd, Nat.reduceMul, Int.reduceEq, Int.reduceLT, Int.reduceLE, Int.reduceNe, Int.reduceBEq, Int.reduceToNat, ↓reduceIte]) (by simp -implicitDefEqProofs only [go_sem, Nat.reduceEqDiff, Nat.reduceLT, Nat.reduceAdd, Nat.reduceMul, Int.reduceEq, Int.reduceLT, Int.reduceLE, Int.reduceNe, Int.reduceBEq, Int.reduceToNat, ↓reduceIte]) ?_
          intro H2 hmap2 hf2
          have hrt : tyAt H1 br = none := by
            obtain ⟨es, ck, q1, _⟩ := hmap
            unfold tyAt; rw [q1]
          have k2 : ∀ b o, tyAt H1 b ≠ none → H1 b = some o → H2 b = some o := fun b o ht ho => by rw [hf2 b (fun e => ht (by rw [e, hrt]))]; exact ho
          have hhf2 : HalfAt H2 p l x S sts zs ss tt := hhf.keep fun b o ht ho => k2 b o (fun e => by rw [e] at ht; cases ht) ho
          have hrow2 : Row H2 76 6 lv xs.length ((chain xs).flatMap tcs) := hrow.keep fun b o hb ho => k2 b o (by rw [Row.tyAt hrow hb]; exact fun e => by cases e) ho
          have hps2 : ∀ k v, (ps.put (y : Int) (.bool true)).get k = some v → v = .bool true := fun k v h => by
            rw [Ents.get_put] at h
            split at h
            · cases h; rfl
            · exact hps k v h
          obtain ⟨la, lc, hlv⟩ := hrow.slice
          have bs1 : bsCells Try.prog 76 1 #[(0, .agg #[.int .u64 0, .int .u64 (y : Int), .int .u64 0, .int .i64 0, .int .i64 0, .slice none 0 0])] = some (tcs (y, 0)).toArray := by kernel_rfl
          have z00 : (0 : Int) = ((0 : Nat) : Int) := rfl
          by_cases cx : 0 < xs.length
          · have d5 : decide ((0 : Int) < (xs.length : Int)) = true := by rw [dec_pos]; simp [cx]
            have d6 : IntKind.i64.wrap ((xs.length : Int) - 1) = ((xs.length - 1 : Nat) : Int) := by rw [i64_in] <;> omega
            have d7 : decide ((0 : Int) ≤ ((xs.length - 1 : Nat) : Int)) = true := by simp
            have d8 : decide (((xs.length - 1 : Nat) : Int) < (xs.length : Int)) = true := by rw [dec_lt]; simp; omega
            obtain ⟨g, cap, cur, hv, hg, hcap, hcs, htk⟩ := hrow2.open cx
            have hw : wr H2 ⟨g, (xs.length - 1) * 6 + 2, none⟩ = some (.cells cur 76 (0, 0)) := wr_own hg _ (by omega)
            simp -implicitDefEqProofs only [go_sem, Nat.reduceEqDiff, Nat.reduceLT, Nat.reduceAdd, Nat.reduceMul, Int.reduceEq, Int.reduceLT, Int.reduceLE, Int.reduceNe, Int.reduceBEq, Int.reduceToNat, ↓reduceIte, f5, f7, f8, f28, f29, f30, d2, hv, d5, d6, d7, d8, hw]
            have hch0 := chain_at xs (i := xs.length - 1) (by omega)
            have hch := chain_push xs y cx
            have hrow3 := Row.put (i := (xs.length - 1) * 6 + 2) (u := .int .u64 (y : Int)) hrow2.1 hg hcap hcs htk
            rw [flat_set (f := tcs) (by omega) (chain xs) (fun t _ => tcs_len t) (xs.length - 1) _ (xs.getD (xs.length - 1) 0, y) hch0 rfl, ← hv] at hrow3
            have n3 : ∀ i, i ≠ g → (H2.set g (.cells (cur.setIfInBounds ((xs.length - 1) * 6 + 2) (.int .u64 (y : Int))) 76 (0, 0))) i = H2 i := fun i hi => Hp.set_ne _ _ _ _ hi
            generalize H2.set g (.cells (cur.setIfInBounds ((xs.length - 1) * 6 + 2) (.int .u64 (y : Int))) 76 (0, 0)) = H3 at *
            have k3 : ∀ b o, tyAt H2 b ≠ some 76 → H2 b = some o → H3 b = some o := fun b o ht ho => by
              rw [n3 b (fun e => ht (by rw [e, tyAt_of hg]))]; exact ho
            have hhf3 : HalfAt H3 p l x S sts zs ss tt := hhf2.keep fun b o ht ho => k3 b o (fun e => by rw [e] at ht; cases ht) ho
            have hrt2 : tyAt H2 br = none := by
              obtain ⟨es, ck, q1, _⟩ := hmap2
              unfold tyAt; rw [q1]
            have hmap3 := hmap2.keep (H' := H3) fun o ho => k3 br o (by rw [hrt2]; exact fun e => by cases e) ho
            have hrt3 : tyAt H3 br = none := by
              obtain ⟨es, ck, q1, _⟩ := hmap3
              unfold tyAt; rw [q1]
            obtain ⟨lv3, e3⟩ : ∃ lv3, lv3 = lv := ⟨_, rfl⟩
            rw [← e3] at hrow3
            have hv3 : .slice (some ⟨g, 0, none⟩) xs.length cap = lv3 := by rw [e3, hv]
            refine (tuple_ok w0 _ y 0).mono ?_
            rintro r H3' ⟨rfl, rfl⟩
            simp -implicitDefEqProofs only [go_sem, Nat.reduceEqDiff, Nat.reduceLT, Nat.reduceAdd, Nat.reduceMul, Int.reduceEq, Int.reduceLT, Int.reduceLE, Int.reduceNe, Int.reduceBEq, Int.reduceToNat, ↓reduceIte, f5, f7, f8, f28, f29, f30, d2, bs1]
            refine newK_of ?_
            intro nb H4 hnb hnn h4 s4 g4
            simp -implicitDefEqProofs only [go_sem, Nat.reduceEqDiff, Nat.reduceLT, Nat.reduceAdd, Nat.reduceMul, Int.reduceEq, Int.reduceLT, Int.reduceLE, Int.reduceNe, Int.reduceBEq, Int.reduceToNat, ↓reduceIte, f5, f7, f8, f28, f29, f30]
            refine aop_append_lit (t := 72) (x := .tmp 61) (y := .tmp 64) (c := 1) Try.underlying72 s76 b76 z76 rfl (v := lv3) (by simp -implicitDefEqProofs only [go_sem, Nat.reduceEqDiff, Nat.reduceLT, Nat.reduceAdd, Nat.reduceMul, Int.reduceEq, Int.reduceLT, Int.reduceLE, Int.reduceNe, Int.reduceBEq, Int.reduceToNat, ↓reduceIte, hv3]) (hrow3.keep fun b o _ hb => s4 b o hb) h4 (by simp -implicitDefEqProofs only [go_sem, Nat.reduceEqDiff, Nat.reduceLT, Nat.reduceAdd, Nat.reduceMul, Int.reduceEq, Int.reduceLT, Int.reduceLE, Int.reduceNe, Int.reduceBEq, Int.reduceToNat, ↓reduceIte]) rfl (by simp [tcs, cell1_int, cell1_slice]) (by omega) (by omega) (by omega) ?_
            intro g5 H5 hg5 hH5 cap5 hrow5
            have k5 : ∀ b o, tyAt H3' b ≠ some 76 → H3' b = some o → H5 b = some o := by
              intro b o ht ho
              have : b ≠ g5 := by
                rintro rfl
                rcases hg5 with e | ⟨e, _⟩
                · exact ht (Row.tyAt hrow3 e.symm)
                · rw [s4 _ _ ho] at e; cases e
              rw [hH5 b this]; exact s4 b o ho
            simp -implicitDefEqProofs only [go_sem, Nat.reduceEqDiff, Nat.reduceLT, Nat.reduceAdd, Nat.reduceMul, Int.reduceEq, Int.reduceLT, Int.reduceLE, Int.reduceNe, Int.reduceBEq, Int.reduceToNat, ↓reduceIte, f5, f7, f8, f28, f29, f30, d2]
            refine ⟨m - 1, by omega, i + 1, br, .slice (some ⟨g5, 0, none⟩) (xs.length + 1) cap5, xs ++ [y], _, by omega, by simp -implicitDefEqProofs only [go_sem, Nat.reduceEqDiff, Nat.reduceLT, Nat.reduceAdd, Nat.reduceMul, Int.reduceEq, Int.reduceLT, Int.reduceLE, Int.reduceNe, Int.reduceBEq, Int.reduceToNat, ↓reduceIte, f5], by simp -implicitDefEqProofs only [go_sem, Nat.reduceEqDiff, Nat.reduceLT, Nat.reduceAdd, Nat.reduceMul, Int.reduceEq, Int.reduceLT, Int.reduceLE, Int.reduceNe, Int.reduceBEq, Int.reduceToNat, ↓reduceIte], by simp -implicitDefEqProofs only [go_sem, Nat.reduceEqDiff, Nat.reduceLT, Nat.reduceAdd, Nat.reduceMul, Int.reduceEq, Int.reduceLT, Int.reduceLE, Int.reduceNe, Int.reduceBEq, Int.reduceToNat, ↓reduceIte, f8], by simp -implicitDefEqProofs only [go_sem, Nat.reduceEqDiff, Nat.reduceLT, Nat.reduceAdd, Nat.reduceMul, Int.reduceEq, Int.reduceLT, Int.reduceLE, Int.reduceNe, Int.reduceBEq, Int.reduceToNat, ↓reduceIte, f28], by simp -implicitDefEqProofs only [go_sem, Nat.reduceEqDiff, Nat.reduceLT, Nat.reduceAdd, Nat.reduceMul, Int.reduceEq, Int.reduceLT, Int.reduceLE, Int.reduceNe, Int.reduceBEq, Int.reduceToNat, ↓reduceIte, f29], by simp -implicitDefEqProofs only [go_sem, Nat.reduceEqDiff, Nat.reduceLT, Nat.reduceAdd, Nat.reduceMul, Int.reduceEq, Int.reduceLT, Int.reduceLE, Int.reduceNe, Int.reduceBEq, Int.reduceToNat, ↓reduceIte], hhf3.keep fun b o ht ho => k5 b o (fun e => by rw [e] at ht; cases ht) ho, ?_, hmap3.keep fun o ho => k5 br o (by rw [hrt3]; exact fun e => by cases e) ho, hps2, by rw [List.length_append, List.length_singleton]; omega, by rw [List.length_append, List.length_singleton]; omega, ?_⟩
            · rw [List.length_append, List.length_singleton, ← hch, List.flatMap_append, List.flatMap_cons, List.flatMap_nil, List.append_nil]
              exact hrow5
            · intro u hu
              simp only [List.mem_append, List.mem_singleton] at hu
              rcases hu with hu | rfl
              · exact hxs u hu
              · exact ⟨c0, hy40⟩
          · have d5 : decide ((0 : Int) < (xs.length : Int)) = false := by rw [dec_pos, decide_eq_false_iff_not]; exact cx
            simp -implicitDefEqProofs only [go_sem, Nat.reduceEqDiff, Nat.reduceLT, Nat.reduceAdd, Nat.reduceMul, Int.reduceEq, Int.reduceLT, Int.reduceLE, Int.reduceNe, Int.reduceBEq, Int.reduceToNat, ↓reduceIte, f5, f7, f8, f28, f29, f30, d2, hlv, d5]
            have hx0 : xs = [] := List.eq_nil_of_length_eq_zero (by omega)
            have hch : chain xs ++ [(y, 0)] = chain (xs ++ [y]) := by rw [hx0]; rfl
            have hrow3 := hrow2
            have hhf3 := hhf2
            have hmap3 := hmap2
            have hrt3 : tyAt H2 br = none := by
              obtain ⟨es, ck, q1, _⟩ := hmap2
              unfold tyAt; rw [q1]
            obtain ⟨lv3, e3⟩ : ∃ lv3, lv3 = lv := ⟨_, rfl⟩
            rw [← e3] at hrow3
            have hv3 : .slice la xs.length lc = lv3 := by rw [e3, hlv]
            refine (tuple_ok w0 _ y 0).mono ?_
            rintro r H3' ⟨rfl, rfl⟩
            simp -implicitDefEqProofs only [go_sem, Nat.reduceEqDiff, Nat.reduceLT, Nat.reduceAdd, Nat.reduceMul, Int.reduceEq, Int.reduceLT, Int.reduceLE, Int.reduceNe, Int.reduceBEq, Int.reduceToNat, ↓reduceIte, f5, f7, f8, f28, f29, f30, d2, bs1]
            refine newK_of ?_
            intro nb H4 hnb hnn h4 s4 g4
            simp -implicitDefEqProofs only [go_sem, Nat.reduceEqDiff, Nat.reduceLT, Nat.reduceAdd, Nat.reduceMul, Int.reduceEq, Int.reduceLT, Int.reduceLE, Int.reduceNe, Int.reduceBEq, Int.reduceToNat, ↓reduceIte, f5, f7, f8, f28, f29, f30]
            refine aop_append_lit (t := 72) (x := .tmp 61) (y := .tmp 64) (c := 1) Try.underlying72 s76 b76 z76 rfl (v := lv3) (by simp -implicitDefEqProofs only [go_sem, Nat.reduceEqDiff, Nat.reduceLT, Nat.reduceAdd, Nat.reduceMul, Int.reduceEq, Int.reduceLT, Int.reduceLE, Int.reduceNe, Int.reduceBEq, Int.reduceToNat, ↓reduceIte, hv3]) (hrow3.keep fun b o _ hb => s4 b o hb) h4 (by simp -implicitDefEqProofs only [go_sem, Nat.reduceEqDiff, Nat.reduceLT, Nat.reduceAdd, Nat.reduceMul, Int.reduceEq, Int.reduceLT, Int.reduceLE, Int.reduceNe, Int.reduceBEq, Int.reduceToNat, ↓reduceIte]) rfl (by simp [tcs, cell1_int, cell1_slice]) (by omega) (by omega) (by omega) ?_
            intro g5 H5 hg5 hH5 cap5 hrow5
            have k5 : ∀ b o, tyAt H3' b ≠ some 76 → H3' b = some o → H5 b = some o := by
              intro b o ht ho
              have : b ≠ g5 := by
                rintro rfl
                rcases hg5 with e | ⟨e, _⟩
                · exact ht (Row.tyAt hrow3 e.symm)
                · rw [s4 _ _ ho] at e; cases e
              rw [hH5 b this]; exact s4 b o ho
            simp -implicitDefEqProofs only [go_sem, Nat.reduceEqDiff, Nat.reduceLT, Nat.reduceAdd, Nat.reduceMul, Int.reduceEq, Int.reduceLT, Int.reduceLE, Int.reduceNe, Int.reduceBEq, Int.reduceToNat, ↓reduceIte, f5, f7, f8, f28, f29, f30, d2]
            refine ⟨m - 1, by omega, i + 1, br, .slice (some ⟨g5, 0, none⟩) (xs.length + 1) cap5, xs ++ [y], _, by omega, by simp -implicitDefEqProofs only [go_sem, Nat.reduceEqDiff, Nat.reduceLT, Nat.reduceAdd, Nat.reduceMul, Int.reduceEq, Int.reduceLT, Int.reduceLE, Int.reduceNe, Int.reduceBEq, Int.reduceToNat, ↓reduceIte, f5], by simp -implicitDefEqProofs only [go_sem, Nat.reduceEqDiff, Nat.reduceLT, Nat.reduceAdd, Nat.reduceMul, Int.reduceEq, Int.reduceLT, Int.reduceLE, Int.reduceNe, Int.reduceBEq, Int.reduceToNat, ↓reduceIte], by simp -implicitDefEqProofs only [go_sem, Nat.reduceEqDiff, Nat.reduceLT, Nat.reduceAdd, Nat.reduceMul, Int.reduceEq, Int.reduceLT, Int.reduceLE, Int.reduceNe, Int.reduceBEq, Int.reduceToNat, ↓reduceIte, f8], by simp -implicitDefEqProofs only [go_sem, Nat.reduceEqDiff, Nat.reduceLT, Nat.reduceAdd, Nat.reduceMul, Int.reduceEq, Int.reduceLT, Int.reduceLE, Int.reduceNe, Int.reduceBEq, Int.reduceToNat, ↓reduceIte, f28], by simp -implicitDefEqProofs only [go_sem, Nat.reduceEqDiff, Nat.reduceLT, Nat.reduceAdd, Nat.reduceMul, Int.reduceEq, Int.reduceLT, Int.reduceLE, Int.reduceNe, Int.reduceBEq, Int.reduceToNat, ↓reduceIte, f29], by simp -implicitDefEqProofs only [go_sem, Nat.reduceEqDiff, Nat.reduceLT, Nat.reduceAdd, Nat.reduceMul, Int.reduceEq, Int.reduceLT, Int.reduceLE, Int.reduceNe, Int.reduceBEq, Int.reduceToNat, ↓reduceIte], hhf3.keep fun b o ht ho => k5 b o (fun e => by rw [e] at ht; cases ht) ho, ?_, hmap3.keep fun o ho => k5 br o (by rw [hrt3]; exact fun e => by cases e) ho, hps2, by rw [List.length_append, List.length_singleton]; omega, by rw [List.length_append, List.length_singleton]; omega, ?_⟩
            · rw [List.length_append, List.length_singleton, ← hch, List.flatMap_append, List.flatMap_cons, List.flatMap_nil, List.append_nil]
              exact hrow5
            · intro u hu
              simp only [List.mem_append, List.mem_singleton] at hu
              rcases hu with hu | rfl
              · exact hxs u hu
              · exact ⟨c0, hy40⟩
        · simp -implicitDefEqProofs only [go_sem, Nat.reduceEqDiff, Nat.reduceLT, Nat.reduceAdd, Nat.reduceMul, Int.reduceEq, Int.reduceLT, Int.reduceLE, Int.reduceNe, Int.reduceBEq, Int.reduceToNat, ↓reduceIte, f5, f7, f8, f28, f29, f30, d0, d1, d2, d3, d4, l0, qm, qw, lookK_int Try.underlying54 Try.underlying23 z4 hmap, hget, Option.getD_some]
          exact ⟨m - 1, by omega, i + 1, br, lv, xs, ps, by omega, by simp -implicitDefEqProofs only [go_sem, Nat.reduceEqDiff, Nat.reduceLT, Nat.reduceAdd, Nat.reduceMul, Int.reduceEq, Int.reduceLT, Int.reduceLE, Int.reduceNe, Int.reduceBEq, Int.reduceToNat, ↓reduceIte, f5], by simp -implicitDefEqProofs only [go_sem, Nat.reduceEqDiff, Nat.reduceLT, Nat.reduceAdd, Nat.reduceMul, Int.reduceEq, Int.reduceLT, Int.reduceLE, Int.reduceNe, Int.reduceBEq, Int.reduceToNat, ↓reduceIte, f7], by simp -implicitDefEqProofs only [go_sem, Nat.reduceEqDiff, Nat.reduceLT, Nat.reduceAdd, Nat.reduceMul, Int.reduceEq, Int.reduceLT, Int.reduceLE, Int.reduceNe, Int.reduceBEq, Int.reduceToNat, ↓reduceIte, f8], by simp -implicitDefEqProofs only [go_sem, Nat.reduceEqDiff, Nat.reduceLT, Nat.reduceAdd, Nat.reduceMul, Int.reduceEq, Int.reduceLT, Int.reduceLE, Int.reduceNe, Int.reduceBEq, Int.reduceToNat, ↓reduceIte, f28], by simp -implicitDefEqProofs only [go_sem, Nat.reduceEqDiff, Nat.reduceLT, Nat.reduceAdd, Nat.reduceMul, Int.reduceEq, Int.reduceLT, Int.reduceLE, Int.reduceNe, Int.reduceBEq, Int.reduceToNat, ↓reduceIte, f29], by simp -implicitDefEqProofs only [go_sem, Nat.reduceEqDiff, Nat.reduceLT, Nat.reduceAdd, Nat.reduceMul, Int.reduceEq, Int.reduceLT, Int.reduceLE, Int.reduceNe, Int.reduceBEq, Int.reduceToNat, ↓reduceIte], hhf, hrow, hmap, hps, hx12, by omega, hxs⟩
    · have d3 : decide ((12 : Int) ≤ (i : Int)) = true := by simp; omega
      simp -implicitDefEqProofs only [go_sem, Nat.reduceEqDiff, Nat.reduceLT, Nat.reduceAdd, Nat.reduceMul, Int.reduceEq, Int.reduceLT, Int.reduceLE, Int.reduceNe, Int.reduceBEq, Int.reduceToNat, ↓reduceIte, f5, f7, f8, f28, f29, f30, d0, d1, d2, d3, l0, qm, qw]
      exact ⟨m - 1, by omega, i + 1, br, lv, xs, ps, by omega, by simp -implicitDefEqProofs only [go_sem, Nat.reduceEqDiff, Nat.reduceLT, Nat.reduceAdd, Nat.reduceMul, Int.reduceEq, Int.reduceLT, Int.reduceLE, Int.reduceNe, Int.reduceBEq, Int.reduceToNat, ↓reduceIte, f5], by simp -implicitDefEqProofs only [go_sem, Nat.reduceEqDiff, Nat.reduceLT, Nat.reduceAdd, Nat.reduceMul, Int.reduceEq, Int.reduceLT, Int.reduceLE, Int.reduceNe, Int.reduceBEq, Int.reduceToNat, ↓reduceIte, f7], by simp -implicitDefEqProofs only [go_sem, Nat.reduceEqDiff, Nat.reduceLT, Nat.reduceAdd, Nat.reduceMul, Int.reduceEq, Int.reduceLT, Int.reduceLE, Int.reduceNe, Int.reduceBEq, Int.reduceToNat, ↓reduceIte, f8], by simp -implicitDefEqProofs only [go_sem, Nat.reduceEqDiff, Nat.reduceLT, Nat.reduceAdd, Nat.reduceMul, Int.reduceEq, Int.reduceLT, Int.reduceLE, Int.reduceNe, Int.reduceBEq, Int.reduceToNat, ↓reduceIte, f28], by simp -implicitDefEqProofs only [go_sem, Nat.reduceEqDiff, Nat.reduceLT, Nat.reduceAdd, Nat.reduceMul, Int.reduceEq, Int.reduceLT, Int.reduceLE, Int.reduceNe, Int.reduceBEq, Int.reduceToNat, ↓reduceIte, f29], by simp -implicitDefEqProofs only [go_sem, Nat.reduceEqDiff, Nat.reduceLT, Nat.reduceAdd, Nat.reduceMul, Int.reduceEq, Int.reduceLT, Int.reduceLE, Int.reduceNe, Int.reduceBEq, Int.reduceToNat, ↓reduceIte], hhf, hrow, hmap, hps, hx12, by omega, hxs⟩
  · have d1 : decide ((i : Int) < (n : Int)) = false := by simp; omega
    simp -implicitDefEqProofs only [go_sem, Nat.reduceEqDiff, Nat.reduceLT, Nat.reduceAdd, Nat.reduceMul, Int.reduceEq, Int.reduceLT, Int.reduceLE, Int.reduceNe, Int.reduceBEq, Int.reduceToNat, ↓reduceIte, f5, f7, f8, f28, f29, f30, d1]
    have lp := ld_own w0 hhf.1
    obtain ⟨sa, sc, hss⟩ := hhf.2.2.1.slice
    simp -implicitDefEqProofs only [go_sem, Nat.reduceEqDiff, Nat.reduceLT, Nat.reduceAdd, Nat.reduceMul, Int.reduceEq, Int.reduceLT, Int.reduceLE, Int.reduceNe, Int.reduceBEq, Int.reduceToNat, ↓reduceIte, f5, f7, f8, f28, f29, f30, lp, hss]
    rw [← hss]
    refine AC.loop (SoneJ w0 H1 p zs lv ss) (n := zs.length) ⟨0, by omega, by simp -implicitDefEqProofs only [go_sem, Nat.reduceEqDiff, Nat.reduceLT, Nat.reduceAdd, Nat.reduceMul, Int.reduceEq, Int.reduceLT, Int.reduceLE, Int.reduceNe, Int.reduceBEq, Int.reduceToNat, ↓reduceIte, f5], by simp -implicitDefEqProofs only [go_sem, Nat.reduceEqDiff, Nat.reduceLT, Nat.reduceAdd, Nat.reduceMul, Int.reduceEq, Int.reduceLT, Int.reduceLE, Int.reduceNe, Int.reduceBEq, Int.reduceToNat, ↓reduceIte, f7], by simp -implicitDefEqProofs only [go_sem, Nat.reduceEqDiff, Nat.reduceLT, Nat.reduceAdd, Nat.reduceMul, Int.reduceEq, Int.reduceLT, Int.reduceLE, Int.reduceNe, Int.reduceBEq, Int.reduceToNat, ↓reduceIte, hss], by simp -implicitDefEqProofs only [go_sem, Nat.reduceEqDiff, Nat.reduceLT, Nat.reduceAdd, Nat.reduceMul, Int.reduceEq, Int.reduceLT, Int.reduceLE, Int.reduceNe, Int.reduceBEq, Int.reduceToNat, ↓reduceIte], by simp -implicitDefEqProofs only [go_sem, Nat.reduceEqDiff, Nat.reduceLT, Nat.reduceAdd, Nat.reduceMul, Int.reduceEq, Int.reduceLT, Int.reduceLE, Int.reduceNe, Int.reduceBEq, Int.reduceToNat, ↓reduceIte], Sub.refl _⟩ ?_
    clear f5 f7 f8 f28 f29 f30 lp d1 hss sa sc
    obtain ⟨la, lc, hlv⟩ := hrow.slice
    rintro m F HA ⟨i, hi, f5, f7, f70, f71, f72, sA⟩
    by_cases c1 : i < zs.length
    · have d1 : decide ((i : Int) < (zs.length : Int)) = true := by simp; omega
      have d0 : decide ((0 : Int) ≤ (i : Int)) = true := by simp
      have d2 : IntKind.i64.wrap ((i : Int) + 1) = (i + 1 : Nat) := by rw [i64_in] <;> omega
      have hz : zs[i]? = some zs[i] := by simp [c1]
      generalize zs[i] = z at hz
      have hzm := List.mem_of_getElem? hz
      have hhfA := hhf.sub sA
      obtain ⟨g1, cap1, hv1, hl1⟩ := hhfA.2.2.1.at w0 rfl (fun z _ => z.cs_len) hz
      have hl1' : ldCells w0 HA ⟨g1, i * 4, none⟩ 0 4 = some [.int .u64 (z.own : Int), .int .u64 (z.xmin : Int), .int .u64 (z.xmax : Int), z.v] := hl1
      rw [hv1] at f70
      have hc1 := hhfA.2.2.2.cell hzm
      have hzl := hhfA.2.2.2.run hzm
      simp -implicitDefEqProofs only [go_sem, Nat.reduceEqDiff, Nat.reduceLT, Nat.reduceAdd, Nat.reduceMul, Int.reduceEq, Int.reduceLT, Int.reduceLE, Int.reduceNe, Int.reduceBEq, Int.reduceToNat, ↓reduceIte, f5, f7, f70, f71, f72, d1, d0, hl1', ldK_agg, hlv]
      refine newK_of ?_
      intro b14 HB hb14 hn14 h14 s14 g14
      simp -implicitDefEqProofs only [go_sem, Nat.reduceEqDiff, Nat.reduceLT, Nat.reduceAdd, Nat.reduceMul, Int.reduceEq, Int.reduceLT, Int.reduceLE, Int.reduceNe, Int.reduceBEq, Int.reduceToNat, ↓reduceIte, f5, f7, f70, f71, f72, hlv]
      refine store_all h14 rfl (by simp [cell1_int, hc1]) rfl ?_
      intro HC h14 g14'
      have sC : Sub HA HC := Sub.ne2 hn14 g14 g14'
      clear g14 g14' s14
      simp -implicitDefEqProofs only [go_sem, Nat.reduceEqDiff, Nat.reduceLT, Nat.reduceAdd, Nat.reduceMul, Int.reduceEq, Int.reduceLT, Int.reduceLE, Int.reduceNe, Int.reduceBEq, Int.reduceToNat, ↓reduceIte, f5, f7, f70, f71, f72, hlv]
      have hhfC := hhfA.sub sC
      have s0C := sA.trans sC
      refine AC.loop (SoneK w0 HC p i b14 zs.length xs (seesB 1 sts z.own z.xmax z.run) lv ss) (n := xs.length) ⟨0, 0, by omega, by simp -implicitDefEqProofs only [go_sem, Nat.reduceEqDiff, Nat.reduceLT, Nat.reduceAdd, Nat.reduceMul, Int.reduceEq, Int.reduceLT, Int.reduceLE, Int.reduceNe, Int.reduceBEq, Int.reduceToNat, ↓reduceIte, f5], by simp -implicitDefEqProofs only [go_sem, Nat.reduceEqDiff, Nat.reduceLT, Nat.reduceAdd, Nat.reduceMul, Int.reduceEq, Int.reduceLT, Int.reduceLE, Int.reduceNe, Int.reduceBEq, Int.reduceToNat, ↓reduceIte, f7, hlv], by simp -implicitDefEqProofs only [go_sem, Nat.reduceEqDiff, Nat.reduceLT, Nat.reduceAdd, Nat.reduceMul, Int.reduceEq, Int.reduceLT, Int.reduceLE, Int.reduceNe, Int.reduceBEq, Int.reduceToNat, ↓reduceIte], by simp -implicitDefEqProofs only [go_sem, Nat.reduceEqDiff, Nat.reduceLT, Nat.reduceAdd, Nat.reduceMul, Int.reduceEq, Int.reduceLT, Int.reduceLE, Int.reduceNe, Int.reduceBEq, Int.reduceToNat, ↓reduceIte], by simp -implicitDefEqProofs only [go_sem, Nat.reduceEqDiff, Nat.reduceLT, Nat.reduceAdd, Nat.reduceMul, Int.reduceEq, Int.reduceLT, Int.reduceLE, Int.reduceNe, Int.reduceBEq, Int.reduceToNat, ↓reduceIte, f70, hv1], by simp -implicitDefEqProofs only [go_sem, Nat.reduceEqDiff, Nat.reduceLT, Nat.reduceAdd, Nat.reduceMul, Int.reduceEq, Int.reduceLT, Int.reduceLE, Int.reduceNe, Int.reduceBEq, Int.reduceToNat, ↓reduceIte, f71], by simp -implicitDefEqProofs only [go_sem, Nat.reduceEqDiff, Nat.reduceLT, Nat.reduceAdd, Nat.reduceMul, Int.reduceEq, Int.reduceLT, Int.reduceLE, Int.reduceNe, Int.reduceBEq, Int.reduceToNat, ↓reduceIte, f72], by simp -implicitDefEqProofs only [go_sem, Nat.reduceEqDiff, Nat.reduceLT, Nat.reduceAdd, Nat.reduceMul, Int.reduceEq, Int.reduceLT, Int.reduceLE, Int.reduceNe, Int.reduceBEq, Int.reduceToNat, ↓reduceIte, hlv], by simp -implicitDefEqProofs only [go_sem, Nat.reduceEqDiff, Nat.reduceLT, Nat.reduceAdd, Nat.reduceMul, Int.reduceEq, Int.reduceLT, Int.reduceLE, Int.reduceNe, Int.reduceBEq, Int.reduceToNat, ↓reduceIte], by simp -implicitDefEqProofs only [go_sem, Nat.reduceEqDiff, Nat.reduceLT, Nat.reduceAdd, Nat.reduceMul, Int.reduceEq, Int.reduceLT, Int.reduceLE, Int.reduceNe, Int.reduceBEq, Int.reduceToNat, ↓reduceIte], Sub.refl _, .inr ⟨by omega, by omega, fun e => by omega⟩⟩ ?_
      clear f5 f7 f70 f71 f72
      rintro m2 F HD ⟨j, nn, hj, f5, f7, f14, f15, f70, f71, f72, f76, f77, f78, sD, hinv⟩
      by_cases cj : j < xs.length
      · have e1 : decide ((j : Int) < (xs.length : Int)) = true := by simp; omega
        have e0 : decide ((0 : Int) ≤ (j : Int)) = true := by simp
        have e2 : IntKind.i64.wrap ((j : Int) + 1) = (j + 1 : Nat) := by rw [i64_in] <;> omega
        have hrowD := hrow.keep (H' := HD) fun b o _ hb => sD b o (s0C b o hb)
        obtain ⟨g2, cap2, hv2, hl2, hl3⟩ := hrowD.atc w0 (chain_len xs).symm (fun t _ => tcs_len t) (chain_at xs cj)
        have hl2' : ldCells w0 HD ⟨g2, j * 6, none⟩ 0 6 = some [.int .u64 0, .int .u64 (xs.getD j 0 : Nat), .int .u64 (xs.getD (j + 1) 0 : Nat), .int .i64 0, .int .i64 0, .slice none 0 0] := hl2
        simp -implicitDefEqProofs only [go_sem, Nat.reduceEqDiff, Nat.reduceLT, Nat.reduceAdd, Nat.reduceMul, Int.reduceEq, Int.reduceLT, Int.reduceLE, Int.reduceNe, Int.reduceBEq, Int.reduceToNat, ↓reduceIte, f5, f7, f14, f15, f70, f71, f72, f76, f77, f78, e1, e0, hv2, hl2', ldK_agg]
        refine newK_of ?_
        intro b17 HE0 hb17 hn17 h17 s17 g17
        simp -implicitDefEqProofs only [go_sem, Nat.reduceEqDiff, Nat.reduceLT, Nat.reduceAdd, Nat.reduceMul, Int.reduceEq, Int.reduceLT, Int.reduceLE, Int.reduceNe, Int.reduceBEq, Int.reduceToNat, ↓reduceIte, f5, f7, f14, f15, f70, f71, f72, f76, f77, f78]
        refine store_all h17 rfl (by simp [cell1_int, cell1_slice]) rfl ?_
        intro HE h17 g17'
        have sE := sD.trans (Sub.ne2 hn17 g17 g17')
        clear g17 g17' s17 hl2 hl2' hl3
        have hhfE := hhfC.sub sE
        have lp := ld_own w0 hhfE.1
        have l14 := ldc w0 (sE _ _ h14) 4
        have l17 := ldc w0 h17 6
        have l17' := ld_own w0 h17
        have hrz := (hhfE.2.2.2 z hzm).1
        have hrowE := hrow.keep (H' := HE) fun b o _ hb => sE b o (s0C b o hb)
        simp -implicitDefEqProofs only [go_sem, Nat.reduceEqDiff, Nat.reduceLT, Nat.reduceAdd, Nat.reduceMul, Int.reduceEq, Int.reduceLT, Int.reduceLE, Int.reduceNe, Int.reduceBEq, Int.reduceToNat, ↓reduceIte, f5, f7, f14, f15, f70, f71, f72, f76, f77, f78]
        refine vdraw_t [⟨0, .p, [], []⟩, ⟨1, .p, [], []⟩, ⟨2, .p, [], []⟩, ⟨3, .p, [], []⟩, ⟨4, .p, [], []⟩, ⟨5, .p, [], []⟩, ⟨6, .n, [], []⟩, ⟨7, .n, [], []⟩, ⟨8, .p, [], []⟩, ⟨9, .n, [], []⟩, ⟨10, .c, [], []⟩, ⟨11, .p, [], []⟩, ⟨12, .p, [], []⟩, ⟨13, .p, [], []⟩, ⟨14, .p, [], []⟩, ⟨15, .p, [], []⟩, ⟨16, .n, [], []⟩, ⟨17, .n, [], []⟩, ⟨18, .p, [], []⟩, ⟨19, .p, [], []⟩, ⟨20, .p, [], []⟩, ⟨21, .p, [], []⟩, ⟨22, .p, [], []⟩, ⟨23, .n, [], []⟩, ⟨24, .c, [], []⟩, ⟨25, .p, [], []⟩, ⟨26, .p, [], []⟩] [0, 1, 3, 7, 15, 31, 63, 7, 7, 263, 1023, 2047, 4095, 8191, 16383, 32767, 65535, 8191, 8191, 8191, 532479, 1843199, 3940351, 8134655, 16777215, 33554431, 67108863] mixed (by kernel_rfl) ?_
        by_cases cj0 : 0 < j
        · have e3 : decide ((0 : Int) < (j : Int)) = true := by rw [dec_pos]; simp [cj0]
          have e4 : IntKind.i64.wrap ((j : Int) - 1) = ((j - 1 : Nat) : Int) := by rw [i64_in] <;> omega
          have e5 : decide ((0 : Int) ≤ ((j - 1 : Nat) : Int)) = true := by simp
          have e6 : decide (((j - 1 : Nat) : Int) < (xs.length : Int)) = true := by rw [dec_lt]; simp; omega
          obtain ⟨g3, cap3, hv3, _, hl4⟩ := hrowE.atc w0 (chain_len xs).symm (fun t _ => tcs_len t) (chain_at xs (i := j - 1) (by omega))
          have hl5 := hl4 1 (by omega)
          have hj1 : j - 1 + 1 = j := by omega
          simp only [tcs, List.getElem?_cons_succ, List.getElem?_cons_zero] at hl5
          simp -implicitDefEqProofs only [go_sem, Nat.reduceEqDiff, Nat.reduceLT, Nat.reduceAdd, Nat.reduceMul, Int.reduceEq, Int.reduceLT, Int.reduceLE, Int.reduceNe, Int.reduceBEq, Int.reduceToNat, ↓reduceIte, f5, f7, f14, f15, f70, f71, f72, f76, f77, f78, e3, lp, l14, l17', ldK_agg]
          refine (sees_log hhfE.2.1 (by omega) hrz hzl (xs.getD j 0)).mono ?_
          rintro r HE' ⟨rfl, rfl⟩
          cases hsj : seesB 1 sts z.own z.xmax z.run (xs.getD j 0)
          · have hnb : 0 < j → seesB 1 sts z.own z.xmax z.run (xs.getD j 0) = true → seesB 1 sts z.own z.xmax z.run (xs.getD (j - 1) 0) = true := fun _ h => by rw [hsj] at h; cases h
            simp -implicitDefEqProofs only [go_sem, Nat.reduceEqDiff, Nat.reduceLT, Nat.reduceAdd, Nat.reduceMul, Int.reduceEq, Int.reduceLT, Int.reduceLE, Int.reduceNe, Int.reduceBEq, Int.reduceToNat, ↓reduceIte, f5, f7, f14, f15, f70, f71, f72, f76, f77, f78, e3, e4, e5, e6, hv3, hl5, lp, l14, l17', ldK_agg]
            have hinvF : ∀ {v : Bool}, (v = true → seesB 1 sts z.own z.xmax z.run (xs.getD j 0) = true ∧ (j + 1 < xs.length → seesB 1 sts z.own z.xmax z.run (xs.getD (j + 1) 0) = false)) → OneInv xs (seesB 1 sts z.own z.xmax z.run) (j + 1) (if v = true then nn + 1 else nn) := fun {v} hv => hinv.next cj hnb v hv
            obtain ⟨n1, n2⟩ := hinv.le (by omega)
            have hwrap : IntKind.i64.wrap (nn + 1) = nn + 1 := by rw [i64_in] <;> omega
            refine vdraw_t [⟨0, .p, [], []⟩, ⟨1, .p, [], []⟩, ⟨2, .p, [], []⟩, ⟨3, .n, [], []⟩, ⟨4, .n, [], []⟩, ⟨5, .n, [], []⟩, ⟨6, .c, [], []⟩] [0, 1, 3, 7, 0, 0, 63] mixed (by kernel_rfl) ?_
            simp -implicitDefEqProofs only [go_sem, Nat.reduceEqDiff, Nat.reduceLT, Nat.reduceAdd, Nat.reduceMul, Int.reduceEq, Int.reduceLT, Int.reduceLE, Int.reduceNe, Int.reduceBEq, Int.reduceToNat, ↓reduceIte, f5, f7, f14, f15, f70, f71, f72, f76, f77, f78, lp, l14, l17, ldK_agg]
            refine (vis_log hhfE.2.1 (by omega) hrz hzl (xs.getD j 0) (xs.getD (j + 1) 0)).mono ?_
            rintro r HE' ⟨rfl, rfl⟩
            obtain ⟨v, ev⟩ : ∃ v, v = visB 1 sts z.own z.xmax z.run (xs.getD j 0) (xs.getD (j + 1) 0) := ⟨_, rfl⟩
            rw [← ev]
            have hv : v = true → seesB 1 sts z.own z.xmax z.run (xs.getD j 0) = true ∧ (j + 1 < xs.length → seesB 1 sts z.own z.xmax z.run (xs.getD (j + 1) 0) = false) := by
              intro h
              rw [ev] at h
              unfold visB at h
              simp only [Bool.and_eq_true, Bool.or_eq_true, decide_eq_true_eq, Bool.not_eq_true'] at h
              refine ⟨h.1, fun hl => h.2.resolve_left ?_⟩
              have : xs.getD (j + 1) 0 = xs[j + 1] := by simp [hl]
              rw [this]; exact (hxs _ (List.getElem_mem hl)).1
            clear ev
            cases v
            · simp -implicitDefEqProofs only [go_sem, Nat.reduceEqDiff, Nat.reduceLT, Nat.reduceAdd, Nat.reduceMul, Int.reduceEq, Int.reduceLT, Int.reduceLE, Int.reduceNe, Int.reduceBEq, Int.reduceToNat, ↓reduceIte, f5, f7, f14, f15, f70, f71, f72, f76, f77, f78, e2]
              exact ⟨m2 - 1, by omega, j + 1, _, by omega, by simp -implicitDefEqProofs only [go_sem, Nat.reduceEqDiff, Nat.reduceLT, Nat.reduceAdd, Nat.reduceMul, Int.reduceEq, Int.reduceLT, Int.reduceLE, Int.reduceNe, Int.reduceBEq, Int.reduceToNat, ↓reduceIte, f5], by simp -implicitDefEqProofs only [go_sem, Nat.reduceEqDiff, Nat.reduceLT, Nat.reduceAdd, Nat.reduceMul, Int.reduceEq, Int.reduceLT, Int.reduceLE, Int.reduceNe, Int.reduceBEq, Int.reduceToNat, ↓reduceIte, f7, hv2], by simp -implicitDefEqProofs only [go_sem, Nat.reduceEqDiff, Nat.reduceLT, Nat.reduceAdd, Nat.reduceMul, Int.reduceEq, Int.reduceLT, Int.reduceLE, Int.reduceNe, Int.reduceBEq, Int.reduceToNat, ↓reduceIte, f14], by simp -implicitDefEqProofs only [go_sem, Nat.reduceEqDiff, Nat.reduceLT, Nat.reduceAdd, Nat.reduceMul, Int.reduceEq, Int.reduceLT, Int.reduceLE, Int.reduceNe, Int.reduceBEq, Int.reduceToNat, ↓reduceIte, f15, Bool.false_eq_true, if_false], by simp -implicitDefEqProofs only [go_sem, Nat.reduceEqDiff, Nat.reduceLT, Nat.reduceAdd, Nat.reduceMul, Int.reduceEq, Int.reduceLT, Int.reduceLE, Int.reduceNe, Int.reduceBEq, Int.reduceToNat, ↓reduceIte, f70], by simp -implicitDefEqProofs only [go_sem, Nat.reduceEqDiff, Nat.reduceLT, Nat.reduceAdd, Nat.reduceMul, Int.reduceEq, Int.reduceLT, Int.reduceLE, Int.reduceNe, Int.reduceBEq, Int.reduceToNat, ↓reduceIte, f71], by simp -implicitDefEqProofs only [go_sem, Nat.reduceEqDiff, Nat.reduceLT, Nat.reduceAdd, Nat.reduceMul, Int.reduceEq, Int.reduceLT, Int.reduceLE, Int.reduceNe, Int.reduceBEq, Int.reduceToNat, ↓reduceIte, f72], by simp -implicitDefEqProofs only [go_sem, Nat.reduceEqDiff, Nat.reduceLT, Nat.reduceAdd, Nat.reduceMul, Int.reduceEq, Int.reduceLT, Int.reduceLE, Int.reduceNe, Int.reduceBEq, Int.reduceToNat, ↓reduceIte, f76, hv2], by simp -implicitDefEqProofs only [go_sem, Nat.reduceEqDiff, Nat.reduceLT, Nat.reduceAdd, Nat.reduceMul, Int.reduceEq, Int.reduceLT, Int.reduceLE, Int.reduceNe, Int.reduceBEq, Int.reduceToNat, ↓reduceIte, f77], by simp -implicitDefEqProofs only [go_sem, Nat.reduceEqDiff, Nat.reduceLT, Nat.reduceAdd, Nat.reduceMul, Int.reduceEq, Int.reduceLT, Int.reduceLE, Int.reduceNe, Int.reduceBEq, Int.reduceToNat, ↓reduceIte], sE, hinvF hv⟩
            · simp -implicitDefEqProofs only [go_sem, Nat.reduceEqDiff, Nat.reduceLT, Nat.reduceAdd, Nat.reduceMul, Int.reduceEq, Int.reduceLT, Int.reduceLE, Int.reduceNe, Int.reduceBEq, Int.reduceToNat, ↓reduceIte, f5, f7, f14, f15, f70, f71, f72, f76, f77, f78, e2, hwrap]
              exact ⟨m2 - 1, by omega, j + 1, _, by omega, by simp -implicitDefEqProofs only [go_sem, Nat.reduceEqDiff, Nat.reduceLT, Nat.reduceAdd, Nat.reduceMul, Int.reduceEq, Int.reduceLT, Int.reduceLE, Int.reduceNe, Int.reduceBEq, Int.reduceToNat, ↓reduceIte, f5], by simp -implicitDefEqProofs only [go_sem, Nat.reduceEqDiff, Nat.reduceLT, Nat.reduceAdd, Nat.reduceMul, Int.reduceEq, Int.reduceLT, Int.reduceLE, Int.reduceNe, Int.reduceBEq, Int.reduceToNat, ↓reduceIte, f7, hv2], by simp -implicitDefEqProofs only [go_sem, Nat.reduceEqDiff, Nat.reduceLT, Nat.reduceAdd, Nat.reduceMul, Int.reduceEq, Int.reduceLT, Int.reduceLE, Int.reduceNe, Int.reduceBEq, Int.reduceToNat, ↓reduceIte, f14], by simp -implicitDefEqProofs only [go_sem, Nat.reduceEqDiff, Nat.reduceLT, Nat.reduceAdd, Nat.reduceMul, Int.reduceEq, Int.reduceLT, Int.reduceLE, Int.reduceNe, Int.reduceBEq, Int.reduceToNat, ↓reduceIte, f15, if_true], by simp -implicitDefEqProofs only [go_sem, Nat.reduceEqDiff, Nat.reduceLT, Nat.reduceAdd, Nat.reduceMul, Int.reduceEq, Int.reduceLT, Int.reduceLE, Int.reduceNe, Int.reduceBEq, Int.reduceToNat, ↓reduceIte, f70], by simp -implicitDefEqProofs only [go_sem, Nat.reduceEqDiff, Nat.reduceLT, Nat.reduceAdd, Nat.reduceMul, Int.reduceEq, Int.reduceLT, Int.reduceLE, Int.reduceNe, Int.reduceBEq, Int.reduceToNat, ↓reduceIte, f71], by simp -implicitDefEqProofs only [go_sem, Nat.reduceEqDiff, Nat.reduceLT, Nat.reduceAdd, Nat.reduceMul, Int.reduceEq, Int.reduceLT, Int.reduceLE, Int.reduceNe, Int.reduceBEq, Int.reduceToNat, ↓reduceIte, f72], by simp -implicitDefEqProofs only [go_sem, Nat.reduceEqDiff, Nat.reduceLT, Nat.reduceAdd, Nat.reduceMul, Int.reduceEq, Int.reduceLT, Int.reduceLE, Int.reduceNe, Int.reduceBEq, Int.reduceToNat, ↓reduceIte, f76, hv2], by simp -implicitDefEqProofs only [go_sem, Nat.reduceEqDiff, Nat.reduceLT, Nat.reduceAdd, Nat.reduceMul, Int.reduceEq, Int.reduceLT, Int.reduceLE, Int.reduceNe, Int.reduceBEq, Int.reduceToNat, ↓reduceIte, f77], by simp -implicitDefEqProofs only [go_sem, Nat.reduceEqDiff, Nat.reduceLT, Nat.reduceAdd, Nat.reduceMul, Int.reduceEq, Int.reduceLT, Int.reduceLE, Int.reduceNe, Int.reduceBEq, Int.reduceToNat, ↓reduceIte], sE, hinvF hv⟩
          · simp -implicitDefEqProofs only [go_sem, Nat.reduceEqDiff, Nat.reduceLT, Nat.reduceAdd, Nat.reduceMul, Int.reduceEq, Int.reduceLT, Int.reduceLE, Int.reduceNe, Int.reduceBEq, Int.reduceToNat, ↓reduceIte, f5, f7, f14, f15, f70, f71, f72, f76, f77, f78, e3, e4, e5, e6, hv3, hl5, lp, l14, l17', ldK_agg]
            refine (sees_log hhfE.2.1 (by omega) hrz hzl (xs.getD (j - 1) 0)).mono ?_
            rintro r HE'' ⟨rfl, rfl⟩
            cases hsk : seesB 1 sts z.own z.xmax z.run (xs.getD (j - 1) 0)
            · simp -implicitDefEqProofs only [go_sem, Nat.reduceEqDiff, Nat.reduceLT, Nat.reduceAdd, Nat.reduceMul, Int.reduceEq, Int.reduceLT, Int.reduceLE, Int.reduceNe, Int.reduceBEq, Int.reduceToNat, ↓reduceIte, f5, f7, f14, f15, f70, f71, f72, f76, f77, f78, e3, e4, e5, e6, hv3, hl5, lp, l14, l17', ldK_agg]
              have hinvF : ∀ {v : Bool}, (v = true → seesB 1 sts z.own z.xmax z.run (xs.getD j 0) = true ∧ (j + 1 < xs.length → seesB 1 sts z.own z.xmax z.run (xs.getD (j + 1) 0) = false)) → OneInv xs (seesB 1 sts z.own z.xmax z.run) (j + 1) (if v = true then -100 + 1 else -100) := fun {v} hv => OneInv.brk v
              have hwrap : IntKind.i64.wrap (-100 + 1) = -100 + 1 := by rw [i64_in] <;> omega
              refine vdraw_t [⟨0, .p, [], []⟩, ⟨1, .p, [], []⟩, ⟨2, .p, [], []⟩, ⟨3, .n, [], []⟩, ⟨4, .n, [], []⟩, ⟨5, .n, [], []⟩, ⟨6, .c, [], []⟩] [0, 1, 3, 7, 0, 0, 63] mixed (by kernel_rfl) ?_
              simp -implicitDefEqProofs only [go_sem, Nat.reduceEqDiff, Nat.reduceLT, Nat.reduceAdd, Nat.reduceMul, Int.reduceEq, Int.reduceLT, Int.reduceLE, Int.reduceNe, Int.reduceBEq, Int.reduceToNat, ↓reduceIte, f5, f7, f14, f15, f70, f71, f72, f76, f77, f78, lp, l14, l17, ldK_agg]
              refine (vis_log hhfE.2.1 (by omega) hrz hzl (xs.getD j 0) (xs.getD (j + 1) 0)).mono ?_
              rintro r HE' ⟨rfl, rfl⟩
              obtain ⟨v, ev⟩ : ∃ v, v = visB 1 sts z.own z.xmax z.run (xs.getD j 0) (xs.getD (j + 1) 0) := ⟨_, rfl⟩
              rw [← ev]
              have hv : v = true → seesB 1 sts z.own z.xmax z.run (xs.getD j 0) = true ∧ (j + 1 < xs.length → seesB 1 sts z.own z.xmax z.run (xs.getD (j + 1) 0) = false) := by
                intro h
                rw [ev] at h
                unfold visB at h
                simp only [Bool.and_eq_true, Bool.or_eq_true, decide_eq_true_eq, Bool.not_eq_true'] at h
                refine ⟨h.1, fun hl => h.2.resolve_left ?_⟩
                have : xs.getD (j + 1) 0 = xs[j + 1] := by simp [hl]
                rw [this]; exact (hxs _ (List.getElem_mem hl)).1
              clear ev
              cases v
              · simp -implicitDefEqProofs only [go_sem, Nat.reduceEqDiff, Nat.reduceLT, Nat.reduceAdd, Nat.reduceMul, Int.reduceEq, Int.reduceLT, Int.reduceLE, Int.reduceNe, Int.reduceBEq, Int.reduceToNat, ↓reduceIte, f5, f7, f14, f15, f70, f71, f72, f76, f77, f78, e2]
                exact ⟨m2 - 1, by omega, j + 1, _, by omega, by simp -implicitDefEqProofs only [go_sem, Nat.reduceEqDiff, Nat.reduceLT, Nat.reduceAdd, Nat.reduceMul, Int.reduceEq, Int.reduceLT, Int.reduceLE, Int.reduceNe, Int.reduceBEq, Int.reduceToNat, ↓reduceIte, f5], by simp -implicitDefEqProofs only [go_sem, Nat.reduceEqDiff, Nat.reduceLT, Nat.reduceAdd, Nat.reduceMul, Int.reduceEq, Int.reduceLT, Int.reduceLE, Int.reduceNe, Int.reduceBEq, Int.reduceToNat, ↓reduceIte, f7, hv2], by simp -implicitDefEqProofs only [go_sem, Nat.reduceEqDiff, Nat.reduceLT, Nat.reduceAdd, Nat.reduceMul, Int.reduceEq, Int.reduceLT, Int.reduceLE, Int.reduceNe, Int.reduceBEq, Int.reduceToNat, ↓reduceIte, f14], by simp -implicitDefEqProofs only [go_sem, Nat.reduceEqDiff, Nat.reduceLT, Nat.reduceAdd, Nat.reduceMul, Int.reduceEq, Int.reduceLT, Int.reduceLE, Int.reduceNe, Int.reduceBEq, Int.reduceToNat, ↓reduceIte, f15, Bool.false_eq_true, if_false], by simp -implicitDefEqProofs only [go_sem, Nat.reduceEqDiff, Nat.reduceLT, Nat.reduceAdd, Nat.reduceMul, Int.reduceEq, Int.reduceLT, Int.reduceLE, Int.reduceNe, Int.reduceBEq, Int.reduceToNat, ↓reduceIte, f70], by simp -implicitDefEqProofs only [go_sem, Nat.reduceEqDiff, Nat.reduceLT, Nat.reduceAdd, Nat.reduceMul, Int.reduceEq, Int.reduceLT, Int.reduceLE, Int.reduceNe, Int.reduceBEq, Int.reduceToNat, ↓reduceIte, f71], by simp -implicitDefEqProofs only [go_sem, Nat.reduceEqDiff, Nat.reduceLT, Nat.reduceAdd, Nat.reduceMul, Int.reduceEq, Int.reduceLT, Int.reduceLE, Int.reduceNe, Int.reduceBEq, Int.reduceToNat, ↓reduceIte, f72], by simp -implicitDefEqProofs only [go_sem, Nat.reduceEqDiff, Nat.reduceLT, Nat.reduceAdd, Nat.reduceMul, Int.reduceEq, Int.reduceLT, Int.reduceLE, Int.reduceNe, Int.reduceBEq, Int.reduceToNat, ↓reduceIte, f76, hv2], by simp -implicitDefEqProofs only [go_sem, Nat.reduceEqDiff, Nat.reduceLT, Nat.reduceAdd, Nat.reduceMul, Int.reduceEq, Int.reduceLT, Int.reduceLE, Int.reduceNe, Int.reduceBEq, Int.reduceToNat, ↓reduceIte, f77], by simp -implicitDefEqProofs only [go_sem, Nat.reduceEqDiff, Nat.reduceLT, Nat.reduceAdd, Nat.reduceMul, Int.reduceEq, Int.reduceLT, Int.reduceLE, Int.reduceNe, Int.reduceBEq, Int.reduceToNat, ↓reduceIte], sE, hinvF hv⟩
              · simp -implicitDefEqProofs only [go_sem, Nat.reduceEqDiff, Nat.reduceLT, Nat.reduceAdd, Nat.reduceMul, Int.reduceEq, Int.reduceLT, Int.reduceLE, Int.reduceNe, Int.reduceBEq, Int.reduceToNat, ↓reduceIte, f5, f7, f14, f15, f70, f71, f72, f76, f77, f78, e2, hwrap]
                exact ⟨m2 - 1, by omega, j + 1, _, by omega, by simp -implicitDefEqProofs only [go_sem, Nat.reduceEqDiff, Nat.reduceLT, Nat.reduceAdd, Nat.reduceMul, Int.reduceEq, Int.reduceLT, Int.reduceLE, Int.reduceNe, Int.reduceBEq, Int.reduceToNat, ↓reduceIte, f5], by simp -implicitDefEqProofs only [go_sem, Nat.reduceEqDiff, Nat.reduceLT, Nat.reduceAdd, Nat.reduceMul, Int.reduceEq, Int.reduceLT, Int.reduceLE, Int.reduceNe, Int.reduceBEq, Int.reduceToNat, ↓reduceIte, f7, hv2], by simp -implicitDefEqProofs only [go_sem, Nat.reduceEqDiff, Nat.reduceLT, Nat.reduceAdd, Nat.reduceMul, Int.reduceEq, Int.reduceLT, Int.reduceLE, Int.reduceNe, Int.reduceBEq, Int.reduceToNat, ↓reduceIte, f14], by simp -implicitDefEqProofs only [go_sem, Nat.reduceEqDiff, Nat.reduceLT, Nat.reduceAdd, Nat.reduceMul, Int.reduceEq, Int.reduceLT, Int.reduceLE, Int.reduceNe, Int.reduceBEq, Int.reduceToNat, ↓reduceIte, f15, if_true], by simp -implicitDefEqProofs only [go_sem, Nat.reduceEqDiff, Nat.reduceLT, Nat.reduceAdd, Nat.reduceMul, Int.reduceEq, Int.reduceLT, Int.reduceLE, Int.reduceNe, Int.reduceBEq, Int.reduceToNat, ↓reduceIte, f70], by simp -implicitDefEqProofs only [go_sem, Nat.reduceEqDiff, Nat.reduceLT, Nat.reduceAdd, Nat.reduceMul, Int.reduceEq, Int.reduceLT, Int.reduceLE, Int.reduceNe, Int.reduceBEq, Int.reduceToNat, ↓reduceIte, f71], by simp -implicitDefEqProofs only [go_sem, Nat.reduceEqDiff, Nat.reduceLT, Nat.reduceAdd, Nat.reduceMul, Int.reduceEq, Int.reduceLT, Int.reduceLE, Int.reduceNe, Int.reduceBEq, Int.reduceToNat, ↓reduceIte, f72], by simp -implicitDefEqProofs only [go_sem, Nat.reduceEqDiff, Nat.reduceLT, Nat.reduceAdd, Nat.reduceMul, Int.reduceEq, Int.reduceLT, Int.reduceLE, Int.reduceNe, Int.reduceBEq, Int.reduceToNat, ↓reduceIte, f76, hv2], by simp -implicitDefEqProofs only [go_sem, Nat.reduceEqDiff, Nat.reduceLT, Nat.reduceAdd, Nat.reduceMul, Int.reduceEq, Int.reduceLT, Int.reduceLE, Int.reduceNe, Int.reduceBEq, Int.reduceToNat, ↓reduceIte, f77], by simp -implicitDefEqProofs only [go_sem, Nat.reduceEqDiff, Nat.reduceLT, Nat.reduceAdd, Nat.reduceMul, Int.reduceEq, Int.reduceLT, Int.reduceLE, Int.reduceNe, Int.reduceBEq, Int.reduceToNat, ↓reduceIte], sE, hinvF hv⟩
            · have hnb : 0 < j → seesB 1 sts z.own z.xmax z.run (xs.getD j 0) = true → seesB 1 sts z.own z.xmax z.run (xs.getD (j - 1) 0) = true := fun _ _ => hsk
              simp -implicitDefEqProofs only [go_sem, Nat.reduceEqDiff, Nat.reduceLT, Nat.reduceAdd, Nat.reduceMul, Int.reduceEq, Int.reduceLT, Int.reduceLE, Int.reduceNe, Int.reduceBEq, Int.reduceToNat, ↓reduceIte, f5, f7, f14, f15, f70, f71, f72, f76, f77, f78, e3, e4, e5, e6, hv3, hl5, lp, l14, l17', ldK_agg]
              have hinvF : ∀ {v : Bool}, (v = true → seesB 1 sts z.own z.xmax z.run (xs.getD j 0) = true ∧ (j + 1 < xs.length → seesB 1 sts z.own z.xmax z.run (xs.getD (j + 1) 0) = false)) → OneInv xs (seesB 1 sts z.own z.xmax z.run) (j + 1) (if v = true then nn + 1 else nn) := fun {v} hv => hinv.next cj hnb v hv
              obtain ⟨n1, n2⟩ := hinv.le (by omega)
              have hwrap : IntKind.i64.wrap (nn + 1) = nn + 1 := by rw [i64_in] <;> omega
              refine vdraw_t [⟨0, .p, [], []⟩, ⟨1, .p, [], []⟩, ⟨2, .p, [], []⟩, ⟨3, .n, [], []⟩, ⟨4, .n, [], []⟩, ⟨5, .n, [], []⟩, ⟨6, .c, [], []⟩] [0, 1, 3, 7, 0, 0, 63] mixed (by kernel_rfl) ?_
              simp -implicitDefEqProofs only [go_sem, Nat.reduceEqDiff, Nat.reduceLT, Nat.reduceAdd, Nat.reduceMul, Int.reduceEq, Int.reduceLT, Int.reduceLE, Int.reduceNe, Int.reduceBEq, Int.reduceToNat, ↓reduceIte, f5, f7, f14, f15, f70, f71, f72, f76, f77, f78, lp, l14, l17, ldK_agg]
              refine (vis_log hhfE.2.1 (by omega) hrz hzl (xs.getD j 0) (xs.getD (j + 1) 0)).mono ?_
              rintro r HE' ⟨rfl, rfl⟩
              obtain ⟨v, ev⟩ : ∃ v, v = visB 1 sts z.own z.xmax z.run (xs.getD j 0) (xs.getD (j + 1) 0) := ⟨_, rfl⟩
              rw [← ev]
              have hv : v = true → seesB 1 sts z.own z.xmax z.run (xs.getD j 0) = true ∧ (j + 1 < xs.length → seesB 1 sts z.own z.xmax z.run (xs.getD (j + 1) 0) = false) := by
                intro h
                rw [ev] at h
                unfold visB at h
                simp only [Bool.and_eq_true, Bool.or_eq_true, decide_eq_true_eq, Bool.not_eq_true'] at h
                refine ⟨h.1, fun hl => h.2.resolve_left ?_⟩
                have : xs.getD (j + 1) 0 = xs[j + 1] := by simp [hl]
                rw [this]; exact (hxs _ (List.getElem_mem hl)).1
              clear ev
              cases v
              · simp -implicitDefEqProofs only [go_sem, Nat.reduceEqDiff, Nat.reduceLT, Nat.reduceAdd, Nat.reduceMul, Int.reduceEq, Int.reduceLT, Int.reduceLE, Int.reduceNe, Int.reduceBEq, Int.reduceToNat, ↓reduceIte, f5, f7, f14, f15, f70, f71, f72, f76, f77, f78, e2]
                exact ⟨m2 - 1, by omega, j + 1, _, by omega, by simp -implicitDefEqProofs only [go_sem, Nat.reduceEqDiff, Nat.reduceLT, Nat.reduceAdd, Nat.reduceMul, Int.reduceEq, Int.reduceLT, Int.reduceLE, Int.reduceNe, Int.reduceBEq, Int.reduceToNat, ↓reduceIte, f5], by simp -implicitDefEqProofs only [go_sem, Nat.reduceEqDiff, Nat.reduceLT, Nat.reduceAdd, Nat.reduceMul, Int.reduceEq, Int.reduceLT, Int.reduceLE, Int.reduceNe, Int.reduceBEq, Int.reduceToNat, ↓reduceIte, f7, hv2], by simp -implicitDefEqProofs only [go_sem, Nat.reduceEqDiff, Nat.reduceLT, Nat.reduceAdd, Nat.reduceMul, Int.reduceEq, Int.reduceLT, Int.reduceLE, Int.reduceNe, Int.reduceBEq, Int.reduceToNat, ↓reduceIte, f14], by simp -implicitDefEqProofs only [go_sem, Nat.reduceEqDiff, Nat.reduceLT, Nat.reduceAdd, Nat.reduceMul, Int.reduceEq, Int.reduceLT, Int.reduceLE, Int.reduceNe, Int.reduceBEq, Int.reduceToNat, ↓reduceIte, f15, Bool.false_eq_true, if_false], by simp -implicitDefEqProofs only [go_sem, Nat.reduceEqDiff, Nat.reduceLT, Nat.reduceAdd, Nat.reduceMul, Int.reduceEq, Int.reduceLT, Int.reduceLE, Int.reduceNe, Int.reduceBEq, Int.reduceToNat, ↓reduceIte, f70], by simp -implicitDefEqProofs only [go_sem, Nat.reduceEqDiff, Nat.reduceLT, Nat.reduceAdd, Nat.reduceMul, Int.reduceEq, Int.reduceLT, Int.reduceLE, Int.reduceNe, Int.reduceBEq, Int.reduceToNat, ↓reduceIte, f71], by simp -implicitDefEqProofs only [go_sem, Nat.reduceEqDiff, Nat.reduceLT, Nat.reduceAdd, Nat.reduceMul, Int.reduceEq, Int.reduceLT, Int.reduceLE, Int.reduceNe, Int.reduceBEq, Int.reduceToNat, ↓reduceIte, f72], by simp -implicitDefEqProofs only [go_sem, Nat.reduceEqDiff, Nat.reduceLT, Nat.reduceAdd, Nat.reduceMul, Int.reduceEq, Int.reduceLT, Int.reduceLE, Int.reduceNe, Int.reduceBEq, Int.reduceToNat, ↓reduceIte, f76, hv2], by simp -implicitDefEqProofs only [go_sem, Nat.reduceEqDiff, Nat.reduceLT, Nat.reduceAdd, Nat.reduceMul, Int.reduceEq, Int.reduceLT, Int.reduceLE, Int.reduceNe, Int.reduceBEq, Int.reduceToNat, ↓reduceIte, f77], by simp -implicitDefEqProofs only [go_sem, Nat.reduceEqDiff, Nat.reduceLT, Nat.reduceAdd, Nat.reduceMul, Int.reduceEq, Int.reduceLT, Int.reduceLE, Int.reduceNe, Int.reduceBEq, Int.reduceToNat, ↓reduceIte], sE, hinvF hv⟩
              · simp -implicitDefEqProofs only [go_sem, Nat.reduceEqDiff, Nat.reduceLT, Nat.reduceAdd, Nat.reduceMul, Int.reduceEq, Int.reduceLT, Int.reduceLE, Int.reduceNe, Int.reduceBEq, Int.reduceToNat, ↓reduceIte, f5, f7, f14, f15, f70, f71, f72, f76, f77, f78, e2, hwrap]
                exact ⟨m2 - 1, by omega, j + 1, _, by omega, by simp -implicitDefEqProofs only [go_sem, Nat.reduceEqDiff, Nat.reduceLT, Nat.reduceAdd, Nat.reduceMul, Int.reduceEq, Int.reduceLT, Int.reduceLE, Int.reduceNe, Int.reduceBEq, Int.reduceToNat, ↓reduceIte, f5], by simp -implicitDefEqProofs only [go_sem, Nat.reduceEqDiff, Nat.reduceLT, Nat.reduceAdd, Nat.reduceMul, Int.reduceEq, Int.reduceLT, Int.reduceLE, Int.reduceNe, Int.reduceBEq, Int.reduceToNat, ↓reduceIte, f7, hv2], by simp -implicitDefEqProofs only [go_sem, Nat.reduceEqDiff, Nat.reduceLT, Nat.reduceAdd, Nat.reduceMul, Int.reduceEq, Int.reduceLT, Int.reduceLE, Int.reduceNe, Int.reduceBEq, Int.reduceToNat, ↓reduceIte, f14], by simp -implicitDefEqProofs only [go_sem, Nat.reduceEqDiff, Nat.reduceLT, Nat.reduceAdd, Nat.reduceMul, Int.reduceEq, Int.reduceLT, Int.reduceLE, Int.reduceNe, Int.reduceBEq, Int.reduceToNat, ↓reduceIte, f15, if_true], by simp -implicitDefEqProofs only [go_sem, Nat.reduceEqDiff, Nat.reduceLT, Nat.reduceAdd, Nat.reduceMul, Int.reduceEq, Int.reduceLT, Int.reduceLE, Int.reduceNe, Int.reduceBEq, Int.reduceToNat, ↓reduceIte, f70], by simp -implicitDefEqProofs only [go_sem, Nat.reduceEqDiff, Nat.reduceLT, Nat.reduceAdd, Nat.reduceMul, Int.reduceEq, Int.reduceLT, Int.reduceLE, Int.reduceNe, Int.reduceBEq, Int.reduceToNat, ↓reduceIte, f71], by simp -implicitDefEqProofs only [go_sem, Nat.reduceEqDiff, Nat.reduceLT, Nat.reduceAdd, Nat.reduceMul, Int.reduceEq, Int.reduceLT, Int.reduceLE, Int.reduceNe, Int.reduceBEq, Int.reduceToNat, ↓reduceIte, f72], by simp -implicitDefEqProofs only [go_sem, Nat.reduceEqDiff, Nat.reduceLT, Nat.reduceAdd, Nat.reduceMul, Int.reduceEq, Int.reduceLT, Int.reduceLE, Int.reduceNe, Int.reduceBEq, Int.reduceToNat, ↓reduceIte, f76, hv2], by simp -implicitDefEqProofs only [go_sem, Nat.reduceEqDiff, Nat.reduceLT, Nat.reduceAdd, Nat.reduceMul, Int.reduceEq, Int.reduceLT, Int.reduceLE, Int.reduceNe, Int.reduceBEq, Int.reduceToNat, ↓reduceIte, f77], by simp -implicitDefEqProofs only [go_sem, Nat.reduceEqDiff, Nat.reduceLT, Nat.reduceAdd, Nat.reduceMul, Int.reduceEq, Int.reduceLT, Int.reduceLE, Int.reduceNe, Int.reduceBEq, Int.reduceToNat, ↓reduceIte], sE, hinvF hv⟩
        · have e3 : decide ((0 : Int) < (j : Int)) = false := by rw [dec_pos, decide_eq_false_iff_not]; exact cj0
          have hnb : 0 < j → seesB 1 sts z.own z.xmax z.run (xs.getD j 0) = true → seesB 1 sts z.own z.xmax z.run (xs.getD (j - 1) 0) = true := fun h => absurd h cj0
          simp -implicitDefEqProofs only [go_sem, Nat.reduceEqDiff, Nat.reduceLT, Nat.reduceAdd, Nat.reduceMul, Int.reduceEq, Int.reduceLT, Int.reduceLE, Int.reduceNe, Int.reduceBEq, Int.reduceToNat, ↓reduceIte, f5, f7, f14, f15, f70, f71, f72, f76, f77, f78, e3, lp, l14, l17', ldK_agg]
          have hinvF : ∀ {v : Bool}, (v = true → seesB 1 sts z.own z.xmax z.run (xs.getD j 0) = true ∧ (j + 1 < xs.length → seesB 1 sts z.own z.xmax z.run (xs.getD (j + 1) 0) = false)) → OneInv xs (seesB 1 sts z.own z.xmax z.run) (j + 1) (if v = true then nn + 1 else nn) := fun {v} hv => hinv.next cj hnb v hv
          obtain ⟨n1, n2⟩ := hinv.le (by omega)
          have hwrap : IntKind.i64.wrap (nn + 1) = nn + 1 := by rw [i64_in] <;> omega
          refine vdraw_t [⟨0, .p, [], []⟩, ⟨1, .p, [], []⟩, ⟨2, .p, [], []⟩, ⟨3, .n, [], []⟩, ⟨4, .n, [], []⟩, ⟨5, .n, [], []⟩, ⟨6, .c, [], []⟩] [0, 1, 3, 7, 0, 0, 63] mixed (by kernel_rfl) ?_
          simp -implicitDefEqProofs only [go_sem, Nat.reduceEqDiff, Nat.reduceLT, Nat.reduceAdd, Nat.reduceMul, Int.reduceEq, Int.reduceLT, Int.reduceLE, Int.reduceNe, Int.reduceBEq, Int.reduceToNat, ↓reduceIte, f5, f7, f14, f15, f70, f71, f72, f76, f77, f78, lp, l14, l17, ldK_agg]
          refine (vis_log hhfE.2.1 (by omega) hrz hzl (xs.getD j 0) (xs.getD (j + 1) 0)).mono ?_
          rintro r HE' ⟨rfl, rfl⟩
          obtain ⟨v, ev⟩ : ∃ v, v = visB 1 sts z.own z.xmax z.run (xs.getD j 0) (xs.getD (j + 1) 0) := ⟨_, rfl⟩
          rw [← ev]
          have hv : v = true → seesB 1 sts z.own z.xmax z.run (xs.getD j 0) = true ∧ (j + 1 < xs.length → seesB 1 sts z.own z.xmax z.run (xs.getD (j + 1) 0) = false) := by
            intro h
            rw [ev] at h
            unfold visB at h
            simp only [Bool.and_eq_true, Bool.or_eq_true, decide_eq_true_eq, Bool.not_eq_true'] at h
            refine ⟨h.1, fun hl => h.2.resolve_left ?_⟩
            have : xs.getD (j + 1) 0 = xs[j + 1] := by simp [hl]
            rw [this]; exact (hxs _ (List.getElem_mem hl)).1
          clear ev
          cases v
          · simp -implicitDefEqProofs only [go_sem, Nat.reduceEqDiff, Nat.reduceLT, Nat.reduceAdd, Nat.reduceMul, Int.reduceEq, Int.reduceLT, Int.reduceLE, Int.reduceNe, Int.reduceBEq, Int.reduceToNat, ↓reduceIte, f5, f7, f14, f15, f70, f71, f72, f76, f77, f78, e2]
            exact ⟨m2 - 1, by omega, j + 1, _, by omega, by simp -implicitDefEqProofs only [go_sem, Nat.reduceEqDiff, Nat.reduceLT, Nat.reduceAdd, Nat.reduceMul, Int.reduceEq, Int.reduceLT, Int.reduceLE, Int.reduceNe, Int.reduceBEq, Int.reduceToNat, ↓reduceIte, f5], by simp -implicitDefEqProofs only [go_sem, Nat.reduceEqDiff, Nat.reduceLT, Nat.reduceAdd, Nat.reduceMul, Int.reduceEq, Int.reduceLT, Int.reduceLE, Int.reduceNe, Int.reduceBEq, Int.reduceToNat, ↓reduceIte, f7, hv2], by simp -implicitDefEqProofs only [go_sem, Nat.reduceEqDiff, Nat.reduceLT, Nat.reduceAdd, Nat.reduceMul, Int.reduceEq, Int.reduceLT, Int.reduceLE, Int.reduceNe, Int.reduceBEq, Int.reduceToNat, ↓reduceIte, f14], by simp -implicitDefEqProofs only [go_sem, Nat.reduceEqDiff, Nat.reduceLT, Nat.reduceAdd, Nat.reduceMul, Int.reduceEq, Int.reduceLT, Int.reduceLE, Int.reduceNe, Int.reduceBEq, Int.reduceToNat, ↓reduceIte, f15, Bool.false_eq_true, if_false], by simp -implicitDefEqProofs only [go_sem, Nat.reduceEqDiff, Nat.reduceLT, Nat.reduceAdd, Nat.reduceMul, Int.reduceEq, Int.reduceLT, Int.reduceLE, Int.reduceNe, Int.reduceBEq, Int.reduceToNat, ↓reduceIte, f70], by simp -implicitDefEqProofs only [go_sem, Nat.reduceEqDiff, Nat.reduceLT, Nat.reduceAdd, Nat.reduceMul, Int.reduceEq, Int.reduceLT, Int.reduceLE, Int.reduceNe, Int.reduceBEq, Int.reduceToNat, ↓reduceIte, f71], by simp -implicitDefEqProofs only [go_sem, Nat.reduceEqDiff, Nat.reduceLT, Nat.reduceAdd, Nat.reduceMul, Int.reduceEq, Int.reduceLT, Int.reduceLE, Int.reduceNe, Int.reduceBEq, Int.reduceToNat, ↓reduceIte, f72], by simp -implicitDefEqProofs only [go_sem, Nat.reduceEqDiff, Nat.reduceLT, Nat.reduceAdd, Nat.reduceMul, Int.reduceEq, Int.reduceLT, Int.reduceLE, Int.reduceNe, Int.reduceBEq, Int.reduceToNat, ↓reduceIte, f76, hv2], by simp -implicitDefEqProofs only [go_sem, Nat.reduceEqDiff, Nat.reduceLT, Nat.reduceAdd, Nat.reduceMul, Int.reduceEq, Int.reduceLT, Int.reduceLE, Int.reduceNe, Int.reduceBEq, Int.reduceToNat, ↓reduceIte, f77], by simp -implicitDefEqProofs only [go_sem, Nat.reduceEqDiff, Nat.reduceLT, Nat.reduceAdd, Nat.reduceMul, Int.reduceEq, Int.reduceLT, Int.reduceLE, Int.reduceNe, Int.reduceBEq, Int.reduceToNat, ↓reduceIte], sE, hinvF hv⟩
          · simp -implicitDefEqProofs only [go_sem, Nat.reduceEqDiff, Nat.reduceLT, Nat.reduceAdd, Nat.reduceMul, Int.reduceEq, Int.reduceLT, Int.reduceLE, Int.reduceNe, Int.reduceBEq, Int.reduceToNat, ↓reduceIte, f5, f7, f14, f15, f70, f71, f72, f76, f77, f78, e2, hwrap]
            exact ⟨m2 - 1, by omega, j + 1, _, by omega, by simp -implicitDefEqProofs only [go_sem, Nat.reduceEqDiff, Nat.reduceLT, Nat.reduceAdd, Nat.reduceMul, Int.reduceEq, Int.reduceLT, Int.reduceLE, Int.reduceNe, Int.reduceBEq, Int.reduceToNat, ↓reduceIte, f5], by simp -implicitDefEqProofs only [go_sem, Nat.reduceEqDiff, Nat.reduceLT, Nat.reduceAdd, Nat.reduceMul, Int.reduceEq, Int.reduceLT, Int.reduceLE, Int.reduceNe, Int.reduceBEq, Int.reduceToNat, ↓reduceIte, f7, hv2], by simp -implicitDefEqProofs only [go_sem, Nat.reduceEqDiff, Nat.reduceLT, Nat.reduceAdd, Nat.reduceMul, Int.reduceEq, Int.reduceLT, Int.reduceLE, Int.reduceNe, Int.reduceBEq, Int.reduceToNat, ↓reduceIte, f14], by simp -implicitDefEqProofs only [go_sem, Nat.reduceEqDiff, Nat.reduceLT, Nat.reduceAdd, Nat.reduceMul, Int.reduceEq, Int.reduceLT, Int.reduceLE, Int.reduceNe, Int.reduceBEq, Int.reduceToNat, ↓reduceIte, f15, if_true], by simp -implicitDefEqProofs only [go_sem, Nat.reduceEqDiff, Nat.reduceLT, Nat.reduceAdd, Nat.reduceMul, Int.reduceEq, Int.reduceLT, Int.reduceLE, Int.reduceNe, Int.reduceBEq, Int.reduceToNat, ↓reduceIte, f70], by simp -implicitDefEqProofs only [go_sem, Nat.reduceEqDiff, Nat.reduceLT, Nat.reduceAdd, Nat.reduceMul, Int.reduceEq, Int.reduceLT, Int.reduceLE, Int.reduceNe, Int.reduceBEq, Int.reduceToNat, ↓reduceIte, f71], by simp -implicitDefEqProofs only [go_sem, Nat.reduceEqDiff, Nat.reduceLT, Nat.reduceAdd, Nat.reduceMul, Int.reduceEq, Int.reduceLT, Int.reduceLE, Int.reduceNe, Int.reduceBEq, Int.reduceToNat, ↓reduceIte, f72], by simp -implicitDefEqProofs only [go_sem, Nat.reduceEqDiff, Nat.reduceLT, Nat.reduceAdd, Nat.reduceMul, Int.reduceEq, Int.reduceLT, Int.reduceLE, Int.reduceNe, Int.reduceBEq, Int.reduceToNat, ↓reduceIte, f76, hv2], by simp -implicitDefEqProofs only [go_sem, Nat.reduceEqDiff, Nat.reduceLT, Nat.reduceAdd, Nat.reduceMul, Int.reduceEq, Int.reduceLT, Int.reduceLE, Int.reduceNe, Int.reduceBEq, Int.reduceToNat, ↓reduceIte, f77], by simp -implicitDefEqProofs only [go_sem, Nat.reduceEqDiff, Nat.reduceLT, Nat.reduceAdd, Nat.reduceMul, Int.reduceEq, Int.reduceLT, Int.reduceLE, Int.reduceNe, Int.reduceBEq, Int.reduceToNat, ↓reduceIte], sE, hinvF hv⟩
      · have e1 : decide ((j : Int) < (xs.length : Int)) = false := by simp; omega
        have hn1 := (hinv.le (by omega)).1
        have e3 : decide ((1 : Int) < nn) = false := by rw [decide_eq_false_iff_not]; omega
        simp -implicitDefEqProofs only [go_sem, Nat.reduceEqDiff, Nat.reduceLT, Nat.reduceAdd, Nat.reduceMul, Int.reduceEq, Int.reduceLT, Int.reduceLE, Int.reduceNe, Int.reduceBEq, Int.reduceToNat, ↓reduceIte, f5, f7, f14, f15, f70, f71, f72, f76, f77, f78, e1, e3, d2]
        exact ⟨m - 1, by omega, i + 1, by omega, by simp -implicitDefEqProofs only [go_sem, Nat.reduceEqDiff, Nat.reduceLT, Nat.reduceAdd, Nat.reduceMul, Int.reduceEq, Int.reduceLT, Int.reduceLE, Int.reduceNe, Int.reduceBEq, Int.reduceToNat, ↓reduceIte, f5], by simp -implicitDefEqProofs only [go_sem, Nat.reduceEqDiff, Nat.reduceLT, Nat.reduceAdd, Nat.reduceMul, Int.reduceEq, Int.reduceLT, Int.reduceLE, Int.reduceNe, Int.reduceBEq, Int.reduceToNat, ↓reduceIte, f7, hlv], by simp -implicitDefEqProofs only [go_sem, Nat.reduceEqDiff, Nat.reduceLT, Nat.reduceAdd, Nat.reduceMul, Int.reduceEq, Int.reduceLT, Int.reduceLE, Int.reduceNe, Int.reduceBEq, Int.reduceToNat, ↓reduceIte, f70, hv1], by simp -implicitDefEqProofs only [go_sem, Nat.reduceEqDiff, Nat.reduceLT, Nat.reduceAdd, Nat.reduceMul, Int.reduceEq, Int.reduceLT, Int.reduceLE, Int.reduceNe, Int.reduceBEq, Int.reduceToNat, ↓reduceIte, f71], by simp -implicitDefEqProofs only [go_sem, Nat.reduceEqDiff, Nat.reduceLT, Nat.reduceAdd, Nat.reduceMul, Int.reduceEq, Int.reduceLT, Int.reduceLE, Int.reduceNe, Int.reduceBEq, Int.reduceToNat, ↓reduceIte], sA.trans (sC.trans sD)⟩
    · have d1 : decide ((i : Int) < (zs.length : Int)) = false := by simp; omega
      simp -implicitDefEqProofs only [go_sem, Nat.reduceEqDiff, Nat.reduceLT, Nat.reduceAdd, Nat.reduceMul, Int.reduceEq, Int.reduceLT, Int.reduceLE, Int.reduceNe, Int.reduceBEq, Int.reduceToNat, ↓reduceIte, f5, f7, f70, f71, f72, d1]
end Go.Proofs.Ytmpepacfnckadaa
