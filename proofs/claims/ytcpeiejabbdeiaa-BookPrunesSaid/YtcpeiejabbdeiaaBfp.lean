/-
  Who is first wins: the plain law, no program.
  Conditions: as each theorem states them.
-/
import Derived.Test.YtcpeiejabbdeiaaBke
namespace Go.Proofs.Ytcpeiejabbdeiaa
open Go Go.RowKit Go.Proofs.YtcpeiejabbdeiaaW
set_option maxRecDepth 100000
set_option linter.unusedSimpArgs false
set_option linter.unusedVariables false

theorem runs_st {sts : List Nat} {x : Nat} (h : x ∈ runs 1 sts) : stOf 1 sts (x : Int) = 1 := by
  unfold runs runsK at h
  simp only [List.mem_map, List.mem_filter, List.mem_range, beq_iff_eq] at h
  obtain ⟨k, ⟨hk, h1⟩, rfl⟩ := h
  rw [stOf, if_pos (by omega), show (((1 + k : Nat) : Int) - ((1 : Nat) : Int)).toNat = k by omega]
  exact h1
theorem others_mem {own x : Nat} {xs : List Nat} : x ∈ others own xs ↔ x ∈ xs ∧ x ≠ own := by
  unfold others; simp [List.mem_filter]
theorem stOf_set {f : Nat} {sts : List Nat} {k v : Nat} (hk : k < sts.length) (x : Nat) : stOf f (sts.set k v) (x : Int) = if x = f + k then v else stOf f sts (x : Int) := by
  by_cases e : x = f + k
  · rw [if_pos e, e, stOf, if_pos (by rw [List.length_set]; omega), show (((f + k : Nat) : Int) - (f : Int)).toNat = k by omega]
    simp [hk]
  · rw [if_neg e]
    unfold stOf
    rw [List.length_set]
    split
    · rw [List.getD_eq_getElem?_getD, List.getD_eq_getElem?_getD, List.getElem?_set_ne (by omega)]
    · rfl
theorem stOf_fin (sts : List Nat) (y v u : Nat) : stOf 1 (endSts 1 sts (y : Int) v) (u : Int) = if u = y ∧ stOf 1 sts (y : Int) = 1 then v else stOf 1 sts (u : Int) := by
  unfold endSts
  by_cases c : stOf 1 sts (y : Int) = 1
  · rw [if_pos c]
    obtain ⟨k, hy, hk, hk1⟩ := stOf_one (by omega) c
    rw [hy, show (((1 + k : Nat) : Int) - ((1 : Nat) : Int)).toNat = k by omega, stOf_set hk]
    by_cases e : u = 1 + k
    · rw [if_pos e, if_pos ⟨by omega, by rw [← hy]; exact c⟩]
    · rw [if_neg e, if_neg (fun q => e (by omega))]
  · rw [if_neg c, if_neg (fun q => c q.2)]
theorem stOf_zero (sts : List Nat) : stOf 1 sts ((0 : Nat) : Int) = 0 := by unfold stOf; rw [if_neg (by omega)]
theorem unseen {sts : List Nat} {z : Shot} {x : Nat} (h1 : x ≠ z.own) (h2 : stOf 1 sts (x : Int) ≠ 2) : seesB 1 sts z.own z.xmax z.run x = false := by
  unfold seesB; simp [h1, h2]
theorem seen_one {sts : List Nat} {z : Shot} (h1 : stOf 1 sts ((1 : Nat) : Int) = 2) (ho : z.own ≠ 1) (hz : stOf 1 z.old ((1 : Nat) : Int) = 2) (hl : 1 ≤ z.old.length) : seesB 1 sts z.own z.xmax z.run 1 = true := by
  unfold seesB
  have hc : z.run.contains 1 = false := by
    have : ¬ 1 ∈ z.run := fun hm => by
      unfold Shot.run at hm
      have := runs_st (others_mem.1 hm).1
      omega
    simpa using this
  rw [hc]
  have hx : decide (1 < z.xmax) = true := by unfold Shot.xmax; simp; omega
  rw [hx]
  simp only [Bool.true_and, Bool.not_false]
  rw [show decide (stOf 1 sts ((1 : Nat) : Int) = 2) = true by rw [h1]; rfl, Bool.or_true]

abbrev nT : ByteArray := ⟨#[116]⟩
structure FInv (first drop : Bool) (i k : Nat) (st : List Nat) (ts : List Tb) : Prop where
  len : st.length = 1 + k
  one : stOf 1 st ((1 : Nat) : Int) = 2
  run : ∀ j, i ≤ j → j < k → stOf 1 st ((2 + j : Nat) : Int) = 1
  old : ∀ j, j < i → stOf 1 st ((2 + j : Nat) : Int) = 1 ∨ stOf 1 st ((2 + j : Nat) : Int) = 3
  made : drop = false → (∀ t ∈ ts, t.e.xmax = 0 ∧ t.e.name = nT ∧ ∃ j, j < i ∧ t.e.xmin = 2 + j ∧ (first = true → stOf 1 st ((2 + j : Nat) : Int) = 3)) ∧ (first = false → ∃ t ∈ ts, stOf 1 st (t.e.xmin : Int) = 1) ∧ ts.length ≤ i
  gone : drop = true → ∃ t, ts = [t] ∧ t.e.name = nT ∧ t.e.xmin = 1 ∧ (t.e.xmax = 0 ∧ first = true ∨ ∃ j, j < i ∧ t.e.xmax = 2 + j ∧ stOf 1 st ((2 + j : Nat) : Int) = if first = true then 3 else 1)
theorem nT_self : (nT.toList == nT.toList) = true := by decide +kernel
theorem nameB_t : nameB nT = true := by decide +kernel

theorem FInv.create {first : Bool} {i k : Nat} {st : List Nat} {ts : List Tb} (h : FInv first false i k st ts) {z : Shot} (ho : z.own = 2 + i) (hi : i < k) (hk : k ≤ 9) : createC st z ts [] nT = if first = true then 0 else 11 := by
  obtain ⟨hm, hf, hl⟩ := h.made rfl
  have nohit : ts.any (hitT st z nT) = false := by
    rw [List.any_eq_false]
    intro t ht
    obtain ⟨a, b, j, hj, hx, _⟩ := hm t ht
    have hs : seesB 1 st z.own z.xmax z.run t.e.xmin = false := by
      rw [hx]
      exact unseen (by omega) (by rcases h.old j hj with e | e <;> omega)
    unfold hitT visE visB
    rw [hs]; simp
  have conf : ts.any (confT st z nT) = !first := by
    cases first with
    | true =>
      show _ = false
      rw [List.any_eq_false]
      intro t ht
      obtain ⟨a, b, j, hj, hx, h3⟩ := hm t ht
      have : aliveE st t.e = false := by unfold aliveE; rw [hx, h3 rfl]; rfl
      unfold confT; rw [this]; simp
    | false =>
      show _ = true
      obtain ⟨t, ht, h1⟩ := hf rfl
      obtain ⟨a, b, j, hj, hx, h3⟩ := hm t ht
      rw [List.any_eq_true]
      refine ⟨t, ht, ?_⟩
      have : aliveE st t.e = true := by unfold aliveE; rw [h1, a, stOf_zero]; rfl
      unfold confT nmE
      rw [this, b, nT_self, a, ho]
      simp
      omega
  unfold createC takenC
  rw [nohit, conf, nameB_t]
  cases first with
  | true => simp; omega
  | false => simp
theorem FInv.drop {first : Bool} {i k : Nat} {st : List Nat} {ts : List Tb} (h : FInv first true i k st ts) {z : Shot} (ho : z.own = 2 + i) (hz : stOf 1 z.old ((1 : Nat) : Int) = 2) (hl : 1 ≤ z.old.length) (hi : i < k) :
    ∃ t, ts = [t] ∧ findT st z ts nT = some t ∧ dropTC st z ts [] nT = if first = true then 0 else 11 := by
  obtain ⟨t, rfl, hn, hx, hc⟩ := h.gone rfl
  have s1 := seen_one h.one (by omega) hz hl
  have hxm : t.e.xmax = 0 ∨ seesB 1 st z.own z.xmax z.run t.e.xmax = false := by
    rcases hc with ⟨e, _⟩ | ⟨j, hj, e, _⟩
    · exact .inl e
    · right
      rw [e]
      exact unseen (by omega) (by rcases h.old j hj with e | e <;> omega)
  have hv : visE st z t.e = true := by
    unfold visE visB
    rw [hx, s1]
    rcases hxm with e | e
    · rw [e]; rfl
    · rw [e]; simp
  have hf : findT st z [t] nT = some t := by
    unfold findT
    rw [List.find?_cons_of_pos (by rw [hn, nT_self, hv]; rfl)]
  refine ⟨t, rfl, hf, ?_⟩
  have hfr : freeE st z t.e = if first = true then 0 else 11 := by
    unfold freeE freeC
    have hv' : visB 1 st z.own z.xmax z.run t.e.xmin t.e.xmax = true := hv
    rw [hv']
    rcases hc with ⟨e, rfl⟩ | ⟨j, hj, e, hs⟩
    · rw [e]; rfl
    · have a1 : decide (¬ t.e.xmax = 0) = true := by rw [e]; simp
      have a2 : decide (¬ t.e.xmax = z.own) = true := by rw [e, ho]; simp; omega
      rw [a1, a2, e, hs]
      cases first <;> rfl
  unfold dropTC
  rw [hf]
  unfold endC esT
  simp only [List.filter_nil, List.map_nil, List.any_cons, List.any_nil, Bool.or_false, hfr]
  cases first <;> rfl

/-! ### Steps -/
theorem FInv.fail {drop : Bool} {i k : Nat} {st : List Nat} {ts : List Tb} (h : FInv false drop i k st ts) (hi : i < k) : FInv false drop (i + 1) k st ts := by
  refine ⟨h.len, h.one, fun j h1 h2 => h.run j (by omega) h2, fun j hj => ?_, fun hd => ?_, fun hd => ?_⟩
  · by_cases e : j = i
    · exact .inl (h.run j (by omega) (by omega))
    · exact h.old j (by omega)
  · obtain ⟨a, b, c⟩ := h.made hd
    refine ⟨fun t ht => ?_, b, by omega⟩
    obtain ⟨q1, q2, j, hj, q3, q4⟩ := a t ht
    exact ⟨q1, q2, j, by omega, q3, q4⟩
  · obtain ⟨t, q1, q2, q3, q4⟩ := h.gone hd
    refine ⟨t, q1, q2, q3, ?_⟩
    rcases q4 with ⟨_, q⟩ | ⟨j, hj, q5, q6⟩
    · cases q
    · exact .inr ⟨j, by omega, q5, q6⟩
/-- The step that wins: made or dropped by the one that is i-th. -/
def FStep (drop : Bool) (i : Nat) (ts ts' : List Tb) : Prop :=
  (drop = false → ∃ t, ts' = ts ++ [t] ∧ t.e.name = nT ∧ t.e.xmin = 2 + i ∧ t.e.xmax = 0) ∧ (drop = true → ∃ t t', ts = [t] ∧ ts' = [t'] ∧ t'.e.name = t.e.name ∧ t'.e.xmin = t.e.xmin ∧ t'.e.xmax = 2 + i)
theorem FInv.win {drop : Bool} {i k : Nat} {st : List Nat} {ts ts' : List Tb} (h : FInv true drop i k st ts) (hi : i < k) (hs : FStep drop i ts ts') : FInv false drop (i + 1) k st ts' := by
  have hr := h.run i (by omega) hi
  refine ⟨h.len, h.one, fun j h1 h2 => h.run j (by omega) h2, fun j hj => ?_, fun hd => ?_, fun hd => ?_⟩
  · by_cases e : j = i
    · exact .inl (h.run j (by omega) (by omega))
    · exact h.old j (by omega)
  · obtain ⟨a, b, c⟩ := h.made hd
    obtain ⟨t, rfl, n1, n2, n3⟩ := hs.1 hd
    refine ⟨fun t' ht' => ?_, fun _ => ⟨t, by simp, by rw [n2]; exact hr⟩, by simp; omega⟩
    simp only [List.mem_append, List.mem_singleton] at ht'
    rcases ht' with ht' | rfl
    · obtain ⟨q1, q2, j, hj, q3, q4⟩ := a t' ht'
      exact ⟨q1, q2, j, by omega, q3, fun h => by cases h⟩
    · exact ⟨n3, n1, i, by omega, n2, fun h => by cases h⟩
  · obtain ⟨t0, q1, q2, q3, q4⟩ := h.gone hd
    obtain ⟨t, t', n1, n2, n3, n4, n5⟩ := hs.2 hd
    rw [q1] at n1
    obtain rfl : t0 = t := by simpa using n1
    exact ⟨t', n2, by rw [n3, q2], by rw [n4, q3], .inr ⟨i, by omega, n5, by rw [hr]; rfl⟩⟩
theorem FInv.lose {drop : Bool} {i k : Nat} {st : List Nat} {ts ts' : List Tb} (h : FInv true drop i k st ts) (hi : i < k) (hs : FStep drop i ts ts') : FInv true drop (i + 1) k (endSts 1 st ((2 + i : Nat) : Int) 3) ts' := by
  have hr := h.run i (by omega) hi
  have sf := fun u => stOf_fin st (2 + i) 3 u
  have s1 : ∀ u, u ≠ 2 + i → stOf 1 (endSts 1 st ((2 + i : Nat) : Int) 3) (u : Int) = stOf 1 st (u : Int) := fun u hu => by rw [sf, if_neg (fun q => hu q.1)]
  have s2 : stOf 1 (endSts 1 st ((2 + i : Nat) : Int) 3) ((2 + i : Nat) : Int) = 3 := by rw [sf, if_pos ⟨rfl, hr⟩]
  refine ⟨by rw [endSts_len]; exact h.len, by rw [s1 1 (by omega)]; exact h.one, fun j h1 h2 => by rw [s1 (2 + j) (by omega)]; exact h.run j (by omega) h2, fun j hj => ?_, fun hd => ?_, fun hd => ?_⟩
  · by_cases e : j = i
    · rw [e]; exact .inr s2
    · rw [s1 (2 + j) (by omega)]; exact h.old j (by omega)
  · obtain ⟨a, b, c⟩ := h.made hd
    obtain ⟨t, rfl, n1, n2, n3⟩ := hs.1 hd
    refine ⟨fun t' ht' => ?_, fun h => (by cases h), by simp; omega⟩
    simp only [List.mem_append, List.mem_singleton] at ht'
    rcases ht' with ht' | rfl
    · obtain ⟨q1, q2, j, hj, q3, q4⟩ := a t' ht'
      exact ⟨q1, q2, j, by omega, q3, fun _ => by rw [s1 (2 + j) (by omega)]; exact q4 rfl⟩
    · exact ⟨n3, n1, i, by omega, n2, fun _ => s2⟩
  · obtain ⟨t0, q1, q2, q3, q4⟩ := h.gone hd
    obtain ⟨t, t', n1, n2, n3, n4, n5⟩ := hs.2 hd
    rw [q1] at n1
    obtain rfl : t0 = t := by simpa using n1
    exact ⟨t', n2, by rw [n3, q2], by rw [n4, q3], .inr ⟨i, by omega, n5, by rw [s2]; rfl⟩⟩
end Go.Proofs.Ytcpeiejabbdeiaa
