/-
  What is dead stays so: the plain law, no program.
  Conditions: as each theorem states them.
-/
import Derived.Test.YtmpepacfnckadaaSon
import Derived.Test.YtmpepacfnckadaaRuns
namespace Go.Proofs.Ytmpepacfnckadaa
open Go Go.RowKit Go.Proofs.YtmpepacfnckadaaW
set_option maxRecDepth 100000
set_option linter.unusedSimpArgs false
set_option linter.unusedVariables false

abbrev Live := Nat → Option Shot
def allOf (lv : Live) (k : Nat) : List Shot := (List.range k).filterMap lv
theorem allOf_succ (lv : Live) (k : Nat) : allOf lv (k + 1) = allOf lv k ++ (lv k).toList := by
  unfold allOf
  rw [List.range_succ, List.filterMap_append]
  cases h : lv k <;> simp [h]
theorem allOf_len (lv : Live) (k : Nat) : (allOf lv k).length ≤ k := by
  unfold allOf
  have := List.length_filterMap_le lv (List.range k)
  simpa using this
theorem mem_allOf {lv : Live} {k : Nat} {z : Shot} : z ∈ allOf lv k ↔ ∃ x, x < k ∧ lv x = some z := by
  unfold allOf
  simp [List.mem_filterMap]
def cv (z : Shot) : Value := .agg #[.int .u64 (z.own : Int), .int .u64 (z.xmin : Int), .int .u64 (z.xmax : Int), z.v]
def RDead (sts : List Nat) (lv : Live) (t : Nat × Nat) : Prop :=
  stOf 1 sts (t.1 : Int) = 3 ∨ (t.2 ≠ 0 ∧ stOf 1 sts (t.2 : Int) = 2 ∧ ∀ x z, lv x = some z → t.2 < z.xmin)
structure RestOk (sts : List Nat) (ps : Ents) (lv : Live) (ts : List (Nat × Nat)) : Prop where
  get : ∀ x : Nat, ps.get (x : Int) = (lv x).map cv
  live : ∀ x z, lv x = some z → stOf 1 sts (x : Int) = 1 ∧ z.own = x ∧ z.old.length = x
  runs : ∀ x : Nat, stOf 1 sts (x : Int) = 1 → ∃ z, lv x = some z
  dead : ∀ t ∈ ts, RDead sts lv t
  nodup : ps.keys.Nodup

theorem stOf_lt {sts : List Nat} {x v : Nat} (hv : 0 < v) (h : stOf 1 sts (x : Int) = v) : 1 ≤ x ∧ x ≤ sts.length := by
  unfold stOf at h
  split at h <;> omega
theorem hzn_lt {n t : Nat} {xs : List Nat} (h0 : t < n) (h : ∀ x ∈ xs, t < x) : t < hzn n xs := by
  cases xs with
  | nil => exact h0
  | cons a xs =>
    unfold hzn
    have : ∀ (ys : List Nat) (b : Nat), t < b → (∀ y ∈ ys, t < y) → t < ys.foldl min b := by
      intro ys
      induction ys with
      | nil => intro b hb _; exact hb
      | cons y ys ih =>
        intro b hb hy
        exact ih (min b y) (by have := hy y (by simp); omega) (fun u hu => hy u (by simp [hu]))
    exact this xs a (h a (by simp)) (fun y hy => h y (by simp [hy]))
theorem hzn_le {n x : Nat} {xs : List Nat} (h : x ∈ xs) : hzn n xs ≤ x := by
  cases xs with
  | nil => cases h
  | cons a xs =>
    unfold hzn
    have := foldl_min_le xs a
    rcases List.mem_cons.1 h with rfl | h
    · exact this.1
    · exact this.2 x h
theorem least_lt {n t : Nat} {xs : List Nat} (h0 : t < n) (h : ∀ x ∈ xs, t < x) : t < least n xs := by
  unfold least
  induction xs generalizing n with
  | nil => exact h0
  | cons a xs ih => exact ih (by have := h a (by simp); omega) (fun x hx => h x (by simp [hx]))
theorem others_mem {own x : Nat} {xs : List Nat} : x ∈ others own xs ↔ x ∈ xs ∧ x ≠ own := by
  unfold others; simp [List.mem_filter]
theorem runs_st {sts : List Nat} {x : Nat} (h : x ∈ runs 1 sts) : stOf 1 sts (x : Int) = 1 := by
  unfold runs runsK at h
  simp only [List.mem_map, List.mem_filter, List.mem_range, beq_iff_eq] at h
  obtain ⟨k, ⟨hk, h1⟩, rfl⟩ := h
  rw [stOf, if_pos (by omega), show (((1 + k : Nat) : Int) - ((1 : Nat) : Int)).toNat = k by omega]
  exact h1
theorem Shot.xmin_le (z : Shot) : z.xmin ≤ z.xmax := least_le _ _

theorem RestOk.begin {sts : List Nat} {ps : Ents} {lv : Live} {ts : List (Nat × Nat)} (h : RestOk sts ps lv ts) (v t : Value) :
    RestOk (sts ++ [1]) (ps.put ((1 + sts.length : Nat) : Int) (cv ⟨1 + sts.length, sts ++ [1], v, t⟩)) (fun y => if y = 1 + sts.length then some ⟨1 + sts.length, sts ++ [1], v, t⟩ else lv y) ts := by
  have st : ∀ y : Nat, stOf 1 (sts ++ [1]) (y : Int) = if y = 1 + sts.length then 1 else stOf 1 sts (y : Int) := fun y => stOf_push y
  refine ⟨fun y => ?_, fun y z hz => ?_, fun y hy => ?_, fun t ht => ?_, Ents.nodup_put _ _ h.nodup⟩
  · rw [Ents.get_put]
    by_cases e : y = 1 + sts.length
    · rw [if_pos (by rw [e]), if_pos e]; rfl
    · rw [if_neg (by omega), if_neg e]; exact h.get y
  · rw [st]
    by_cases e : y = 1 + sts.length
    · rw [if_pos e] at hz ⊢
      cases hz
      exact ⟨rfl, e.symm, by simp [e]; omega⟩
    · rw [if_neg e] at hz ⊢
      exact h.live y z hz
  · rw [st] at hy
    by_cases e : y = 1 + sts.length
    · exact ⟨_, if_pos e⟩
    · rw [if_neg e] at hy
      obtain ⟨z, hz⟩ := h.runs y hy
      exact ⟨z, by rw [if_neg e]; exact hz⟩
  · have hd := h.dead t ht
    unfold RDead at hd ⊢
    rcases hd with hd | ⟨h0, h2, hl⟩
    · left
      have := stOf_lt (by omega) hd
      rw [st, if_neg (by omega)]; exact hd
    · right
      have hr := stOf_lt (by omega) h2
      refine ⟨h0, by rw [st, if_neg (by omega)]; exact h2, fun y z hz => ?_⟩
      dsimp only at hz
      by_cases e : y = 1 + sts.length
      · rw [if_pos e] at hz
        cases hz
        unfold Shot.xmin
        refine least_lt (by unfold Shot.xmax; simp; omega) fun u hu => ?_
        unfold Shot.run at hu
        simp only [] at hu
        obtain ⟨hu1, hu2⟩ := others_mem.1 hu
        have hs := runs_st hu1
        rw [st, if_neg hu2] at hs
        obtain ⟨zu, hzu⟩ := h.runs u hs
        have h5 := hl u zu hzu
        obtain ⟨_, _, ho⟩ := h.live u zu hzu
        have := zu.xmin_le
        unfold Shot.xmax at this
        have hne : t.2 ≠ u := fun e => by rw [e, hs] at h2; omega
        omega
      · rw [if_neg e] at hz
        exact hl y z hz
theorem RestOk.fin {sts : List Nat} {ps : Ents} {lv : Live} {ts : List (Nat × Nat)} (h : RestOk sts ps lv ts) (y v : Nat) (hv : v ≠ 1) :
    RestOk (endSts 1 sts (y : Int) v) (ps.del (y : Int)) (fun u => if u = y then none else lv u) ts := by
  have st : ∀ u : Nat, stOf 1 (endSts 1 sts (y : Int) v) (u : Int) = if u = y ∧ stOf 1 sts (y : Int) = 1 then v else stOf 1 sts (u : Int) := by
    intro u
    unfold endSts
    by_cases c : stOf 1 sts (y : Int) = 1
    · rw [if_pos c]
      obtain ⟨k, hy, hk, hk1⟩ := stOf_one (by omega) c
      have hyk : y = 1 + k := by omega
      rw [hy, show (((1 + k : Nat) : Int) - ((1 : Nat) : Int)).toNat = k by omega, stOf_set hk]
      by_cases e : u = 1 + k
      · rw [if_pos e, if_pos ⟨by omega, by rw [← hy]; exact c⟩]
      · rw [if_neg e, if_neg (fun q => e (by omega))]
    · rw [if_neg c, if_neg (fun q => c q.2)]
  have dead : ∀ u : Nat, ∀ w, w ≠ 1 → stOf 1 sts (u : Int) = w → stOf 1 (endSts 1 sts (y : Int) v) (u : Int) = w := by
    intro u w hw hu
    rw [st, if_neg (fun q => by rw [q.1] at hu; rw [q.2] at hu; exact hw hu.symm)]; exact hu
  refine ⟨fun u => ?_, fun u z hz => ?_, fun u hu => ?_, fun t ht => ?_, Ents.nodup_del _ h.nodup⟩
  · rw [Ents.get_del _ _ h.nodup]
    by_cases e : u = y
    · rw [if_pos (by rw [e]), if_pos e]; rfl
    · rw [if_neg (by omega), if_neg e]; exact h.get u
  · by_cases e : u = y
    · rw [if_pos e] at hz; cases hz
    · rw [if_neg e] at hz
      rw [st, if_neg (fun q => e q.1)]
      exact h.live u z hz
  · rw [st] at hu
    by_cases e : u = y ∧ stOf 1 sts (y : Int) = 1
    · rw [if_pos e] at hu; exact absurd hu hv
    · rw [if_neg e] at hu
      have hne : u ≠ y := fun q => e ⟨q, by rw [← q]; exact hu⟩
      obtain ⟨z, hz⟩ := h.runs u hu
      exact ⟨z, by rw [if_neg hne]; exact hz⟩
  · have hd := h.dead t ht
    unfold RDead at hd ⊢
    rcases hd with hd | ⟨h0, h2, hl⟩
    · left; exact dead _ 3 (by omega) hd
    · refine .inr ⟨h0, dead _ 2 (by omega) h2, fun u z hz => ?_⟩
      dsimp only at hz
      by_cases e : u = y
      · rw [if_pos e] at hz; cases hz
      · rw [if_neg e] at hz; exact hl u z hz
theorem RestOk.check {sts : List Nat} {ps : Ents} {lv : Live} {ts : List (Nat × Nat)} (h : RestOk sts ps lv ts) {t : Nat × Nat} (ht : t ∈ ts) (k : Nat) :
    deadB 1 sts t.1 t.2 (hzn (1 + sts.length) ((allOf lv k).map Shot.xmin)) = true := by
  have hd := h.dead t ht
  unfold RDead at hd
  unfold deadB
  simp only [Bool.or_eq_true, Bool.and_eq_true, decide_eq_true_eq]
  rcases hd with hd | ⟨h0, h2, hl⟩
  · exact .inl hd
  · have := stOf_lt (by omega) h2
    refine .inr ⟨⟨h0, h2⟩, hzn_lt (by omega) fun x hx => ?_⟩
    rw [List.mem_map] at hx
    obtain ⟨z, hz, rfl⟩ := hx
    obtain ⟨u, _, hu⟩ := mem_allOf.1 hz
    exact hl u z hu
theorem RestOk.more {sts : List Nat} {ps : Ents} {lv : Live} {ts : List (Nat × Nat)} (h : RestOk sts ps lv ts) {a b k : Nat} (hk : sts.length < k)
    (hd : deadB 1 sts a b (hzn (1 + sts.length) ((allOf lv k).map Shot.xmin)) = true) : RestOk sts ps lv (ts ++ [(a, b)]) := by
  refine ⟨h.get, h.live, h.runs, fun t ht => ?_, h.nodup⟩
  simp only [List.mem_append, List.mem_singleton] at ht
  rcases ht with ht | rfl
  · exact h.dead t ht
  · unfold deadB at hd
    simp only [Bool.or_eq_true, Bool.and_eq_true, decide_eq_true_eq] at hd
    unfold RDead
    rcases hd with hd | ⟨⟨h0, h2⟩, hl⟩
    · exact .inl hd
    · refine .inr ⟨h0, h2, fun x z hz => ?_⟩
      obtain ⟨h1, _, _⟩ := h.live x z hz
      have := stOf_lt (by omega) h1
      have hm : z.xmin ∈ (allOf lv k).map Shot.xmin := List.mem_map.2 ⟨z, mem_allOf.2 ⟨x, by omega, hz⟩, rfl⟩
      have := hzn_le (n := 1 + sts.length) hm
      omega
end Go.Proofs.Ytmpepacfnckadaa
