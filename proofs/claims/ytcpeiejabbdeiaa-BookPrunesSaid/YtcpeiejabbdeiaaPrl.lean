/-
  What Prune takes away, no live snapshot saw: the plain law, no program.
  Conditions: as each theorem states them.
-/
import Derived.Test.YtcpeiejabbdeiaaPrw
import Derived.Test.YtcpeiejabbdeiaaBfp
namespace Go.Proofs.Ytcpeiejabbdeiaa
open Go Go.RowKit Go.Proofs.YtcpeiejabbdeiaaW
set_option maxRecDepth 100000
set_option linter.unusedSimpArgs false
set_option linter.unusedVariables false

theorem foldl_min_le : ∀ (xs : List Nat) (n : Nat), xs.foldl min n ≤ n ∧ ∀ x ∈ xs, xs.foldl min n ≤ x
  | [], n => ⟨Nat.le_refl _, fun x hx => by cases hx⟩
  | a :: xs, n => by
    obtain ⟨h1, h2⟩ := foldl_min_le xs (min n a)
    refine ⟨Nat.le_trans h1 (Nat.min_le_left _ _), fun x hx => ?_⟩
    rcases List.mem_cons.1 hx with rfl | hx
    · exact Nat.le_trans h1 (Nat.min_le_right _ _)
    · exact h2 x hx
theorem least_mem_le {n : Nat} {xs : List Nat} {x : Nat} (h : x ∈ xs) : least n xs ≤ x := (foldl_min_le xs n).2 x h
theorem hzn_le {n x : Nat} {xs : List Nat} (h : x ∈ xs) : hzn n xs ≤ x := by
  cases xs with
  | nil => cases h
  | cons a xs =>
    unfold hzn
    have := foldl_min_le xs a
    rcases List.mem_cons.1 h with rfl | h
    · exact this.1
    · exact this.2 x h
theorem Shot.xmin_le (z : Shot) : z.xmin ≤ z.xmax := least_le _ _
/-- Who is gone is seen by no live snapshot. -/
theorem dead_hid {sts : List Nat} {n : Nat} {zs : List Shot} {z : Shot} (hz : z ∈ zs) (ho : stOf 1 sts (z.own : Int) = 1) {e : En} (hd : deadE sts (hzn n (zs.map Shot.xmin)) e = true) : visE sts z e = false := by
  have h1 : hzn n (zs.map Shot.xmin) ≤ z.xmin := hzn_le (List.mem_map.2 ⟨z, hz, rfl⟩)
  have h2 := z.xmin_le
  unfold deadE deadB at hd
  simp only [Bool.or_eq_true, Bool.and_eq_true, decide_eq_true_eq] at hd
  unfold visE visB
  rcases hd with hd | ⟨⟨h0, hx⟩, h3⟩
  · have e1 : seesB 1 sts z.own z.xmax z.run e.xmin = false := by
      unfold seesB; rw [hd]
      have : e.xmin ≠ z.own := fun c => by rw [c, ho] at hd; cases hd
      simp [this]
    rw [e1]; rfl
  · have hr : z.run.contains e.xmax = false := by
      have : ¬ e.xmax ∈ z.run := fun hm => by
        have h3 : z.xmin ≤ e.xmax := least_mem_le (n := z.xmax) hm
        omega
      simpa using this
    have e1 : seesB 1 sts z.own z.xmax z.run e.xmax = true := by
      unfold seesB; rw [hx, hr]
      have : e.xmax < z.xmax := by omega
      simp [this]
    rw [e1]; simp [h0]

theorem find_filter {α : Type} {p q : α → Bool} : ∀ {l : List α}, (∀ x ∈ l, q x = true → p x = true) → (l.filter p).find? q = l.find? q
  | [], _ => rfl
  | a :: l, h => by
    have ih := find_filter (p := p) (q := q) (l := l) fun x hx => h x (by simp [hx])
    by_cases hp : p a = true
    · rw [List.filter_cons_of_pos hp]
      by_cases hq : q a = true
      · rw [List.find?_cons_of_pos hq, List.find?_cons_of_pos hq]
      · rw [List.find?_cons_of_neg hq, List.find?_cons_of_neg hq, ih]
    · rw [List.filter_cons_of_neg hp]
      have hq : ¬ q a = true := fun c => hp (h a (by simp) c)
      rw [List.find?_cons_of_neg hq, ih]
theorem filter_filter_of {α : Type} {p q q' : α → Bool} : ∀ {l : List α}, (∀ x ∈ l, q x = true → p x = true) → (∀ x ∈ l, q' x = q x) → (l.filter p).filter q' = l.filter q
  | [], _, _ => rfl
  | a :: l, h, h' => by
    have ih := filter_filter_of (p := p) (q := q) (q' := q') (l := l) (fun x hx => h x (by simp [hx])) fun x hx => h' x (by simp [hx])
    have ha := h' a (by simp)
    by_cases hp : p a = true
    · rw [List.filter_cons_of_pos hp, List.filter_cons, ha, List.filter_cons, ih]
    · have hq : ¬ q a = true := fun c => hp (h a (by simp) c)
      rw [List.filter_cons_of_neg hp, List.filter_cons_of_neg hq, ih]
theorem id_uniq {ts : List Tb} (h : (ts.map fun t => t.e.id).Nodup) {t u : Tb} (ht : t ∈ ts) (hu : u ∈ ts) (he : t.e.id = u.e.id) : t = u := by
  induction ts with
  | nil => cases ht
  | cons a ts ih =>
    simp only [List.map_cons, List.nodup_cons, List.mem_map, not_exists, not_and] at h
    rcases List.mem_cons.1 ht with e1 | ht'
    · rcases List.mem_cons.1 hu with e2 | hu'
      · rw [e1, e2]
      · rw [e1] at he; exact absurd he.symm (h.1 u hu')
    · rcases List.mem_cons.1 hu with e2 | hu'
      · rw [e2] at he; exact absurd he (h.1 t ht')
      · exact ih h.2 ht' hu'
section
variable {sts : List Nat} {z : Shot} {ts : List Tb} {xs : List Ix} {h : Nat}
def keepT (sts : List Nat) (h : Nat) (ts : List Tb) : List Tb := ts.filter fun t => !deadE sts h t.e
def keepX (sts : List Nat) (h : Nat) (ts : List Tb) (xs : List Ix) : List Ix := xs.filter fun x => !dX sts h (tabsOf sts h ts) x
theorem prune_find (hd : ∀ e, deadE sts h e = true → visE sts z e = false) (name : ByteArray) : findT sts z (keepT sts h ts) name = findT sts z ts name := by
  unfold findT keepT
  refine find_filter fun t ht hq => ?_
  simp only [Bool.and_eq_true] at hq
  cases hdd : deadE sts h t.e with
  | false => rfl
  | true => rw [hd _ hdd] at hq; cases hq.2
theorem prune_shown (hd : ∀ e, deadE sts h e = true → visE sts z e = false) (hu : (ts.map fun t => t.e.id).Nodup) (x : Ix) : shownB sts z (keepT sts h ts) x = shownB sts z ts x := by
  unfold shownB
  cases ho : ofB ts x.tab with
  | none =>
    have : ofB (keepT sts h ts) x.tab = none := by
      unfold ofB at ho ⊢
      rw [List.find?_eq_none] at ho ⊢
      exact fun t ht => ho t (List.mem_filter.1 ht).1
    rw [this]
  | some t =>
    obtain ⟨htm, hid⟩ := ofB_mem ho
    cases hdd : deadE sts h t.e with
    | false =>
      have : ofB (keepT sts h ts) x.tab = some t := by
        have hk : t ∈ keepT sts h ts := List.mem_filter.2 ⟨htm, by rw [hdd]; rfl⟩
        cases hq : ofB (keepT sts h ts) x.tab with
        | none =>
          unfold ofB at hq
          rw [List.find?_eq_none] at hq
          exact absurd (by simpa using hid) (hq t hk)
        | some u =>
          obtain ⟨hum, hui⟩ := ofB_mem hq
          rw [id_uniq hu (List.mem_filter.1 hum).1 htm (by omega)]
      rw [this]
    | true =>
      have : ofB (keepT sts h ts) x.tab = none := by
        unfold ofB
        rw [List.find?_eq_none]
        intro u hum hui
        obtain ⟨h1, h2⟩ := List.mem_filter.1 hum
        have := id_uniq hu h1 htm (by simp only [decide_eq_true_eq] at hui; omega)
        rw [this, hdd] at h2; cases h2
      rw [this]
      simp only [hd _ hdd, Bool.and_false]
theorem prune_idx (hd : ∀ e, deadE sts h e = true → visE sts z e = false) (hu : (ts.map fun t => t.e.id).Nodup) (of : Nat) : (keepX sts h ts xs).filter (idxP sts z (keepT sts h ts) of) = xs.filter (idxP sts z ts of) := by
  unfold keepX
  refine filter_filter_of (fun x hx hq => ?_) fun x hx => by unfold idxP; rw [prune_shown hd hu]
  unfold idxP shownB at hq
  simp only [Bool.and_eq_true] at hq
  cases hdx : dX sts h (tabsOf sts h ts) x with
  | false => rfl
  | true =>
    exfalso
    unfold dX at hdx
    rw [Bool.or_eq_true] at hdx
    have hq2 := hq.2
    cases ho : ofB ts x.tab with
    | none => rw [ho] at hq2; cases hq2
    | some t =>
      rw [ho] at hq2
      simp only [Bool.and_eq_true] at hq2
      rcases hdx with hdx | hdx
      · rw [hd _ hdx] at hq2; cases hq2.1
      · obtain ⟨htm, hid⟩ := ofB_mem ho
        have hm : x.tab ∈ tabsOf sts h ts := by simpa using hdx
        unfold tabsOf at hm
        rw [List.mem_map] at hm
        obtain ⟨u, hum, hui⟩ := hm
        obtain ⟨h1, h2⟩ := List.mem_filter.1 hum
        have := id_uniq hu h1 htm (by omega)
        rw [this] at h2
        rw [hd _ h2] at hq2; cases hq2.2
/-- What the law tells of a snapshot. -/
def pvOf (sts : List Nat) (z : Shot) (ts : List Tb) (xs : List Ix) (nm : ByteArray) : Nat := tabId (findT sts z ts nm) + 1000 * (xs.filter (idxP sts z ts (tabId (findT sts z ts nm)))).length
theorem prune_pv {zs : List Shot} {n : Nat} (hz : z ∈ zs) (ho : stOf 1 sts (z.own : Int) = 1) (hu : (ts.map fun t => t.e.id).Nodup) (nm : ByteArray) :
    pvOf sts z (keepT sts (hzn n (zs.map Shot.xmin)) ts) (keepX sts (hzn n (zs.map Shot.xmin)) ts xs) nm = pvOf sts z ts xs nm := by
  have hd : ∀ e, deadE sts (hzn n (zs.map Shot.xmin)) e = true → visE sts z e = false := fun e he => dead_hid hz ho he
  unfold pvOf
  rw [prune_find hd, prune_idx hd hu]
end

/-! ### What stays true from step to step -/
abbrev Live := Nat → Option Shot
def cv (z : Shot) : Value := .agg #[.int .u64 (z.own : Int), .int .u64 (z.xmin : Int), .int .u64 (z.xmax : Int), z.v]
structure PrOk (sts : List Nat) (ts : List Tb) (xs : List Ix) (last : Nat) (ps : Ents) (lv : Live) (os : List Nat) (i : Nat) : Prop where
  get : ∀ x : Nat, ps.get (x : Int) = (lv x).map cv
  live : ∀ x z, lv x = some z → stOf 1 sts (x : Int) = 1 ∧ z.own = x
  nodup : ps.keys.Nodup
  ids : (ts.map fun t => t.e.id).Nodup
  top : ∀ t ∈ ts, t.e.id ≤ last
  l1 : sts.length ≤ i
  l2 : ts.length ≤ i
  l3 : xs.length ≤ i
  l4 : os.length ≤ i
  l5 : last ≤ i
section
variable {sts : List Nat} {ts ts' : List Tb} {xs xs' : List Ix} {last last' : Nat} {ps : Ents} {lv : Live} {os : List Nat} {i : Nat}
theorem PrOk.next (h : PrOk sts ts xs last ps lv os i) : PrOk sts ts xs last ps lv os (i + 1) :=
  ⟨h.get, h.live, h.nodup, h.ids, h.top, Nat.le_succ_of_le h.l1, Nat.le_succ_of_le h.l2, Nat.le_succ_of_le h.l3, Nat.le_succ_of_le h.l4, Nat.le_succ_of_le h.l5⟩
theorem PrOk.begin (h : PrOk sts ts xs last ps lv os i) {z : Shot} (hz : z.own = 1 + sts.length) :
    PrOk (sts ++ [1]) ts xs last (ps.put ((1 + sts.length : Nat) : Int) (cv z)) (fun y => if y = 1 + sts.length then some z else lv y) (os ++ [1 + sts.length]) (i + 1) := by
  have e1 : ∀ x : Nat, stOf 1 sts (x : Int) = 1 → x ≠ 1 + sts.length ∧ stOf 1 (sts ++ [1]) (x : Int) = 1 := fun x hx => by
    obtain ⟨k, hk, hl, h1⟩ := stOf_one (by omega) hx
    refine ⟨by omega, ?_⟩
    rw [stOf, if_pos (by rw [List.length_append]; simp; omega), show ((x : Int) - ((1 : Nat) : Int)).toNat = k by omega]
    rw [List.getD_eq_getElem?_getD, List.getElem?_append_left hl, ← List.getD_eq_getElem?_getD]; exact h1
  refine ⟨fun x => ?_, fun x u hx => ?_, Ents.nodup_put _ _ h.nodup, h.ids, h.top, by simp; exact h.l1, Nat.le_succ_of_le h.l2, Nat.le_succ_of_le h.l3, by simp; exact h.l4, Nat.le_succ_of_le h.l5⟩
  · rw [Ents.get_put]
    by_cases c : x = 1 + sts.length
    · subst c; rw [if_pos rfl, if_pos rfl]; rfl
    · rw [if_neg (by omega), if_neg c]; exact h.get x
  · by_cases c : x = 1 + sts.length
    · rw [if_pos c] at hx
      cases hx
      refine ⟨?_, by omega⟩
      rw [c, stOf, if_pos (by rw [List.length_append]; simp; omega), show (((1 + sts.length : Nat) : Int) - ((1 : Nat) : Int)).toNat = sts.length by omega]
      simp
    · rw [if_neg c] at hx
      obtain ⟨q1, q2⟩ := h.live x u hx
      exact ⟨(e1 x q1).2, q2⟩
theorem PrOk.fin (h : PrOk sts ts xs last ps lv os i) (y v : Nat) : PrOk (endSts 1 sts (y : Int) v) ts xs last (ps.del (y : Int)) (fun u => if u = y then none else lv u) os (i + 1) := by
  refine ⟨fun x => ?_, fun x u hx => ?_, Ents.nodup_del _ h.nodup, h.ids, h.top, by rw [endSts_len]; exact Nat.le_succ_of_le h.l1, Nat.le_succ_of_le h.l2, Nat.le_succ_of_le h.l3, Nat.le_succ_of_le h.l4, Nat.le_succ_of_le h.l5⟩
  · rw [Ents.get_del _ _ h.nodup]
    by_cases c : x = y
    · subst c; rw [if_pos rfl, if_pos rfl]; rfl
    · rw [if_neg (by omega), if_neg c]; exact h.get x
  · by_cases c : x = y
    · rw [if_pos c] at hx; cases hx
    · rw [if_neg c] at hx
      obtain ⟨q1, q2⟩ := h.live x u hx
      exact ⟨by rw [stOf_fin, if_neg (fun q => c q.1)]; exact q1, q2⟩
theorem PrOk.addT (h : PrOk sts ts xs last ps lv os i) {t : Tb} (ht : t.e.id = last + 1) : PrOk sts (ts ++ [t]) xs (last + 1) ps lv os (i + 1) := by
  refine ⟨h.get, h.live, h.nodup, ?_, fun u hu => ?_, Nat.le_succ_of_le h.l1, by simp; exact h.l2, Nat.le_succ_of_le h.l3, Nat.le_succ_of_le h.l4, Nat.succ_le_succ h.l5⟩
  · rw [List.map_append, List.nodup_append]
    refine ⟨h.ids, by simp, fun a ha b hb => ?_⟩
    rw [List.mem_map] at ha
    obtain ⟨u, hu, rfl⟩ := ha
    simp only [List.map_cons, List.map_nil, List.mem_singleton] at hb
    have := h.top u hu
    omega
  · simp only [List.mem_append, List.mem_singleton] at hu
    rcases hu with hu | rfl
    · have := h.top u hu; omega
    · omega
theorem PrOk.addX (h : PrOk sts ts xs last ps lv os i) {x : Ix} : PrOk sts ts (xs ++ [x]) (last + 1) ps lv os (i + 1) :=
  ⟨h.get, h.live, h.nodup, h.ids, fun u hu => Nat.le_succ_of_le (h.top u hu), Nat.le_succ_of_le h.l1, Nat.le_succ_of_le h.l2, by simp; exact h.l3, Nat.le_succ_of_le h.l4, Nat.succ_le_succ h.l5⟩
theorem PrOk.mark (h : PrOk sts ts xs last ps lv os i) (bs : List Nat) (o : Nat) : PrOk sts (ts.map (mkT bs o)) (xs.map (mkX bs o)) last ps lv os (i + 1) := by
  refine ⟨h.get, h.live, h.nodup, ?_, fun u hu => ?_, Nat.le_succ_of_le h.l1, by simp; exact Nat.le_succ_of_le h.l2, by simp; exact Nat.le_succ_of_le h.l3, Nat.le_succ_of_le h.l4, Nat.le_succ_of_le h.l5⟩
  · rw [List.map_map]
    have : ((fun t : Tb => t.e.id) ∘ mkT bs o) = fun t => t.e.id := by funext t; exact mkT_id bs o t
    rw [this]; exact h.ids
  · obtain ⟨t, ht, rfl⟩ := List.mem_map.1 hu
    rw [mkT_id]; exact h.top t ht
theorem PrOk.prune (h : PrOk sts ts xs last ps lv os i) (hz : Nat) : PrOk sts (keepT sts hz ts) (keepX sts hz ts xs) last ps lv os (i + 1) := by
  refine ⟨h.get, h.live, h.nodup, ?_, fun u hu => h.top u (List.mem_filter.1 hu).1, Nat.le_succ_of_le h.l1, Nat.le_succ_of_le (Nat.le_trans (List.length_filter_le _ _) h.l2), Nat.le_succ_of_le (Nat.le_trans (List.length_filter_le _ _) h.l3), Nat.le_succ_of_le h.l4, Nat.le_succ_of_le h.l5⟩
  exact h.ids.sublist (List.Sublist.map _ List.filter_sublist)
theorem tabId_le (h : PrOk sts ts xs last ps lv os i) (z : Shot) (nm : ByteArray) : tabId (findT sts z ts nm) ≤ i := by
  unfold tabId
  split
  · rename_i t ht
    have := h.top t (List.mem_of_find?_eq_some ht)
    have := h.l5
    omega
  · omega
end
end Go.Proofs.Ytcpeiejabbdeiaa
