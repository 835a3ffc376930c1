/-
  Maps of numbers: what each operation does.
  No condition: every theorem here is general.
-/
import Derived.Test.YtoolnkemkhianaaDoorAwg
namespace Go.Proofs.YtoolnkemkhianaaDoorW
open Go Go.RowKit
set_option linter.unusedSimpArgs false
set_option linter.unusedVariables false

/-! ### The plain law -/
abbrev Ents := List (Int × Value)
def Ents.look : Ents → Int → Nat → Option (Nat × Value)
  | [], _, _ => none
  | (a, v) :: l, k, i => if k = a then some (i, v) else Ents.look l k (i + 1)
def Ents.get : Ents → Int → Option Value
  | [], _ => none
  | (a, v) :: l, k => if k = a then some v else Ents.get l k
def Ents.put : Ents → Int → Value → Ents
  | [], k, v => [(k, v)]
  | (a, w) :: l, k, v => if k = a then (a, v) :: l else (a, w) :: Ents.put l k v
def Ents.del : Ents → Int → Ents
  | [], _ => []
  | (a, w) :: l, k => if k = a then l else (a, w) :: Ents.del l k
def Ents.keys (l : Ents) : List Int := l.map (·.1)
theorem Ents.look_get : ∀ (l : Ents) (k : Int) (i : Nat), (l.look k i).map (·.2) = l.get k
  | [], _, _ => rfl
  | (a, v) :: l, k, i => by
    unfold Ents.look Ents.get
    split
    · rfl
    · exact Ents.look_get l k (i + 1)
theorem Ents.get_none : ∀ {l : Ents} {k : Int}, l.get k = none → k ∉ l.keys
  | [], _, _ => by simp [Ents.keys]
  | (a, v) :: l, k, h => by
    unfold Ents.get at h
    split at h
    · cases h
    · rename_i hn
      have := Ents.get_none h
      simp only [Ents.keys, List.map_cons, List.mem_cons, not_or] at this ⊢
      exact ⟨hn, this⟩
theorem Ents.none_of : ∀ {l : Ents} {k : Int}, k ∉ l.keys → l.get k = none
  | [], _, _ => rfl
  | (a, v) :: l, k, h => by
    simp only [Ents.keys, List.map_cons, List.mem_cons, not_or] at h
    unfold Ents.get
    rw [if_neg h.1]
    exact Ents.none_of h.2
theorem Ents.get_put : ∀ (l : Ents) (k : Int) (v : Value) (j : Int), (l.put k v).get j = if j = k then some v else l.get j
  | [], k, v, j => rfl
  | (a, w) :: l, k, v, j => by
    unfold Ents.put
    split
    · rename_i h; subst h
      unfold Ents.get
      by_cases e : j = k
      · rw [if_pos e, if_pos e]
      · rw [if_neg e, if_neg e, if_neg e]
    · rename_i h
      unfold Ents.get
      by_cases e : j = a
      · rw [if_pos e, if_pos e, if_neg (by rw [e]; exact fun c => h c.symm)]
      · rw [if_neg e, if_neg e, Ents.get_put l k v j]
theorem Ents.len_put : ∀ (l : Ents) (k : Int) (v : Value), (l.put k v).length = if l.get k = none then l.length + 1 else l.length
  | [], k, v => rfl
  | (a, w) :: l, k, v => by
    unfold Ents.put Ents.get
    split
    · simp
    · simp only [List.length_cons, Ents.len_put l k v]
      split <;> rfl
theorem Ents.mem_put : ∀ (l : Ents) (k : Int) (v : Value) (j : Int), j ∈ (l.put k v).keys ↔ j = k ∨ j ∈ l.keys
  | [], k, v, j => by simp [Ents.put, Ents.keys]
  | (a, w) :: l, k, v, j => by
    unfold Ents.put
    split
    · rename_i h; subst h
      simp only [Ents.keys, List.map_cons, List.mem_cons]
      constructor
      · exact .inr
      · rintro (h | h)
        · exact .inl h
        · exact h
    · have := Ents.mem_put l k v j
      simp only [Ents.keys, List.map_cons, List.mem_cons] at this ⊢
      rw [this]
      constructor
      · rintro (h | h | h)
        · exact .inr (.inl h)
        · exact .inl h
        · exact .inr (.inr h)
      · rintro (h | h | h)
        · exact .inr (.inl h)
        · exact .inl h
        · exact .inr (.inr h)
theorem Ents.nodup_put : ∀ {l : Ents} (k : Int) (v : Value), l.keys.Nodup → (l.put k v).keys.Nodup
  | [], k, v, _ => by simp [Ents.put, Ents.keys]
  | (a, w) :: l, k, v, h => by
    simp only [Ents.keys, List.map_cons, List.nodup_cons] at h
    unfold Ents.put
    split
    · simpa only [Ents.keys, List.map_cons, List.nodup_cons] using h
    · rename_i hn
      have := Ents.nodup_put k v h.2
      simp only [Ents.keys, List.map_cons, List.nodup_cons]
      refine ⟨fun hm => ?_, this⟩
      rcases (Ents.mem_put l k v a).1 hm with e | e
      · exact hn e.symm
      · exact h.1 e
theorem Ents.mem_del : ∀ {l : Ents} {k j : Int}, j ∈ (l.del k).keys → j ∈ l.keys
  | [], k, j, h => h
  | (a, w) :: l, k, j, h => by
    unfold Ents.del at h
    split at h
    · exact List.mem_cons_of_mem _ h
    · simp only [Ents.keys, List.map_cons, List.mem_cons] at h ⊢
      exact h.imp id Ents.mem_del
theorem Ents.nodup_del : ∀ {l : Ents} (k : Int), l.keys.Nodup → (l.del k).keys.Nodup
  | [], k, h => h
  | (a, w) :: l, k, h => by
    simp only [Ents.keys, List.map_cons, List.nodup_cons] at h
    unfold Ents.del
    split
    · exact h.2
    · simp only [Ents.keys, List.map_cons, List.nodup_cons]
      exact ⟨fun hm => h.1 (Ents.mem_del hm), Ents.nodup_del k h.2⟩
theorem Ents.get_del : ∀ {l : Ents} (k j : Int), l.keys.Nodup → (l.del k).get j = if j = k then none else l.get j
  | [], k, j, h => by simp [Ents.del, Ents.get]
  | (a, w) :: l, k, j, h => by
    simp only [Ents.keys, List.map_cons, List.nodup_cons] at h
    unfold Ents.del
    split
    · rename_i e; subst e
      by_cases e : j = k
      · subst e
        rw [if_pos rfl]
        exact Ents.none_of h.1
      · rw [if_neg e]
        show _ = (if j = k then some w else Ents.get l j)
        rw [if_neg e]
    · rename_i hn
      show (if j = a then some w else Ents.get (Ents.del l k) j) = _
      rw [Ents.get_del k j h.2]
      show _ = (if j = k then none else if j = a then some w else Ents.get l j)
      by_cases e : j = a
      · subst e; rw [if_pos rfl, if_neg (fun c => hn c.symm), if_pos rfl]
      · rw [if_neg e, if_neg e]
theorem Ents.len_del : ∀ (l : Ents) (k : Int), (l.del k).length = if l.get k = none then l.length else l.length - 1
  | [], k => rfl
  | (a, w) :: l, k => by
    unfold Ents.del Ents.get
    split
    · simp
    · rename_i hn
      simp only [List.length_cons, Ents.len_del l k]
      split
      · rfl
      · rename_i hg
        have : 0 < l.length := by
          cases l with
          | nil => exact (hg rfl).elim
          | cons x l => simp
        omega

/-! ### The map's object -/
/-- At r lies a map whose keys are numbers. -/
def IMap (H : Hp) (r : Nat) (ik : IntKind) (l : Ents) : Prop :=
  ∃ es c, H r = some (.map es c) ∧ es.toList.map (fun e => (e.key, e.val)) = l.map fun p => (Value.int ik p.1, p.2)
theorem IMap.keep {H H' : Hp} {r : Nat} {ik : IntKind} {l : Ents} (h : IMap H r ik l) (hk : ∀ o, H r = some o → H' r = some o) : IMap H' r ik l := by
  obtain ⟨es, c, h1, h2⟩ := h
  exact ⟨es, c, hk _ h1, h2⟩
theorem IMap.own {H : Hp} {r : Nat} {ik : IntKind} {l : Ents} (h : IMap H r ik l) : ∃ o, H r = some o := by
  obtain ⟨es, c, h1, h2⟩ := h
  exact ⟨_, h1⟩
theorem IMap.empty (H : Hp) (r : Nat) (ik : IntKind) (c : Nat) : IMap (H.set r (.map #[] c)) r ik [] := ⟨_, _, Hp.set_same _ _ _, rfl⟩
theorem findNow_int (ik : IntKind) (k : Int) : ∀ (es : List MapEntry) (l : Ents) (i : Nat), es.map (fun e => (e.key, e.val)) = l.map (fun p => (Value.int ik p.1, p.2)) →
    Instr.findNow (.int ik) (.int ik k) es i = some (l.look k i)
  | [], [], i, _ => rfl
  | [], _ :: _, i, h => by cases h
  | _ :: _, [], i, h => by cases h
  | e :: es, (a, v) :: l, i, h => by
    simp only [List.map_cons, List.cons.injEq, Prod.mk.injEq] at h
    obtain ⟨⟨hk, hv⟩, ht⟩ := h
    unfold Instr.findNow
    rw [hk]
    have hs : Instr.sameNow (.int ik) (.int ik k) (.int ik a) = some (k == a) := by simp [Instr.sameNow]
    rw [hs]
    unfold Ents.look
    by_cases c : k = a
    · have : (k == a) = true := by simp [c]
      rw [this, if_pos c, hv]
    · have : (k == a) = false := by simp [c]
      rw [this, if_neg c]
      exact findNow_int ik k es l (i + 1) ht
/-- Where it is found. -/
theorem Ents.look_at : ∀ {l : Ents} {k : Int} {i j : Nat} {v : Value}, l.look k i = some (j, v) → ∃ n, j = i + n ∧ l[n]? = some (k, v) ∧ (∀ w, l.put k w = l.set n (k, w)) ∧ l.del k = l.eraseIdx n
  | [], k, i, j, v, h => by cases h
  | (a, w) :: l, k, i, j, v, h => by
    unfold Ents.look at h
    split at h
    · rename_i e
      cases h; subst e
      exact ⟨0, rfl, rfl, fun w' => by simp [Ents.put], by simp [Ents.del]⟩
    · rename_i e
      obtain ⟨n, h1, h2, h3, h4⟩ := Ents.look_at h
      exact ⟨n + 1, by omega, h2, fun w' => by simp [Ents.put, e, h3 w'], by simp [Ents.del, e, h4]⟩
theorem Ents.put_none : ∀ {l : Ents} {k : Int} (v : Value), l.get k = none → l.put k v = l ++ [(k, v)]
  | [], k, v, _ => rfl
  | (a, w) :: l, k, v, h => by
    unfold Ents.get at h
    split at h
    · cases h
    · rename_i hn
      unfold Ents.put
      rw [if_neg hn, Ents.put_none v h]
      rfl
theorem Ents.del_none : ∀ {l : Ents} {k : Int}, l.get k = none → l.del k = l
  | [], k, _ => rfl
  | (a, w) :: l, k, h => by
    unfold Ents.get at h
    split at h
    · cases h
    · rename_i hn
      unfold Ents.del
      rw [if_neg hn, Ents.del_none h]
end Go.Proofs.YtoolnkemkhianaaDoorW
