/-
  Operations: parts of rows, clear, ranges over maps of numbers.
  No condition: every theorem here is general.
-/
import Derived.Test.YtoolnkemkhianaaDoorAwx
namespace Go.Proofs.YtoolnkemkhianaaDoorW
open Go Go.RowKit
set_option linter.unusedSimpArgs false
set_option linter.unusedVariables false
section
variable {P : Program} {w0 : World} {F : Fr} {H : Hp} {K : Value → Hp → Prop} {dst : Option Tmp} {ty : TypeId} {pos : String} {after : Array Edge} {g : Option (Nat × Bool)} {orig : Prop}

theorem aop_slice_lo {t e sz : Nat} {x lo : Operand} (ht : P.underlying t = some (.slice e)) (hsz : szOf P e = some sz) {b n c l : Nat} (hx : evF F x = .slice (some ⟨b, 0, none⟩) n c) (hl : evF F lo = .int .i64 (l : Int)) (h1 : l ≤ n) (h2 : l < c)
    (hK : K (.slice (some ⟨b, l * sz, none⟩) (n - l) (c - l)) H) : AOp P w0 F ⟨dst, .slice t x (some lo) none none, ty, pos, after, g⟩ K H := by
  unfold AOp
  simp only [execOp, awp_bind, Instr.sliceAt, Option.map_none, Option.map_some, hx, hl]
  simp only [Instr.slice, Instr.sliceBounds, Instr.sliceBound, asIntOf, awp_bind, awp_pure, BindK, awp_underlying, ht, OptK, Option.isSome_none, Bool.false_eq_true, if_false]
  rw [if_pos ⟨by omega, by omega⟩]
  simp only [awp_pure, awp_bind, BindK, awp_sizeOf, hsz, OptK, Int.toNat_natCast, if_neg (show ¬ c = l by omega), Option.map_some, add_at, Nat.zero_add, ANx]
  exact hK
theorem slH_row {t e sz : Nat} {x hi : Operand} (ht : P.underlying t = some (.slice e)) (hsz : szOf P e = some sz) {b n c l : Nat} (hx : evF F x = .slice (some ⟨b, 0, none⟩) n c) (hl : evF F hi = .int .i64 (l : Int)) (h1 : l ≤ c) (hc : 0 < c)
    (hK : K (.slice (some ⟨b, 0, none⟩) l c) H) : AOp P w0 F ⟨dst, .slice t x none (some hi) none, ty, pos, after, g⟩ K H := by
  unfold AOp
  simp only [execOp, awp_bind, Instr.sliceAt, Option.map_none, Option.map_some, hx, hl]
  simp only [Instr.slice, Instr.sliceBounds, Instr.sliceBound, asIntOf, awp_bind, awp_pure, BindK, awp_underlying, ht, OptK, Option.isSome_none, Bool.false_eq_true, if_false]
  rw [if_pos ⟨by omega, by omega⟩]
  simp only [awp_pure, awp_bind, BindK, awp_sizeOf, hsz, OptK, Int.toNat_natCast, if_neg (show ¬ c = 0 by omega), Option.map_some, Nat.zero_mul, Nat.sub_zero, add_at, ANx]
  exact hK
theorem zeroCells_one {z : Value} (n : Nat) : (Builtin.zeroCells #[z] n).toList = List.replicate n z := by
  unfold Builtin.zeroCells
  apply List.ext_getElem?
  intro i
  simp only [Array.toList_map, Array.toList_range, List.getElem?_map, List.size_toArray, List.length_cons, List.length_nil, Nat.zero_add, Nat.mul_one, Nat.mod_one, List.getElem?_range', List.getElem?_replicate]
  by_cases h : i < n
  · simp [h]
  · simp [h]
theorem aop_clear {t e : Nat} {x : Operand} (ht : P.underlying t = some (.slice e)) {z : Value} (hz : zrOf P e = some z) (hzc : z.cells = #[z]) (h1 : cell1 z = true) {b l m c : Nat} (hx : evF F x = .slice (some ⟨b, l, none⟩) m c) (hm : 0 < m)
    {cur : Array Value} {e' : TypeId} (hb : H b = some (.cells cur e' (0, 0))) (hlm : l + m ≤ cur.size)
    (hK : ∀ H' cur', (∀ i, i ≠ b → H' i = H i) → H' b = some (.cells cur' e' (0, 0)) → cur'.size = cur.size → cur'.toList.take l = cur.toList.take l → K (.tuple #[]) H') :
    AOp P w0 F ⟨dst, .call { callee := .builtin .clear, args := #[x], argTypes := #[t] }, ty, pos, after, g⟩ K H := by
  obtain ⟨m, rfl⟩ : ∃ k, m = k + 1 := ⟨m - 1, by omega⟩
  obtain ⟨cur', hst, hc⟩ := stCells_row w0 b l e' (List.replicate (m + 1) z) 0 cur H hb (by simpa using hlm) (fun u hu => by rw [List.eq_of_mem_replicate hu]; exact h1)
  have hl' : l ≤ cur.toList.length := by rw [Array.length_toList]; omega
  unfold AOp
  simp only [execOp, resolve, awp_bind, awp_pure, BindK, invoke, builtin, List.map_toArray, List.map_cons, List.map_nil, hx, Builtin.clear_, List.getElem?_toArray, List.getElem?_cons_zero, awp_underlying, ht, OptK, awp_zeroValue, hz, hzc, awp_storeCells, zeroCells_one, hst, ANx]
  refine hK _ cur' (fun i hi => Hp.set_ne _ _ _ _ hi) (Hp.set_same _ _ _) ?_ ?_
  · rw [← Array.length_toList, hc]
    simp only [List.length_append, List.length_take, List.length_drop, List.length_replicate, Array.length_toList, Nat.add_zero]
    omega
  · rw [hc, List.append_assoc, List.take_append_of_le_length (by simp; omega)]
    simp [List.take_take]
end

/-! ### Maps whose entries know when they were born -/
def BMap (H : Hp) (r : Nat) (ik : IntKind) (l : Ents) : Prop :=
  ∃ es c, H r = some (.map es c) ∧ es.toList.map (fun e => (e.key, e.val)) = l.map (fun p => (Value.int ik p.1, p.2)) ∧ ∀ e ∈ es.toList, e.born < c
theorem BMap.imap {H : Hp} {r : Nat} {ik : IntKind} {l : Ents} (h : BMap H r ik l) : IMap H r ik l := by
  obtain ⟨es, c, h1, h2, _⟩ := h
  exact ⟨es, c, h1, h2⟩
theorem BMap.keep {H H' : Hp} {r : Nat} {ik : IntKind} {l : Ents} (h : BMap H r ik l) (hk : ∀ o, H r = some o → H' r = some o) : BMap H' r ik l := by
  obtain ⟨es, c, h1, h2⟩ := h
  exact ⟨es, c, hk _ h1, h2⟩
theorem BMap.empty {H : Hp} {r : Nat} {ik : IntKind} {c : Nat} (h : H r = some (.map #[] c)) : BMap H r ik [] := ⟨_, _, h, rfl, fun e he => by cases he⟩
theorem Ents.put_mem : ∀ {l : Ents} {k : Int} {v : Value} {p : Int × Value}, p ∈ l.put k v → p = (k, v) ∨ p ∈ l
  | [], k, v, p, h => by
    simp only [Ents.put, List.mem_singleton] at h
    exact .inl h
  | (a, w) :: l, k, v, p, h => by
    unfold Ents.put at h
    split at h
    · rename_i e
      rcases List.mem_cons.1 h with h | h
      · exact .inl (by rw [h, e])
      · exact .inr (List.mem_cons_of_mem _ h)
    · rcases List.mem_cons.1 h with h | h
      · exact .inr (by rw [h]; simp)
      · exact (Ents.put_mem h).imp id (List.mem_cons_of_mem _)
section
variable {P : Program} {w0 : World} {F : Fr} {H : Hp} {K : Value → Hp → Prop} {dst : Option Tmp} {ty : TypeId} {pos : String} {after : Array Edge} {g : Option (Nat × Bool)}
variable {mt kt et : TypeId} {ik : IntKind} {z : Value} {r : Nat} {l : Ents}
theorem aop_mapUpdateB {x y u : Operand} {n : Int} {v : Value} (hm : P.underlying mt = some (.map kt et)) (hk : P.underlying kt = some (.int ik)) (h : BMap H r ik l)
    (hx : evF F x = .map (some r)) (hy : evF F y = .int ik n) (hu : evF F u = v) (hK : ∀ H', BMap H' r ik (l.put n v) → (∀ b, b ≠ r → H' b = H b) → K undef H') :
    AOp P w0 F ⟨dst, .mapUpdate mt x y u, ty, pos, after, g⟩ K H := by
  obtain ⟨es, ck, hr, he, hbn⟩ := h
  unfold AOp
  simp only [execOp, awp_bind, Instr.mapUpdate, hx, hy, hu, awp_underlying, hm, OptK, BindK, getObj, awp, hr, awp_pure, awp_checkKey hk, awp_findKey hk he]
  cases e : l.look n 0 with
  | none =>
    have hg : l.get n = none := by rw [← Ents.look_get l n 0, e]; rfl
    simp only [setObj, awp, hr, BindK, awp_bind, awp_pure, ANx]
    refine hK _ ⟨_, _, Hp.set_same _ _ _, ?_, fun e he => ?_⟩ fun b hb => Hp.set_ne _ _ _ _ hb
    · rw [Ents.put_none v hg, Array.toList_push, List.map_append, List.map_append, he]
      rfl
    · rw [Array.toList_push, List.mem_append, List.mem_singleton] at he
      rcases he with he | he
      · have := hbn e he; omega
      · subst he; simp only []; omega
  | some p =>
    obtain ⟨j, w⟩ := p
    obtain ⟨i, rfl, hi, hp, _⟩ := Ents.look_at e
    have hes : (es.toList.map (fun e => (e.key, e.val)))[i]? = some (Value.int ik n, w) := by rw [he, List.getElem?_map, hi]; rfl
    rw [List.getElem?_map] at hes
    obtain ⟨en, hen, hkv⟩ : ∃ en, es.toList[i]? = some en ∧ (en.key, en.val) = (Value.int ik n, w) := by
      cases hq : es.toList[i]? with
      | none => rw [hq] at hes; cases hes
      | some en => rw [hq] at hes; exact ⟨en, rfl, by simpa using hes⟩
    simp only [Prod.mk.injEq] at hkv
    have hen' : es[0 + i]? = some en := by rw [Nat.zero_add, ← Array.getElem?_toList]; exact hen
    have hsb : Instr.sameBits 10000 (Value.int ik n) (Value.int ik n) = true := by
      show Instr.sameBits (9999 + 1) (Value.int ik n) (Value.int ik n) = true
      simp [Instr.sameBits]
    simp only [hen', Option.map_some, Option.getD_some, hkv.1, Instr.keyThatStays, hsb, if_true, setObj, awp, hr, BindK, awp_bind, awp_pure, ANx]
    have hq : ∀ q, (es.modify (0 + i) fun e => { e with key := Value.int ik n, val := v }).toList[q]? = if i = q then some { en with key := Value.int ik n, val := v } else es.toList[q]? := fun q => by
      rw [Array.getElem?_toList, Array.getElem?_modify, Nat.zero_add]
      by_cases c : i = q
      · subst c
        rw [if_pos rfl, if_pos rfl]
        rw [Nat.zero_add] at hen'
        rw [hen']
        rfl
      · rw [if_neg c, if_neg c, Array.getElem?_toList]
    refine hK _ ⟨_, _, Hp.set_same _ _ _, ?_, fun e he => ?_⟩ fun b hb => Hp.set_ne _ _ _ _ hb
    · rw [hp v, List.map_set, ← he]
      apply List.ext_getElem?
      intro q
      rw [List.getElem?_map, hq, List.getElem?_set, List.length_map, List.getElem?_map]
      have hlt : i < es.toList.length := (List.getElem?_eq_some_iff.1 hen).1
      by_cases c : i = q
      · rw [if_pos c, if_pos c, if_pos hlt]; rfl
      · rw [if_neg c, if_neg c]
    · obtain ⟨q, hq'⟩ := List.getElem?_of_mem he
      rw [hq] at hq'
      split at hq'
      · cases hq'
        exact hbn en (List.mem_of_getElem? hen)
      · exact hbn e (List.mem_of_getElem? hq')

/-! ### A range over a map -/
theorem rng_map {t : TypeId} {x : Operand} {es : Array MapEntry} {c : Nat} (hm : P.underlying t = some (.map kt et)) (hx : evF F x = .map (some r)) (h : H r = some (.map es c))
    (hK : NewK w0 (.mapIter (some r) c #[] c) (fun b => .pointer (some ⟨b, 0, none⟩)) K H) : AOp P w0 F ⟨dst, .range t x, ty, pos, after, g⟩ K H := by
  unfold AOp
  simp only [execOp, awp_bind, Instr.range, awp_underlying, hm, hx, OptK, BindK, awp_pure, getObj, awp, h, newObj, ANx]
  exact hK
theorem filt_all {es : Array MapEntry} {c : Nat} {seen : Array Nat} (hb : ∀ e ∈ es.toList, e.born < c) :
    ((es.filter fun e => !seen.contains e.born).filter fun e => decide (e.born < c)) = (es.filter fun e => !seen.contains e.born) ∧ ((es.filter fun e => !seen.contains e.born).filter fun e => decide (e.born ≥ c)) = #[] := by
  constructor
  · apply Array.toList_inj.1
    simp only [Array.toList_filter]
    rw [List.filter_eq_self]
    intro e he
    simp only [List.mem_filter] at he
    simpa using hb e he.1
  · apply Array.toList_inj.1
    simp only [Array.toList_filter]
    rw [List.filter_eq_nil_iff]
    intro e he
    simp only [List.mem_filter] at he
    have := hb e he.1
    simp; omega
theorem aop_next_map {x : Operand} {it c : Nat} {es : Array MapEntry} {seen : Array Nat} (hx : evF F x = .pointer (some ⟨it, 0, none⟩)) (hit : H it = some (.mapIter (some r) c seen c)) (hr : H r = some (.map es c)) (hb : ∀ e ∈ es.toList, e.born < c)
    (hdone : (∀ e ∈ es.toList, e.born ∈ seen) → K (.tuple #[.bool false]) H)
    (hgo : ∀ e ∈ es.toList, e.born ∉ seen → K (.tuple #[.bool true, e.key, e.val]) (H.set it (.mapIter (some r) c (seen.push e.born) c))) :
    AOp P w0 F ⟨dst, .next x false, ty, pos, after, g⟩ K H := by
  have hst : (!seen.isEmpty && !es.isEmpty && es.all fun e => decide (e.born ≥ c)) = false := by
    cases hes : es.isEmpty with
    | true => simp
    | false =>
      have : (es.all fun e => decide (e.born ≥ c)) = false := by
        rw [Array.all_eq_false]
        have hne : 0 < es.size := by
          rcases Nat.eq_zero_or_pos es.size with h | h
          · rw [Array.isEmpty_eq_false_iff] at hes
            exact absurd (Array.eq_empty_of_size_eq_zero h) hes
          · exact h
        refine ⟨0, hne, ?_⟩
        have := hb es[0] (by simp)
        simp; omega
      rw [this]; simp
  obtain ⟨q1, q2⟩ := filt_all (seen := seen) hb
  unfold AOp
  simp only [execOp, awp_bind, Instr.next, hx, getObj, awp, hit, hr, BindK, hst, Bool.false_eq_true, if_false, awp_pure, q1, q2, Array.append_empty]
  by_cases hle : (es.filter fun e => !seen.contains e.born).isEmpty = true
  · have hl : (es.filter fun e => !seen.contains e.born) = #[] := by simpa using hle
    have hall : ∀ e ∈ es.toList, e.born ∈ seen := fun e he => by
      have h2 : e ∉ (es.filter fun e => !seen.contains e.born).toList := by rw [hl]; simp
      simp only [Array.toList_filter, List.mem_filter, not_and] at h2
      simpa using h2 he
    simp only [hl, Array.isEmpty_empty, if_true, Array.map_empty, Array.append_empty, choose, awp, Question.forced, List.size_toArray, List.length_cons, List.length_nil, Nat.zero_add, Nat.le_refl, decide_true, BindK, List.getElem?_toArray, List.getElem?_cons_zero, awp_pure, ANx]
    exact hdone hall
  · simp only [if_neg hle, Array.empty_append, Array.size_map]
    have hlpos : 0 < (es.filter fun e => !seen.contains e.born).size := by
      rcases Nat.eq_zero_or_pos (es.filter fun e => !seen.contains e.born).size with h | h
      · exact absurd (by simpa using Array.eq_empty_of_size_eq_zero h) hle
      · exact h
    have hmem : ∀ e ∈ (es.filter fun e => !seen.contains e.born).toList, e ∈ es.toList ∧ e.born ∉ seen := fun e he => by
      simp only [Array.toList_filter, List.mem_filter] at he
      exact ⟨he.1, by simpa using he.2⟩
    generalize (es.filter fun e => !seen.contains e.born) = left at hlpos hmem
    have key : ∀ n, n < left.size → ∃ e ∈ es.toList, e.born ∉ seen ∧ (left.map some)[n]? = some (some e) := fun n hn => by
      obtain ⟨q1, q2⟩ := hmem left[n] (by simp)
      exact ⟨left[n], q1, q2, by simp [hn]⟩
    simp only [choose, awp, Question.cut]
    by_cases hc : (Question.mapNext left.size).forced = true
    · rw [if_pos hc]
      obtain ⟨e, he, hs, hk⟩ := key 0 hlpos
      simp only [BindK, hk, setObj, awp_bind, awp, hit, awp_pure, ANx]
      exact hgo e he hs
    · rw [if_neg hc]
      intro n
      obtain ⟨e, he, hs, hk⟩ := key (n % left.size) (Nat.mod_lt _ hlpos)
      simp only [BindK, hk, setObj, awp_bind, awp, hit, awp_pure, ANx]
      exact hgo e he hs
theorem aop_entry {x : Operand} {it c s b : Nat} {es : Array MapEntry} {seen : Array Nat} (hx : evF F x = .pointer (some ⟨it, 0, none⟩)) (hit : H it = some (.mapIter (some r) s (seen.push b) c)) (hr : H r = some (.map es c)) (hb : ∃ e ∈ es.toList, e.born = b)
    (hK : ∀ e ∈ es.toList, K (.tuple #[e.key, e.val]) H) : AOp P w0 F ⟨dst, .entry x, ty, pos, after, g⟩ K H := by
  have hf : ∃ e ∈ es.toList, es.find? (fun e => e.born == b) = some e := by
    cases hq : es.find? (fun e => e.born == b) with
    | some e => exact ⟨e, by simpa using Array.mem_of_find?_eq_some hq, rfl⟩
    | none =>
      obtain ⟨e, he, hb⟩ := hb
      rw [Array.find?_eq_none] at hq
      exact absurd (by simpa using hb) (hq e (by simpa using he))
  obtain ⟨e, he, hf⟩ := hf
  unfold AOp
  simp only [execOp, awp_bind, Instr.entry, hx, getObj, awp, hit, BindK, Array.back?_push, awp_pure, hr, bne_self_eq_false, Bool.false_eq_true, if_false, hf, ANx]
  exact hK e he
end
end Go.Proofs.YtoolnkemkhianaaDoorW
