/-
  Maps of numbers: the operations.
  No condition: every theorem here is general.
-/
import Derived.Test.YtoolnkemkhianaaDoorAwm
namespace Go.Proofs.YtoolnkemkhianaaDoorW
open Go Go.RowKit
set_option linter.unusedSimpArgs false
set_option linter.unusedVariables false
section
variable {P : Program} {w0 : World} {F : Fr} {H : Hp} {K : Value → Hp → Prop} {dst : Option Tmp} {ty : TypeId} {pos : String} {after : Array Edge} {g : Option (Nat × Bool)}
variable {mt kt et : TypeId} {ik : IntKind} {z : Value} {r : Nat} {l : Ents}

theorem map_erase {α β : Type} (f : α → β) : ∀ (l : List α) (i : Nat), (l.eraseIdx i).map f = (l.map f).eraseIdx i
  | [], _ => rfl
  | a :: l, 0 => rfl
  | a :: l, i + 1 => by simp [List.eraseIdx, map_erase f l i]
theorem awp_checkKey (hk : P.underlying kt = some (.int ik)) (e : Bool) (n : Int) (Q : Unit → Hp → Prop) : awp P w0 (Instr.checkKey e 10000 kt (.int ik n)) Q H = Q () H := by
  show awp P w0 (Instr.checkKey e (9999 + 1) kt (.int ik n)) Q H = Q () H
  unfold Instr.checkKey
  simp only [awp_bind, awp_underlying, hk, OptK, BindK, awp_pure]
theorem awp_findKey (hk : P.underlying kt = some (.int ik)) {es : Array MapEntry} (he : es.toList.map (fun e => (e.key, e.val)) = l.map fun p => (Value.int ik p.1, p.2)) (n : Int) (Q : Option (Nat × Value) → Hp → Prop) :
    awp P w0 (Instr.findKey kt (.int ik n) es.toList) Q H = Q (l.look n 0) H := by
  unfold Instr.findKey
  simp only [awp_bind, awp_underlying, hk, OptK, BindK, findNow_int ik n es.toList l 0 he, awp_pure]

/-- What a lookup gives. -/
def lkv (c : Bool) (o : Option Value) (z : Value) : Value := if c = true then .tuple #[o.getD z, .bool o.isSome] else o.getD z
theorem aop_lookup {x y : Operand} {n : Int} {c : Bool} (hm : P.underlying mt = some (.map kt et)) (hk : P.underlying kt = some (.int ik)) (hz : zrOf P et = some z) (h : IMap H r ik l)
    (hx : evF F x = .map (some r)) (hy : evF F y = .int ik n) :
    AOp P w0 F ⟨dst, .lookup mt x y c, ty, pos, after, g⟩ K H = K (lkv c (l.get n) z) H := by
  obtain ⟨es, ck, hr, he⟩ := h
  unfold AOp
  simp only [execOp, awp_bind, Instr.lookup, hx, hy, awp_underlying, hm, OptK, BindK, getObj, awp, hr, awp_pure, awp_checkKey hk, awp_findKey hk he]
  rw [← Ents.look_get l n 0]
  cases e : l.look n 0 with
  | none => simp only [awp_bind, awp_zeroValue, hz, OptK, BindK, awp_pure, ANx, lkv, Option.map_none, Option.getD_none, Option.isSome_none]
  | some p => simp only [awp_bind, awp_zeroValue, hz, OptK, BindK, awp_pure, ANx, lkv, Option.map_some, Option.getD_some, Option.isSome_some]

def LookK (P : Program) (w0 : World) (mt : TypeId) (c : Bool) (K : Value → Hp → Prop) (H : Hp) (x y : Value) : Prop := awp P w0 (Instr.lookup mt x y c) K H
theorem aop_look {x y : Operand} {c : Bool} : AOp P w0 F ⟨dst, .lookup mt x y c, ty, pos, after, g⟩ K H = LookK P w0 mt c K H (evF F x) (evF F y) := by
  unfold AOp LookK
  simp only [execOp, awp_bind]
  rfl
theorem lookK_int {n : Int} {c : Bool} (hm : P.underlying mt = some (.map kt et)) (hk : P.underlying kt = some (.int ik)) (hz : zrOf P et = some z) (h : IMap H r ik l) :
    LookK P w0 mt c K H (.map (some r)) (.int ik n) = K (lkv c (l.get n) z) H := by
  obtain ⟨es, ck, hr, he⟩ := h
  unfold LookK
  simp only [execOp, awp_bind, Instr.lookup, awp_underlying, hm, OptK, BindK, getObj, awp, hr, awp_pure, awp_checkKey hk, awp_findKey hk he]
  rw [← Ents.look_get l n 0]
  cases e : l.look n 0 with
  | none => simp only [awp_bind, awp_zeroValue, hz, OptK, BindK, awp_pure, ANx, lkv, Option.map_none, Option.getD_none, Option.isSome_none]
  | some p => simp only [awp_bind, awp_zeroValue, hz, OptK, BindK, awp_pure, ANx, lkv, Option.map_some, Option.getD_some, Option.isSome_some]
theorem lenK_map {orig : Prop} (h : IMap H r ik l) : LenK orig (some (.map kt et)) K H (.map (some r)) = K (.int .i64 l.length) H := by
  obtain ⟨es, ck, hr, he⟩ := h
  unfold LenK
  simp only [hr]
  have : es.size = l.length := by
    have h2 : (es.toList.map (fun e => (e.key, e.val))).length = (l.map fun p => (Value.int ik p.1, p.2)).length := by rw [he]
    simpa using h2
  rw [this]
theorem lkv_no {o : Option Value} {z : Value} : lkv false o z = o.getD z := rfl
theorem lkv_ok {o : Option Value} {z : Value} : lkv true o z = .tuple #[o.getD z, .bool o.isSome] := rfl
theorem aop_mapUpdate {x y u : Operand} {n : Int} {v : Value} (hm : P.underlying mt = some (.map kt et)) (hk : P.underlying kt = some (.int ik)) (h : IMap H r ik l)
    (hx : evF F x = .map (some r)) (hy : evF F y = .int ik n) (hu : evF F u = v) (hK : ∀ H', IMap H' r ik (l.put n v) → (∀ b, b ≠ r → H' b = H b) → K undef H') :
    AOp P w0 F ⟨dst, .mapUpdate mt x y u, ty, pos, after, g⟩ K H := by
  obtain ⟨es, ck, hr, he⟩ := h
  unfold AOp
  simp only [execOp, awp_bind, Instr.mapUpdate, hx, hy, hu, awp_underlying, hm, OptK, BindK, getObj, awp, hr, awp_pure, awp_checkKey hk, awp_findKey hk he]
  cases e : l.look n 0 with
  | none =>
    have hg : l.get n = none := by rw [← Ents.look_get l n 0, e]; rfl
    simp only [setObj, awp, hr, BindK, awp_bind, awp_pure, ANx]
    refine hK _ ⟨_, _, Hp.set_same _ _ _, ?_⟩ fun b hb => Hp.set_ne _ _ _ _ hb
    rw [Ents.put_none v hg, Array.toList_push, List.map_append, List.map_append, he]
    rfl
  | some p =>
    obtain ⟨j, w⟩ := p
    obtain ⟨i, rfl, hi, hp, _⟩ := Ents.look_at e
    have hes : (es.toList.map (fun e => (e.key, e.val)))[i]? = some (Value.int ik n, w) := by rw [he, List.getElem?_map, hi]; rfl
    rw [List.getElem?_map] at hes
    obtain ⟨en, hen, hkv⟩ : ∃ en, es.toList[i]? = some en ∧ (en.key, en.val) = (Value.int ik n, w) := by
      cases hq : es.toList[i]? with
      | none => rw [hq] at hes; cases hes
      | some en => rw [hq] at hes; exact ⟨en, rfl, by simpa using hes⟩
    simp only [Prod.mk.injEq] at hkv
    have hen' : es[0 + i]? = some en := by rw [Nat.zero_add, ← Array.getElem?_toList]; exact hen
    have hsb : Instr.sameBits 10000 (Value.int ik n) (Value.int ik n) = true := by
      show Instr.sameBits (9999 + 1) (Value.int ik n) (Value.int ik n) = true
      simp [Instr.sameBits]
    simp only [hen', Option.map_some, Option.getD_some, hkv.1, Instr.keyThatStays, hsb, if_true, setObj, awp, hr, BindK, awp_bind, awp_pure, ANx]
    refine hK _ ⟨_, _, Hp.set_same _ _ _, ?_⟩ fun b hb => Hp.set_ne _ _ _ _ hb
    rw [hp v, List.map_set, ← he, Nat.zero_add]
    apply List.ext_getElem?
    intro q
    rw [List.getElem?_map, Array.getElem?_toList, Array.getElem?_modify, List.getElem?_set, List.length_map, List.getElem?_map, Array.getElem?_toList]
    have hlt : i < es.toList.length := (List.getElem?_eq_some_iff.1 hen).1
    by_cases c : i = q
    · subst c
      rw [if_pos rfl, if_pos rfl, if_pos hlt]
      rw [Nat.zero_add] at hen'
      rw [hen']
      rfl
    · rw [if_neg c, if_neg c]

theorem aop_delete {x y : Operand} {ts : TypeId} {n : Int} (hm : P.underlying mt = some (.map kt et)) (hk : P.underlying kt = some (.int ik)) (h : IMap H r ik l)
    (hx : evF F x = .map (some r)) (hy : evF F y = .int ik n) (hK : ∀ H', IMap H' r ik (l.del n) → (∀ b, b ≠ r → H' b = H b) → K (.tuple #[]) H') :
    AOp P w0 F ⟨dst, .call { callee := .builtin .delete, args := #[x, y], argTypes := #[mt, ts] }, ty, pos, after, g⟩ K H := by
  obtain ⟨es, ck, hr, he⟩ := h
  unfold AOp
  simp only [execOp, resolve, awp_bind, awp_pure, BindK, invoke, builtin, List.map_toArray, List.map_cons, List.map_nil, hx, hy, Builtin.delete_, List.getElem?_toArray, List.getElem?_cons_zero, List.getElem?_cons_succ, awp_underlying, hm, OptK, getObj, awp, hr, awp_checkKey hk, awp_findKey hk he]
  cases e : l.look n 0 with
  | none =>
    have hg : l.get n = none := by rw [← Ents.look_get l n 0, e]; rfl
    simp only [setObj, awp, hr, BindK, awp_bind, awp_pure, ANx]
    refine hK _ ⟨_, _, Hp.set_same _ _ _, ?_⟩ fun b hb => Hp.set_ne _ _ _ _ hb
    rw [Ents.del_none hg]; exact he
  | some p =>
    obtain ⟨j, w⟩ := p
    obtain ⟨i, rfl, hi, _, hd⟩ := Ents.look_at e
    simp only [setObj, awp, hr, BindK, awp_bind, awp_pure, ANx]
    refine hK _ ⟨_, _, Hp.set_same _ _ _, ?_⟩ fun b hb => Hp.set_ne _ _ _ _ hb
    have hil : i < es.size := by
      have h1 : i < l.length := (List.getElem?_eq_some_iff.1 hi).1
      have h2 : (es.toList.map (fun e => (e.key, e.val))).length = (l.map fun p => (Value.int ik p.1, p.2)).length := by rw [he]
      simp only [List.length_map, Array.length_toList] at h2
      omega
    have ht : (es.eraseIdxIfInBounds i).toList = es.toList.eraseIdx i := by
      unfold Array.eraseIdxIfInBounds
      rw [dif_pos hil, Array.toList_eraseIdx]
    rw [hd, Nat.zero_add, map_erase, ← he, ht, map_erase]
theorem aop_maplen {x : Operand} {n : Int} (hm : P.underlying mt = some (.map kt et)) (h : IMap H r ik l) (hx : evF F x = .map (some r)) :
    AOp P w0 F ⟨dst, .call { callee := .builtin .len, args := #[x], argTypes := #[mt] }, ty, pos, after, g⟩ K H = K (.int .i64 l.length) H := by
  obtain ⟨es, ck, hr, he⟩ := h
  rw [aop_len]
  unfold LenK
  simp only [hx, hm, hr]
  have : es.size = l.length := by
    have h2 : (es.toList.map (fun e => (e.key, e.val))).length = (l.map fun p => (Value.int ik p.1, p.2)).length := by rw [he]
    simpa using h2
  rw [this]
theorem aop_makeMap : AOp P w0 F ⟨dst, .makeMap mt none, ty, pos, after, g⟩ K H = NewK w0 (.map #[] 0) (fun b => .map (some b)) K H := rfl
end
attribute [go_sem] aop_makeMap aop_look lkv_no lkv_ok
end Go.Proofs.YtoolnkemkhianaaDoorW
