/-
  Calls, builtins and literals, one equation each.
  No condition: every theorem here is general.
-/
import Derived.Test.YtoolnkemkhianaaDoorAwa
set_option linter.unusedSimpArgs false
set_option linter.unusedVariables false
namespace Go.Proofs.YtoolnkemkhianaaDoorW
open Go Go.RowKit

variable (P : Program) (w0 : World) (F : Fr) (K : Value → Hp → Prop) (H : Hp)
variable (dst : Option Tmp) (ty : TypeId) (pos : String) (after : Array Edge) (g : Option (Nat × Bool))

/-! ### Calls of functions -/
def callOk (P : Program) (f : FuncId) : Bool :=
  match P.funcs[f]? with
  | some fn => !(fn.name == "runtime.NumGoroutine") && fn.body.isSome
  | none => false
theorem awp_callFunc (f : FuncId) (args : Array Value) (h : callOk P f = true) (Q : Next → Hp → Prop) : awp P w0 (callFunc f args) Q H = Q (.enter f args) H := by
  unfold callOk at h
  split at h
  · rename_i fn hf
    simp only [Bool.and_eq_true, Bool.not_eq_true'] at h
    have hb : fn.body.isNone = false := by
      cases hb : fn.body with
      | none => rw [hb] at h; simp at h
      | some c => rfl
    simp only [callFunc, program, awp_bind, awp, BindK, hf, h.1, hb, Bool.false_eq_true, if_false, awp_pure]
  · cases h
/-- What is called, with its captured values. -/
def CallK (orig : Prop) (P : Program) (w0 : World) (args : Array Value) (K : Value → Hp → Prop) (H : Hp) : Value → Prop
  | .func (.func f) first captured => if callOk P f = true then ACalls P w0 f (first ++ args ++ captured) H K else orig
  | _ => orig
theorem aop_call (f : Operand) (args : Array Operand) (ts : Array TypeId) : AOp P w0 F ⟨dst, .call { callee := .value f, args := args, argTypes := ts }, ty, pos, after, g⟩ K H =
    CallK (AOp0 P w0 F ⟨dst, .call { callee := .value f, args := args, argTypes := ts }, ty, pos, after, g⟩ K H) P w0 (args.map (evF F)) K H (evF F f) := by
  unfold CallK
  split
  · rename_i fn first captured hf
    split
    · rename_i hc
      unfold AOp
      simp only [execOp, resolve, hf, Deferred.ofValue, awp_bind, awp_pure, BindK, invoke, awp_callFunc P w0 H fn _ hc, ANx]
    · rfl
  · rfl
theorem aop_call_func (f : FuncId) (args : Array Operand) (ts : Array TypeId) (hc : callOk P f = true) :
    AOp P w0 F ⟨dst, .call { callee := .value (.func f), args := args, argTypes := ts }, ty, pos, after, g⟩ K H = ACalls P w0 f (args.map (evF F)) H K := by
  rw [aop_call]
  simp only [evF, CallK, hc, if_true, Array.empty_append, Array.append_empty]

/-! ### len, min -/
def LenK (orig : Prop) (u : Option TypeDesc) (K : Value → Hp → Prop) (H : Hp) : Value → Prop
  | .string s => match u with | some .string => K (.int .i64 s.size) H | _ => orig
  | .slice _ n _ => match u with | some (.slice _) => K (.int .i64 n) H | _ => orig
  | .map (some r) => match u with | some (.map _ _) => (match H r with | some (.map es _) => K (.int .i64 es.size) H | _ => orig) | _ => orig
  | _ => orig
theorem aop_len (x : Operand) (t : TypeId) : AOp P w0 F ⟨dst, .call { callee := .builtin .len, args := #[x], argTypes := #[t] }, ty, pos, after, g⟩ K H =
    LenK (AOp0 P w0 F ⟨dst, .call { callee := .builtin .len, args := #[x], argTypes := #[t] }, ty, pos, after, g⟩ K H) (P.underlying t) K H (evF F x) := by
  unfold LenK
  split
  · rename_i s hx
    split
    · rename_i hu
      unfold AOp
      simp only [execOp, resolve, awp_bind, awp_pure, BindK, invoke, builtin, List.map_toArray, List.map_cons, List.map_nil, hx, Builtin.len_, List.getElem?_toArray, List.getElem?_cons_zero, awp_underlying, hu, OptK, ANx, goInt]
    · rfl
  · rename_i a n c hx
    split
    · rename_i hu
      unfold AOp
      simp only [execOp, resolve, awp_bind, awp_pure, BindK, invoke, builtin, List.map_toArray, List.map_cons, List.map_nil, hx, Builtin.len_, List.getElem?_toArray, List.getElem?_cons_zero, awp_underlying, hu, OptK, ANx, goInt]
    · rfl
  · rename_i r hx
    split
    · rename_i hu
      split
      · rename_i es ck hr
        unfold AOp
        simp only [execOp, resolve, awp_bind, awp_pure, BindK, invoke, builtin, List.map_toArray, List.map_cons, List.map_nil, hx, Builtin.len_, List.getElem?_toArray, List.getElem?_cons_zero, awp_underlying, hu, OptK, getObj, awp, hr, ANx, goInt]
      · rfl
    · rfl
  · rfl
def MinK (orig : Prop) (K : Value → Hp → Prop) (H : Hp) : Value → Value → Prop
  | .int k a, .int k' b => if k = k' then K (.int k (if b < a then b else a)) H else orig
  | _, _ => orig

/-! ### append -/
theorem aop_append {t e sz bytes : Nat} {z : Value} {x y : Operand} (ht : P.underlying t = some (.slice e)) (hsz : szOf P e = some sz) (hby : byOf P e = some bytes) (hz : zrOf P e = some z)
    (hzs : z.cells.size = sz) {v : Value} (hx : evF F x = v) {n : Nat} {xs : List Value} (hrow : Row H e sz v n xs)
    {a : Addr} {m c : Nat} (hy : evF F y = .slice (some a) m c) {ys : List Value} (hys : ldCells w0 H a 0 (m * sz) = some ys) (hyl : ys.length = m * sz) (h1 : ∀ u ∈ ys, cell1 u = true) (hm : 0 < m)
    (hb : (n + m) * bytes ≤ 140737488355328) (hi : n + m ≤ 9223372036854775807)
    (hK : ∀ g cap cur, (v = .slice (some ⟨g, 0, none⟩) n cap ∨ (H g = none ∧ w0.heap.size ≤ g)) → n + m ≤ cap → cur.size = cap * sz → cur.toList.take ((n + m) * sz) = xs ++ ys →
      K (.slice (some ⟨g, 0, none⟩) (n + m) cap) (H.set g (.cells cur e (0, 0)))) :
    AOp P w0 F ⟨dst, .call { callee := .builtin .append, args := #[x, y], argTypes := #[t, t] }, ty, pos, after, g⟩ K H := by
  unfold AOp
  simp only [execOp, resolve, awp_bind, awp_pure, BindK, invoke, builtin, List.map_toArray, List.map_cons, List.map_nil, hx, hy]
  exact awp_append ht hsz hby hz hzs hrow hys hyl h1 hm hb hi hK

/-! ### literals -/
def bsCells (P : Program) (e len : Nat) (parts : Array (Nat × Value)) : Option (Array Value) :=
  (szOf P e).bind fun size =>
    if len * size > 2 ^ 24 then none else
    (if len * size = 0 then some #[] else (zrOf P e).map Value.cells).bind fun zero =>
      Instr.fill (fun i => some (i * size, size)) ((Array.range (len * size)).map (zero[· % zero.size]!)) parts.toList
def BsK (orig : Prop) (P : Program) (w0 : World) (len : Nat) (parts : Array (Nat × Value)) (K : Value → Hp → Prop) (H : Hp) : Option TypeDesc → Prop
  | some (.slice e) => match bsCells P e len parts with
    | some cs => NewK w0 (.cells cs e) (fun b => .slice (some ⟨b, 0, none⟩) len len) K H
    | none => orig
  | _ => orig
theorem aop_buildSlice (t : TypeId) (len : Nat) (parts : Array (Nat × Operand)) : AOp P w0 F ⟨dst, .buildSlice t len parts, ty, pos, after, g⟩ K H =
    BsK (AOp0 P w0 F ⟨dst, .buildSlice t len parts, ty, pos, after, g⟩ K H) P w0 len (parts.map fun p => (p.1, evF F p.2)) K H (P.underlying t) := by
  unfold BsK
  split
  · rename_i e hu
    split
    · rename_i cs hcs
      unfold bsCells at hcs
      unfold AOp
      simp only [execOp, awp_bind, Instr.buildSlice, awp_underlying, hu, OptK, BindK, awp_sizeOf]
      cases hs : szOf P e with
      | none => rw [hs] at hcs; cases hcs
      | some size =>
        rw [hs, Option.bind_some] at hcs
        simp only [OptK, BindK]
        by_cases hb : len * size > 2 ^ 24
        · rw [if_pos hb] at hcs; cases hcs
        · rw [if_neg hb] at hcs
          simp only [if_neg hb]
          by_cases h0 : len * size = 0
          · rw [if_pos h0, Option.bind_some] at hcs
            simp only [if_pos h0, awp_bind, awp_pure, BindK]
            simp only [hcs]
            rfl
          · rw [if_neg h0] at hcs
            simp only [if_neg h0, awp_bind, awp_zeroValue]
            cases hz : zrOf P e with
            | none => rw [hz] at hcs; cases hcs
            | some z =>
              rw [hz, Option.map_some, Option.bind_some] at hcs
              unfold OptK
              unfold BindK
              simp only [awp_bind, awp_pure, BindK]
              simp only [hcs]
              rfl
    · rfl
  · rfl

def plcs (P : Program) : List Field → Option (List (Nat × Nat))
  | [] => some []
  | f :: l => (szOf P f.type).bind fun n => (plcs P l).map ((f.offset, n) :: ·)
def bdCells (P : Program) (t : TypeId) (parts : Array (Nat × Value)) : Option (Array Value) :=
  (zrOf P t).bind fun z =>
    match P.underlying t with
    | some (.struct fs) => (plcs P fs.toList).bind fun pl => Instr.fill (pl.toArray[·]?) z.cells parts.toList
    | some (.array _ e) => (szOf P e).bind fun size => Instr.fill (fun i => some (i * size, size)) z.cells parts.toList
    | _ => none
theorem awp_places (Q : List (Nat × Nat) → Hp → Prop) : ∀ (l : List Field) , awp P w0 (l.mapM fun f => do pure (f.offset, ← sizeOf f.type)) Q H = OptK Q H (plcs P l) := by
  intro l
  induction l generalizing Q with
  | nil => simp only [List.mapM_nil, awp_pure, plcs, OptK]
  | cons f l ih =>
    simp only [List.mapM_cons, awp_bind, awp_sizeOf, plcs]
    cases szOf P f.type with
    | none => rfl
    | some n =>
      simp only [OptK, BindK, awp_pure, awp_bind, ih, Option.bind_some]
      cases plcs P l <;> rfl
def BdK (orig : Prop) (K : Value → Hp → Prop) (H : Hp) : Option (Array Value) → Prop
  | some cs => K (.agg cs) H
  | none => orig
theorem aop_build (t : TypeId) (parts : Array (Nat × Operand)) : AOp P w0 F ⟨dst, .build t parts, ty, pos, after, g⟩ K H =
    BdK (AOp0 P w0 F ⟨dst, .build t parts, ty, pos, after, g⟩ K H) K H (bdCells P t (parts.map fun p => (p.1, evF F p.2))) := by
  unfold BdK
  split
  · rename_i cs hcs
    unfold bdCells at hcs
    unfold AOp
    simp only [execOp, awp_bind, Instr.build, awp_zeroValue]
    cases hz : zrOf P t with
    | none => rw [hz] at hcs; cases hcs
    | some z =>
      rw [hz, Option.bind_some] at hcs
      simp only [OptK, BindK, awp_bind, awp_underlying]
      split at hcs
      · rename_i fs hu
        simp only [hu, OptK, BindK, awp_bind, Array.mapM_eq_mapM_toList, awp_map]
        cases hp : plcs P fs.toList with
        | none => rw [hp] at hcs; cases hcs
        | some pl =>
          rw [hp, Option.bind_some] at hcs
          simp only [awp_map, awp_bind, awp_places, hp, OptK, BindK, awp_pure]
          simp only [hcs]
          rfl
      · rename_i n e hu
        simp only [hu, OptK, BindK, awp_bind, awp_sizeOf]
        cases hs : szOf P e with
        | none => rw [hs] at hcs; cases hcs
        | some size =>
          rw [hs, Option.bind_some] at hcs
          simp only [OptK, BindK]
          simp only [hcs]
          rfl
      · cases hcs
  · rfl
end Go.Proofs.YtoolnkemkhianaaDoorW
