/-
  The operations, one equation each: what the abstract weakest precondition of an operation is.
  No condition: every theorem here is general.
-/
import Derived.Test.YtoolnkemkhianaaDoorAwc
set_option linter.unusedSimpArgs false
set_option linter.unusedVariables false
namespace Go.Proofs.YtoolnkemkhianaaDoorW
open Go Go.RowKit

/-! ### Small continuations -/
def OptK {α : Type} (Q : α → Hp → Prop) (H : Hp) : Option α → Prop
  | some a => Q a H
  | none => False
def PickK (K : Value → Hp → Prop) (H : Hp) (x y : Value) : Value → Prop
  | .bool b => K (if b = true then x else y) H
  | _ => False
/-- The same, where no equation serves. -/
def AOp0 (P : Program) (w0 : World) (F : Fr) (o : Oper) (K : Value → Hp → Prop) (H : Hp) : Prop := AOp P w0 F o K H
def NilK (orig : Prop) (K : Value → Hp → Prop) (H : Hp) : Value → Prop
  | .pointer (some a) => K (.pointer (some a)) H
  | _ => orig
/-- A new block o; the value is made of its number. -/
def NewK (w0 : World) (o : Obj) (mk : Nat → Value) (K : Value → Hp → Prop) (H : Hp) : Prop :=
  ∀ b, w0.heap.size ≤ b → H b = none → K (mk b) (H.set b o)
def ExtK (K : Value → Hp → Prop) (H : Hp) (i : Nat) : Value → Prop
  | .tuple vs => OptK K H vs[i]?
  | _ => False

variable (P : Program) (w0 : World) (F : Fr) (K : Value → Hp → Prop) (H : Hp)

theorem awp_typeInfo (t : TypeId) (Q : TypeInfo → Hp → Prop) : awp P w0 (typeInfo t) Q H = OptK Q H (P.info? t) := by
  simp only [typeInfo, program, awp_bind, awp, BindK]
  cases P.info? t <;> rfl
theorem awp_underlying (t : TypeId) (Q : TypeDesc → Hp → Prop) : awp P w0 (underlying t) Q H = OptK Q H (P.underlying t) := by
  simp only [underlying, program, awp_bind, awp, BindK]
  cases P.underlying t <;> rfl
def szOf (P : Program) (t : TypeId) : Option Nat := (P.info? t).map (·.size)
def zrOf (P : Program) (t : TypeId) : Option Value := (P.info? t).bind (·.zero)
def byOf (P : Program) (t : TypeId) : Option Nat := (P.info? t).map (·.bytes)
def agOf (P : Program) (t : TypeId) : Option Bool := (P.underlying t).map fun d => match d with | .struct _ | .array _ _ => true | _ => false
theorem awp_sizeOf (t : TypeId) (Q : Nat → Hp → Prop) : awp P w0 (sizeOf t) Q H = OptK Q H (szOf P t) := by
  simp only [sizeOf, awp_bind, awp_typeInfo, szOf]
  cases P.info? t <;> rfl
theorem awp_zeroValue (t : TypeId) (Q : Value → Hp → Prop) : awp P w0 (zeroValue t) Q H = OptK Q H (zrOf P t) := by
  simp only [zeroValue, awp_bind, awp_typeInfo, zrOf]
  cases h : P.info? t with
  | none => rfl
  | some i => simp only [OptK, BindK, Option.bind_some]; cases i.zero <;> rfl
theorem awp_isAgg (t : TypeId) (Q : Bool → Hp → Prop) : awp P w0 (isAgg t) Q H = OptK Q H (agOf P t) := by
  simp only [isAgg, awp_bind, awp_underlying, agOf]
  cases h : P.underlying t with
  | none => rfl
  | some d => cases d <;> rfl

/-! ### Operations -/
section
variable (dst : Option Tmp) (ty : TypeId) (pos : String) (after : Array Edge) (g : Option (Nat × Bool))

theorem aop_move (x : Operand) : AOp P w0 F ⟨dst, .move x, ty, pos, after, g⟩ K H = K (evF F x) H := rfl
theorem aop_assign (x : Operand) : AOp P w0 F ⟨dst, .assign x, ty, pos, after, g⟩ K H = K (evF F x) H := rfl
theorem aop_pick (c a b : Operand) : AOp P w0 F ⟨dst, .pick c a b, ty, pos, after, g⟩ K H = PickK K H (evF F a) (evF F b) (evF F c) := by
  unfold AOp
  simp only [execOp, awp_bind, awp_pure, BindK]
  cases evF F c <;> rfl
theorem aop_nilCheck (x : Operand) : AOp P w0 F ⟨dst, .nilCheck x, ty, pos, after, g⟩ K H = NilK (AOp0 P w0 F ⟨dst, .nilCheck x, ty, pos, after, g⟩ K H) K H (evF F x) := by
  unfold NilK
  split
  · rename_i a h
    unfold AOp
    simp only [execOp, h, awp_pure, ANx]
  · rfl
theorem aop_extract (x : Operand) (i : Nat) : AOp P w0 F ⟨dst, .extract x i, ty, pos, after, g⟩ K H = ExtK K H i (evF F x) := by
  unfold AOp
  simp only [execOp, awp_bind, Instr.extract]
  cases evF F x <;> try rfl
  rename_i vs
  simp only [ExtK]
  cases vs[i]? <;> rfl
theorem aop_not (t : TypeId) (x : Operand) : AOp P w0 F ⟨dst, .unOp .not t x, ty, pos, after, g⟩ K H = (match evF F x with | .bool b => K (.bool !b) H | _ => False) := by
  unfold AOp
  simp only [execOp, awp_bind, Op.unary]
  cases evF F x <;> rfl
theorem aop_makeFunc (fn : Fn) (first captured : Array Operand) :
    AOp P w0 F ⟨dst, .makeFunc fn first captured, ty, pos, after, g⟩ K H = K (.func fn (first.map (evF F)) (captured.map (evF F))) H := rfl
theorem aop_alloc (e : TypeId) : AOp P w0 F ⟨dst, .alloc e, ty, pos, after, g⟩ K H = OptK (fun z H => NewK w0 (.cells z.cells e) (fun b => .pointer (some ⟨b, 0, none⟩)) K H) H (zrOf P e) := by
  unfold AOp
  simp only [execOp, awp_bind, Instr.alloc, awp_zeroValue]
  cases zrOf P e <;> rfl
theorem aop_box (e : TypeId) (x : Operand) : AOp P w0 F ⟨dst, .box e x, ty, pos, after, g⟩ K H = NewK w0 (.cells (evF F x).cells e) (fun b => .pointer (some ⟨b, 0, none⟩)) K H := rfl

/-! loads -/
def ldCells (w0 : World) (H : Hp) (a : Addr) : Nat → Nat → Option (List Value)
  | _, 0 => some []
  | i, n + 1 => (ld w0 H (a.add i)).bind fun v => (ldCells w0 H a (i + 1) n).map (v :: ·)
theorem awp_loadCellsFrom (a : Addr) (Q : Array Value → Hp → Prop) : ∀ (n i : Nat) (acc : Array Value),
    awp P w0 (loadCellsFrom a i n acc) Q H = OptK (fun l H => Q (acc ++ l.toArray) H) H (ldCells w0 H a i n)
  | 0, i, acc => by simp only [loadCellsFrom, awp_pure, ldCells, OptK]; simp
  | n + 1, i, acc => by
    simp only [loadCellsFrom, awp_bind, load, awp, ldCells]
    cases hv : ld w0 H (a.add i) with
    | none => simp [OptK]
    | some v =>
      simp only [BindK, awp_loadCellsFrom a Q n (i + 1), Option.bind_some]
      cases ldCells w0 H a (i + 1) n with
      | none => rfl
      | some l => simp [OptK]
/-- What is loaded at a type. -/
def ldVar (P : Program) (w0 : World) (H : Hp) (t : TypeId) (a : Addr) : Option Value :=
  match agOf P t with
  | some true => (szOf P t).bind fun n => (ldCells w0 H a 0 n).map fun l => .agg l.toArray
  | some false => ld w0 H a
  | none => none
theorem awp_loadVar (t : TypeId) (a : Addr) (Q : Value → Hp → Prop) : awp P w0 (loadVar t a) Q H = OptK Q H (ldVar P w0 H t a) := by
  simp only [loadVar, awp_bind, awp_isAgg, ldVar]
  cases agOf P t with
  | none => rfl
  | some b =>
    cases b with
    | true =>
      simp only [OptK, BindK, if_true, awp_bind, awp_sizeOf]
      cases szOf P t with
      | none => rfl
      | some n =>
        simp only [OptK, BindK, Option.bind_some, loadCells, awp_bind, awp_loadCellsFrom]
        cases ldCells w0 H a 0 n with
        | none => rfl
        | some l => simp [OptK, BindK, awp_pure]
    | false =>
      simp only [OptK, BindK, load, Bool.false_eq_true, if_false, awp]
      cases ld w0 H a <;> rfl
def LoadK (P : Program) (w0 : World) (t : TypeId) (K : Value → Hp → Prop) (H : Hp) : Value → Prop
  | .pointer (some a) => OptK K H (ldVar P w0 H t a)
  | _ => False
theorem aop_load (t : TypeId) (x : Operand) : AOp P w0 F ⟨dst, .load t x, ty, pos, after, g⟩ K H = LoadK P w0 t K H (evF F x) := by
  unfold AOp
  simp only [execOp, awp_bind, Instr.loadAt]
  cases evF F x <;> try rfl
  rename_i a
  cases a with
  | none => rfl
  | some a =>
    simp only [Instr.sureAddr, awp_pure, BindK, awp_loadVar, LoadK]
    cases ldVar P w0 H t a <;> rfl

/-! stores -/
def stCells (w0 : World) (a : Addr) : Nat → List Value → Hp → Option Hp
  | _, [], H => some H
  | i, v :: l, H => if cell1 v = true then (wr H (a.add i)).bind fun o => stCells w0 a (i + 1) l (H.set (a.add i).block (Obj.put o (a.add i).off v)) else none
theorem awp_storeCells (a : Addr) (Q : Unit → Hp → Prop) : ∀ (l : List Value) (i : Nat) (H : Hp),
    awp P w0 (storeCells a l i) Q H = (match stCells w0 a i l H with | some H' => Q () H' | none => False)
  | [], i, H => by simp only [storeCells, awp_pure, stCells]
  | v :: l, i, H => by
    simp only [storeCells, awp_bind, store, awp, stCells]
    by_cases hc : cell1 v = true
    · simp only [hc, if_true, true_and]
      cases wr H (a.add i) with
      | none => rfl
      | some o => simp only [Option.bind_some, BindK, awp_storeCells a Q l]
    · simp [hc]
def StoreK (P : Program) (w0 : World) (t : TypeId) (K : Value → Hp → Prop) (H : Hp) (v : Value) : Value → Prop
  | .pointer (some a) => some v.cells.size = szOf P t ∧ (match stCells w0 a 0 v.cells.toList H with | some H' => K undef H' | none => False)
  | _ => False
theorem aop_store (t : TypeId) (x y : Operand) : AOp P w0 F ⟨dst, .store t x y, ty, pos, after, g⟩ K H = StoreK P w0 t K H (evF F y) (evF F x) := by
  unfold AOp
  simp only [execOp, awp_bind, Instr.storeAt]
  cases evF F x <;> try rfl
  rename_i a
  cases a with
  | none => rfl
  | some a =>
    simp only [Instr.sureAddr, awp_pure, BindK, storeVar, awp_bind, awp_sizeOf, StoreK]
    cases szOf P t with
    | none => simp [OptK]
    | some n =>
      simp only [OptK, BindK]
      by_cases hn : (evF F y).cells.size = n
      · subst hn
        simp only [ne_eq, not_true_eq_false, if_false, awp_pure, BindK, awp_storeCells, true_and]
        cases stCells w0 a 0 (evF F y).cells.toList H <;> rfl
      · have : ¬ (some (evF F y).cells.size = some n) := fun e => hn (Option.some.inj e)
        simp only [ne_eq, hn, not_false_eq_true, if_true, this, false_and]
        rfl

/-! addresses -/
def fldOff (P : Program) (s : TypeId) (f : Nat) : Option Nat :=
  match P.underlying s with
  | some (.struct fs) => (fs[f]?).bind fun fd => (szOf P fd.type).bind fun n => if n = 0 then none else some fd.offset
  | _ => none
def FldK (orig : Prop) (K : Value → Hp → Prop) (H : Hp) (v : Value) : Option Nat → Prop
  | some off => match v with | .pointer (some a) => K (.pointer (some (a.add off))) H | _ => orig
  | none => orig
theorem aop_fieldAddr (s : TypeId) (x : Operand) (f : Nat) : AOp P w0 F ⟨dst, .fieldAddr s x f, ty, pos, after, g⟩ K H =
    FldK (AOp0 P w0 F ⟨dst, .fieldAddr s x f, ty, pos, after, g⟩ K H) K H (evF F x) (fldOff P s f) := by
  unfold FldK
  split
  · rename_i off ho
    split
    · rename_i a ha
      unfold AOp
      unfold fldOff at ho
      split at ho
      · rename_i fs hu
        cases hf : fs[f]? with
        | none => rw [hf] at ho; cases ho
        | some fd =>
          rw [hf, Option.bind_some] at ho
          cases hs : szOf P fd.type with
          | none => rw [hs] at ho; cases ho
          | some n =>
            rw [hs, Option.bind_some] at ho
            by_cases hn : n = 0
            · rw [if_pos hn] at ho; cases ho
            · rw [if_neg hn] at ho
              cases ho
              simp only [execOp, awp_bind, Instr.fieldAt, awp_underlying, hu, OptK, BindK, hf, awp_bind]
              simp only [ha, Instr.sureAddr, awp_pure, BindK, awp_bind, fieldPlace, awp_sizeOf, hs, OptK, if_neg hn, ANx]
      · cases ho
    · rfl
  · rfl
def IdxK (orig : Prop) (P : Program) (K : Value → Hp → Prop) (H : Hp) (x ix : Value) : Option TypeDesc → Prop
  | some (.slice e) => match x, ix with
    | .slice (some a) n _, .int _ i => if 0 ≤ i ∧ i < n then OptK (fun sz H => K (.pointer (some (a.add (i.toNat * sz)))) H) H (szOf P e) else orig
    | _, _ => orig
  | some (.array n e) => match x, ix with
    | .pointer (some a), .int _ i => if 0 ≤ i ∧ i < n then OptK (fun sz H => K (.pointer (some (a.add (i.toNat * sz)))) H) H (szOf P e) else orig
    | _, _ => orig
  | _ => orig
theorem aop_indexAddr (t : TypeId) (x ix : Operand) : AOp P w0 F ⟨dst, .indexAddr t x ix, ty, pos, after, g⟩ K H =
    IdxK (AOp0 P w0 F ⟨dst, .indexAddr t x ix, ty, pos, after, g⟩ K H) P K H (evF F x) (evF F ix) (P.underlying t) := by
  cases hu : P.underlying t with
  | none => rfl
  | some d =>
    unfold IdxK
    split
    · rename_i e he
      cases he
      split
      · rename_i a n c k i hx hi
        split
        · rename_i h01
          unfold AOp
          simp only [execOp, awp_bind, Instr.indexAt]
          simp only [hx, hi, asIntOf, awp_pure, BindK, awp_bind, awp_underlying, hu, OptK]
          rw [if_pos h01]
          simp only [awp_bind, awp_sizeOf]
          cases hs : szOf P e <;> rfl
        · rfl
      · rfl
    · rename_i n e he
      cases he
      split
      · rename_i a k i hx hi
        split
        · rename_i h01
          unfold AOp
          simp only [execOp, awp_bind, Instr.indexAt]
          simp only [hi, asIntOf, awp_pure, BindK, awp_bind, awp_underlying, hu, OptK]
          simp only [hx, Instr.sureAddr, awp_pure, BindK, awp_bind, awp_underlying, hu, OptK]
          rw [if_pos h01]
          simp only [awp_bind, awp_sizeOf]
          cases hs : szOf P e <;> rfl
        · rfl
      · rfl
    · rfl

/-! operators -/
/-- The operators on whole numbers, bools, strings, and pointers against nil. -/
def bin (u : Option TypeDesc) (op : BinOp) (x y : Value) : Option Value :=
  match x, y with
  | .int k a, .int k' b =>
    match op with
    | .shl => if b < 0 then none else some (.int k (k.wrap (a * 2 ^ (min b.toNat k.bits))))
    | .shr => if b < 0 then none else some (.int k (a.fdiv (2 ^ (min b.toNat k.bits))))
    | op =>
    if k = k' then
    match op with
    | .add => some (.int k (k.wrap (a + b)))
    | .sub => some (.int k (k.wrap (a - b)))
    | .mul => some (.int k (k.wrap (a * b)))
    | .quo => if b = 0 then none else some (.int k (k.wrap (a.tdiv b)))
    | .rem => if b = 0 then none else some (.int k (a.tmod b))
    | .and => some (.int k (k.wrap (BitVec.ofInt k.bits a &&& BitVec.ofInt k.bits b).toNat))
    | .or => some (.int k (k.wrap (BitVec.ofInt k.bits a ||| BitVec.ofInt k.bits b).toNat))
    | .xor => some (.int k (k.wrap (BitVec.ofInt k.bits a ^^^ BitVec.ofInt k.bits b).toNat))
    | .andNot => some (.int k (k.wrap (BitVec.ofInt k.bits a &&& ~~~ BitVec.ofInt k.bits b).toNat))
    | .eql => some (.bool (a == b))
    | .neq => some (.bool (a != b))
    | .lss => some (.bool (a < b))
    | .leq => some (.bool (a ≤ b))
    | .gtr => some (.bool (a > b))
    | .geq => some (.bool (a ≥ b))
    | .shl => none
    | .shr => none
    else none
  | .string a, .string b =>
    match op with
    | .eql => some (.bool (a.toList == b.toList))
    | .neq => some (.bool !(a.toList == b.toList))
    | .lss => some (.bool (Op.bytesLess a.toList b.toList))
    | _ => none
  | .bool a, .bool b =>
    match u with
    | some .bool =>
      match op with
      | .eql => some (.bool (a == b))
      | .neq => some (.bool !(a == b))
      | _ => none
    | _ => none
  | .pointer a, .pointer none =>
    match u with
    | some (.pointer _) =>
      match op with
      | .eql => some (.bool a.isNone)
      | .neq => some (.bool !a.isNone)
      | _ => none
    | _ => none
  | .slice a _ _, .slice none _ _ =>
    match u with
    | some (.slice _) =>
      match op with
      | .eql => some (.bool a.isNone)
      | .neq => some (.bool !a.isNone)
      | _ => none
    | _ => none
  | _, _ => none

def BinK (orig : Prop) (K : Value → Hp → Prop) (H : Hp) : Option Value → Prop
  | some v => K v H
  | none => orig

theorem awp_eqGuard (op : BinOp) (t : TypeId) (x y : Operand) (a b : Value) (ha : ∀ c, a ≠ .agg c) (hn : a ≠ .nilIface) (Q : Unit → Hp → Prop) :
    awp P w0 (eqGuard op t x y a b) Q H = Q () H := by
  unfold eqGuard
  cases op <;> first | rfl | skip
  all_goals
    cases a <;> first | exact absurd rfl hn | exact absurd rfl (ha _) | (cases b <;> rfl)

theorem awp_equal_bool (t : TypeId) (a b : Bool) (hu : P.underlying t = some .bool) (Q : Bool → Hp → Prop) :
    awp P w0 (Op.equal t (.bool a) (.bool b)) Q H = Q (a == b) H := by
  show awp P w0 (Op.equalIn (9999 + 1) t (.bool a) (.bool b)) Q H = _
  rw [Op.equalIn]
  simp only [awp_bind, awp_underlying, hu, OptK, BindK, awp_pure]
theorem awp_equal_ptr (t e : TypeId) (a : Option Addr) (hu : P.underlying t = some (.pointer e)) (Q : Bool → Hp → Prop) :
    awp P w0 (Op.equal t (.pointer a) (.pointer none)) Q H = Q a.isNone H := by
  show awp P w0 (Op.equalIn (9999 + 1) t (.pointer a) (.pointer none)) Q H = _
  rw [Op.equalIn]
  cases a <;> simp only [awp_bind, awp_underlying, hu, OptK, BindK, awp_pure, Option.isNone]
theorem awp_equal_slice (t e : TypeId) (a : Option Addr) (n c n' c' : Nat) (hu : P.underlying t = some (.slice e)) (Q : Bool → Hp → Prop) :
    awp P w0 (Op.equal t (.slice a n c) (.slice none n' c')) Q H = Q a.isNone H := by
  show awp P w0 (Op.equalIn (9999 + 1) t (.slice a n c) (.slice none n' c')) Q H = _
  rw [Op.equalIn]
  cases a <;> simp only [awp_bind, awp_underlying, hu, OptK, BindK, awp_pure, Option.isNone]

theorem bin_sound (op : BinOp) (t : TypeId) (x y v : Value) (Q : Value → Hp → Prop) (h : bin (P.underlying t) op x y = some v) :
    awp P w0 (binOp op t x y) Q H = Q v H := by
  unfold bin at h
  split at h
  · rename_i k a k' b
    split at h
    · split at h
      · cases h
      · rename_i hb
        cases h
        simp only [binOp, Op.shift, if_neg hb]; rfl
    · split at h
      · cases h
      · rename_i hb
        cases h
        simp only [binOp, Op.shift, if_neg hb]; rfl
    · rename_i h1 h2
      split at h
      · rename_i hk
        subst hk
        cases op <;> simp only [binOp, ne_eq, not_true_eq_false, if_false, Op.intArith, Op.intDiv, Op.intBits, Op.intCmp] at h ⊢ <;>
          first
            | (cases h; rfl)
            | (exact absurd rfl h1)
            | (exact absurd rfl h2)
            | (split at h
               · cases h
               · rename_i hb; cases h; rw [if_neg hb]; rfl)
      · cases h
  · split at h <;> first | (cases h; done) | skip
    all_goals (cases h; rfl)
  · rename_i a b
    cases hu : P.underlying t with
    | none => rw [hu] at h; cases h
    | some d =>
      rw [hu] at h
      cases d <;> first | (cases h; done) | skip
      cases op <;> simp only [] at h <;> first | (cases h; done) | skip
      all_goals
        cases h
        simp only [binOp, awp_bind, awp_equal_bool P w0 H t _ _ hu, BindK, awp_pure]
  · rename_i a
    cases hu : P.underlying t with
    | none => rw [hu] at h; cases h
    | some d =>
      rw [hu] at h
      cases d <;> first | (cases h; done) | skip
      cases op <;> simp only [] at h <;> first | (cases h; done) | skip
      all_goals
        cases h
        simp only [binOp, awp_bind, awp_equal_ptr P w0 H t _ _ hu, BindK, awp_pure]
  · rename_i a _ _ _ _
    cases hu : P.underlying t with
    | none => rw [hu] at h; cases h
    | some d =>
      rw [hu] at h
      cases d <;> first | (cases h; done) | skip
      cases op <;> simp only [] at h <;> first | (cases h; done) | skip
      all_goals
        cases h
        simp only [binOp, awp_bind, awp_equal_slice P w0 H t _ _ _ _ _ _ hu, BindK, awp_pure]
  · cases h

theorem bin_left (u : Option TypeDesc) (op : BinOp) (x y v : Value) (h : bin u op x y = some v) : (∀ c, x ≠ .agg c) ∧ x ≠ .nilIface := by
  unfold bin at h
  split at h <;> first | (cases h; done) | exact ⟨(by intro c e; cases e), (by intro e; cases e)⟩

theorem aop_binOp (op : BinOp) (t t' : TypeId) (x y : Operand) : AOp P w0 F ⟨dst, .binOp op t x y t', ty, pos, after, g⟩ K H =
    BinK (AOp0 P w0 F ⟨dst, .binOp op t x y t', ty, pos, after, g⟩ K H) K H (bin (P.underlying t) op (evF F x) (evF F y)) := by
  unfold BinK
  split
  · rename_i v hv
    obtain ⟨h1, h2⟩ := bin_left _ _ _ _ _ hv
    unfold AOp
    simp only [execOp, awp_bind]
    rw [awp_eqGuard P w0 H op t x y _ _ h1 h2]
    simp only [BindK]
    rw [bin_sound P w0 H op t _ _ v _ hv]
    rfl
  · rfl

/-! conversions between whole numbers -/
def convV (d : Option TypeDesc) (x : Value) : Option Value :=
  match d, x with
  | some (.int k), .int _ n => some (.int k (k.wrap n))
  | _, _ => none
theorem aop_convert (s d : TypeId) (x : Operand) (hs : (P.underlying s).isSome = true) : AOp P w0 F ⟨dst, .convert s d x, ty, pos, after, g⟩ K H =
    BinK (AOp0 P w0 F ⟨dst, .convert s d x, ty, pos, after, g⟩ K H) K H (convV (P.underlying d) (evF F x)) := by
  unfold BinK
  split
  · rename_i v hv
    unfold convV at hv
    split at hv
    · rename_i k k' n hd hx
      cases hv
      obtain ⟨ds, hs'⟩ := Option.isSome_iff_exists.1 hs
      unfold AOp
      simp only [execOp, awp_bind, convert, awp_underlying, hs', hd, hx, OptK, BindK, Conv.intToInt, awp_pure, ANx]
    · cases hv
  · rfl
end
end Go.Proofs.YtoolnkemkhianaaDoorW
