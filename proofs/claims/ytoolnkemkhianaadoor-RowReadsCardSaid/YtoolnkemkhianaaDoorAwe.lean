/-
  The equations by which code is gone through, each for a value whose head is known.
  No condition: every theorem here is general.
-/
import Derived.Test.YtoolnkemkhianaaDoorAwf
set_option linter.unusedSimpArgs false
set_option linter.unusedVariables false
namespace Go.Proofs.YtoolnkemkhianaaDoorW
open Go Go.RowKit

section
variable {P : Program} {w0 : World} {N : Nat} {ops : Array Oper} {F : Fr} {H : Hp} {K : Value → Hp → Prop} {KF : Fr → Hp → Prop} {Q : Exit → Fr → Hp → Prop} {o : Oper} {l : List Oper} {orig : Prop}

theorem vc_skip : VC P w0 N .skip Q F H = Q .normal F H := rfl
theorem vc_region {id : Nat} {l : List Oper} : VC P w0 N (.region id l.toArray false) Q F H = VOps P w0 N l.toArray l (NormK Q) F H := rfl
theorem vc_seq {a b : Code} : VC P w0 N (.seq a b) Q F H = VC P w0 N a (SeqK (VC P w0 N b Q) Q) F H := rfl
theorem vc_cond {c : Operand} {x y : Code} : VC P w0 N (.cond c x y) Q F H = CondK (VC P w0 N x Q) (VC P w0 N y Q) F H (evF F c) := rfl
theorem vc_block {id : Nat} {c : Code} : VC P w0 N (.block id c) Q F H = VC P w0 N c (BlockK id Q) F H := rfl
theorem vc_exit {id : Nat} : VC P w0 N (.exit id) Q F H = Q (.exit id) F H := rfl
theorem vc_ret : VC P w0 N .ret Q F H = Q .ret F H := rfl
theorem normK : NormK Q F H = Q .normal F H := rfl
theorem vops_nil : VOps P w0 N ops [] KF F H = KF F H := rfl
theorem vops_cons : VOps P w0 N ops (o :: l) KF F H = (okDst N o.dst = true ∧ WantK P w0 (VOps P w0 N ops l KF) F H o (Region.wanted o (yieldF ops F))) := rfl
theorem want_true : WantK P w0 KF F H o true = AOp P w0 F o (PutK KF F o.dst) H := rfl
theorem want_false : WantK P w0 KF F H o false = KF (putF F o.dst undef) H := rfl
theorem putK_eq {d : Option Tmp} {v : Value} : PutK KF F d v H = KF (putF F d v) H := rfl
theorem putF_some {d : Tmp} {v : Value} : putF F (some d) v = upd F d v := rfl
theorem putF_none {v : Value} : putF F none v = F := rfl
theorem seqK_normal : SeqK KF Q .normal F H = KF F H := rfl
theorem seqK_exit {id : Nat} : SeqK KF Q (.exit id) F H = Q (.exit id) F H := rfl
theorem seqK_ret : SeqK KF Q .ret F H = Q .ret F H := rfl
theorem blockK_normal {id : Nat} : BlockK id Q .normal F H = Q .normal F H := rfl
theorem blockK_ret {id : Nat} : BlockK id Q .ret F H = Q .ret F H := rfl
theorem blockK_exit {id id' : Nat} : BlockK id Q (.exit id') F H = BlockE (decide (id' = id)) id' Q F H := by
  unfold BlockK BlockE
  by_cases h : id' = id <;> simp [h]
theorem blockE_true {id : Nat} : BlockE true id Q F H = Q .normal F H := rfl
theorem blockE_false {id : Nat} : BlockE false id Q F H = Q (.exit id) F H := rfl
theorem condK_true {X Y : Fr → Hp → Prop} : CondK X Y F H (.bool true) = X F H := rfl
theorem condK_false {X Y : Fr → Hp → Prop} : CondK X Y F H (.bool false) = Y F H := rfl
theorem condK_decide {X Y : Fr → Hp → Prop} {p : Prop} [Decidable p] (h1 : p → X F H) (h2 : ¬ p → Y F H) : CondK X Y F H (.bool (decide p)) := by
  by_cases h : p
  · rw [decide_eq_true h]; exact h1 h
  · rw [decide_eq_false h]; exact h2 h
theorem condK_bool {X Y : Fr → Hp → Prop} {b : Bool} (h1 : b = true → X F H) (h2 : b = false → Y F H) : CondK X Y F H (.bool b) := by
  cases b
  · exact h2 rfl
  · exact h1 rfl
theorem retK_normal {rs : List ResultVar} {R : Value → Hp → Prop} : RetK P w0 rs R .normal F H = ResK R H (resVal P w0 F H rs) := rfl
theorem retK_ret {rs : List ResultVar} {R : Value → Hp → Prop} : RetK P w0 rs R .ret F H = ResK R H (resVal P w0 F H rs) := rfl
theorem resK_some {R : Value → Hp → Prop} {v : Value} : ResK R H (some v) = R v H := rfl
theorem resVal_none : resVal P w0 F H [] = some (.tuple #[]) := rfl
theorem resVal_one {x : ResultVar} : resVal P w0 F H [x] = resOne P w0 F H x := rfl
theorem resVal_tt {t u : Tmp} : resVal P w0 F H [.tmp t, .tmp u] = some (.tuple #[F t, F u]) := rfl
theorem resOne_tmp {t : Tmp} : resOne P w0 F H (.tmp t) = some (F t) := rfl
theorem resOne_cell {a : Tmp} {t : TypeId} : resOne P w0 F H (.cell a t) = ResCell P w0 H t (F a) := by
  unfold resOne ResCell
  simp only []
theorem resCell_ptr {t : TypeId} {ad : Addr} : ResCell P w0 H t (.pointer (some ad)) = ldVar P w0 H t ad := rfl
theorem wanted_none {d : Option Tmp} {op : Op} {t : TypeId} {p : String} {a : Array Edge} {y : Nat → Option Bool} : Region.wanted ⟨d, op, t, p, a, none⟩ y = true := rfl
theorem wanted_some {d : Option Tmp} {op : Op} {t : TypeId} {p : String} {a : Array Edge} {j : Nat} {b : Bool} {y : Nat → Option Bool} : Region.wanted ⟨d, op, t, p, a, some (j, b)⟩ y = (y j == some b) := rfl
theorem yieldF_eq {j : Nat} : yieldF ops F j = YieldK F ((ops[j]?).bind (·.dst)) := rfl
theorem yieldK_some {d : Tmp} : YieldK F (some d) = slotBool (F d) := rfl
theorem slotBool_bool {b : Bool} : slotBool (.bool b) = some b := rfl
theorem slotBool_undef : slotBool undef = none := rfl
theorem beq_none_some {b : Bool} : ((none : Option Bool) == some b) = false := rfl
theorem beq_some_true {b : Bool} : (some b == some true) = b := by cases b <;> rfl
theorem beq_some_false {b : Bool} : (some b == some false) = !b := by cases b <;> rfl
theorem okDst_none : okDst N none = true := rfl
theorem okDst_some {d : Tmp} : okDst N (some d) = decide (d < N) := rfl
theorem ev_tmp {t : Tmp} : evF F (.tmp t) = F t := rfl
theorem ev_const {v : Value} : evF F (.const v) = v := rfl
theorem ev_func {f : FuncId} : evF F (.func f) = .func (.func f) #[] #[] := rfl
theorem ev_global {g : Nat} : evF F (.global g) = .pointer (some ⟨g, 0, none⟩) := rfl
theorem argF_at {args : List Value} {i : Nat} : argF args.toArray i = (args[i]?).getD undef := by simp [argF]

theorem pickK_true {x y : Value} : PickK K H x y (.bool true) = K x H := rfl
theorem pickK_false {x y : Value} : PickK K H x y (.bool false) = K y H := rfl
theorem pickK_or {a b : Bool} : PickK K H (.bool true) (.bool b) (.bool a) = K (.bool (a || b)) H := by cases a <;> rfl
theorem pickK_and {a b : Bool} : PickK K H (.bool b) (.bool false) (.bool a) = K (.bool (a && b)) H := by cases a <;> rfl
theorem nilK_some {a : Addr} : NilK orig K H (.pointer (some a)) = K (.pointer (some a)) H := rfl
theorem extK_eq {i : Nat} {vs : List Value} : ExtK K H i (.tuple vs.toArray) = OptK K H vs[i]? := by simp [ExtK]
theorem optK_some {α : Type} {R : α → Hp → Prop} {a : α} : OptK R H (some a) = R a H := rfl
theorem binK_some {v : Value} : BinK orig K H (some v) = K v H := rfl
theorem fldK_some {off : Nat} {a : Addr} : FldK orig K H (.pointer (some a)) (some off) = K (.pointer (some (a.add off))) H := rfl
theorem loadK_ptr {t : TypeId} {a : Addr} : LoadK P w0 t K H (.pointer (some a)) = OptK K H (ldVar P w0 H t a) := rfl
theorem ldVar_eq {t : TypeId} {a : Addr} : ldVar P w0 H t a = LdK P w0 H t a (agOf P t) := by
  unfold ldVar LdK
  rcases agOf P t with _ | _ | _ <;> rfl
theorem ldK_cell {t : TypeId} {a : Addr} : LdK P w0 H t a (some false) = ld w0 H a := rfl
theorem ldK_agg {t : TypeId} {a : Addr} : LdK P w0 H t a (some true) = (szOf P t).bind fun n => (ldCells w0 H a 0 n).map fun l => .agg l.toArray := rfl
theorem storeK_ptr {t : TypeId} {a : Addr} {v : Value} : StoreK P w0 t K H v (.pointer (some a)) = (some v.cells.size = szOf P t ∧ StK K (stCells w0 a 0 v.cells.toList H)) := by
  unfold StoreK StK
  rfl
theorem stK_some {H' : Hp} : StK K (some H') = K undef H' := rfl
theorem bdK_some {cs : Array Value} : BdK orig K H (some cs) = K (.agg cs) H := rfl
def IdxS (K : Value → Hp → Prop) (a : Addr) (i : Int) (sz : Nat) (H : Hp) : Prop := K (.pointer (some (a.add (i.toNat * sz)))) H
def IdxI (orig : Prop) (P : Program) (K : Value → Hp → Prop) (H : Hp) (a : Addr) (i : Int) (e : TypeId) : Bool → Prop
  | true => OptK (IdxS K a i) H (szOf P e)
  | false => orig
theorem idxS_eq {a : Addr} {i : Int} {sz : Nat} : IdxS K a i sz H = K (.pointer (some (a.add (i.toNat * sz)))) H := rfl
theorem idxI_true {a : Addr} {i : Int} {e : TypeId} : IdxI orig P K H a i e true = OptK (IdxS K a i) H (szOf P e) := rfl
theorem idxK_slice {a : Addr} {n c : Nat} {k : IntKind} {i : Int} {e : TypeId} : IdxK orig P K H (.slice (some a) n c) (.int k i) (some (.slice e)) = IdxI orig P K H a i e (decide (0 ≤ i) && decide (i < (n : Int))) := by
  unfold IdxK IdxI
  simp only []
  by_cases h : 0 ≤ i ∧ i < (n : Int)
  · rw [if_pos h]; simp only [h.1, h.2, decide_true, Bool.and_self]; rfl
  · rw [if_neg h]
    have : (decide (0 ≤ i) && decide (i < (n : Int))) = false := by
      rw [Bool.and_eq_false_iff, decide_eq_false_iff_not, decide_eq_false_iff_not]
      by_cases h0 : 0 ≤ i
      · exact .inr fun h1 => h ⟨h0, h1⟩
      · exact .inl h0
    rw [this]
theorem idxK_array {a : Addr} {n : Nat} {k : IntKind} {i : Int} {e : TypeId} : IdxK orig P K H (.pointer (some a)) (.int k i) (some (.array n e)) = IdxI orig P K H a i e (decide (0 ≤ i) && decide (i < (n : Int))) := by
  unfold IdxK IdxI
  simp only []
  by_cases h : 0 ≤ i ∧ i < (n : Int)
  · rw [if_pos h]; simp only [h.1, h.2, decide_true, Bool.and_self]; rfl
  · rw [if_neg h]
    have : (decide (0 ≤ i) && decide (i < (n : Int))) = false := by
      rw [Bool.and_eq_false_iff, decide_eq_false_iff_not, decide_eq_false_iff_not]
      by_cases h0 : 0 ≤ i
      · exact .inr fun h1 => h ⟨h0, h1⟩
      · exact .inl h0
    rw [this]
def BsE (orig : Prop) (w0 : World) (len e : Nat) (K : Value → Hp → Prop) (H : Hp) : Option (Array Value) → Prop
  | some cs => NewK w0 (.cells cs e) (fun b => .slice (some ⟨b, 0, none⟩) len len) K H
  | none => orig
theorem bsK_slice {len : Nat} {e : TypeId} {parts : Array (Nat × Value)} : BsK orig P w0 len parts K H (some (.slice e)) = BsE orig w0 len e K H (bsCells P e len parts) := by
  unfold BsK BsE
  simp only []
  cases bsCells P e len parts <;> rfl
theorem bsE_some {len : Nat} {e : TypeId} {cs : Array Value} : BsE orig w0 len e K H (some cs) = NewK w0 (.cells cs e) (fun b => .slice (some ⟨b, 0, none⟩) len len) K H := rfl
theorem not_bool {dst : Option Tmp} {ty : TypeId} {pos : String} {after : Array Edge} {g : Option (Nat × Bool)} {t : TypeId} {x : Operand} :
    AOp P w0 F ⟨dst, .unOp .not t x, ty, pos, after, g⟩ K H = NotK K H (evF F x) := by
  rw [aop_not]; unfold NotK; rfl
theorem notK_bool {b : Bool} : NotK K H (.bool b) = K (.bool !b) H := rfl
theorem lenK_slice {a : Option Addr} {n c : Nat} {e : TypeId} : LenK orig (some (.slice e)) K H (.slice a n c) = K (.int .i64 n) H := rfl
theorem lenK_string {s : ByteArray} : LenK orig (some .string) K H (.string s) = K (.int .i64 s.size) H := rfl
end

section
variable {u : Option TypeDesc} {k : IntKind} {a b : Int} {x y : Bool}
theorem bin_add : bin u .add (.int k a) (.int k b) = some (.int k (k.wrap (a + b))) := by
  show (if k = k then _ else _) = _
  rw [if_pos rfl]
theorem bin_sub : bin u .sub (.int k a) (.int k b) = some (.int k (k.wrap (a - b))) := by
  show (if k = k then _ else _) = _
  rw [if_pos rfl]
theorem bin_mul : bin u .mul (.int k a) (.int k b) = some (.int k (k.wrap (a * b))) := by
  show (if k = k then _ else _) = _
  rw [if_pos rfl]
theorem bin_quo (h : (b == 0) = false) : bin u .quo (.int k a) (.int k b) = some (.int k (k.wrap (a.tdiv b))) := by
  have h : ¬ b = 0 := by simpa using h
  show (if k = k then (if b = 0 then none else _) else _) = _
  rw [if_pos rfl, if_neg h]
theorem bin_rem (h : (b == 0) = false) : bin u .rem (.int k a) (.int k b) = some (.int k (a.tmod b)) := by
  have h : ¬ b = 0 := by simpa using h
  show (if k = k then (if b = 0 then none else _) else _) = _
  rw [if_pos rfl, if_neg h]
theorem bin_shl {yk : IntKind} (h : decide (0 ≤ b) = true) : bin u .shl (.int k a) (.int yk b) = some (.int k (k.wrap (a * 2 ^ (min b.toNat k.bits)))) := by
  have h : ¬ b < 0 := by have := of_decide_eq_true h; omega
  show (if b < 0 then none else _) = _
  rw [if_neg h]
theorem bin_shr {yk : IntKind} (h : decide (0 ≤ b) = true) : bin u .shr (.int k a) (.int yk b) = some (.int k (a.fdiv (2 ^ (min b.toNat k.bits)))) := by
  have h : ¬ b < 0 := by have := of_decide_eq_true h; omega
  show (if b < 0 then none else _) = _
  rw [if_neg h]
def andI (k : IntKind) (a b : Int) : Int := k.wrap (BitVec.ofInt k.bits a &&& BitVec.ofInt k.bits b).toNat
def orI (k : IntKind) (a b : Int) : Int := k.wrap (BitVec.ofInt k.bits a ||| BitVec.ofInt k.bits b).toNat
def xorI (k : IntKind) (a b : Int) : Int := k.wrap (BitVec.ofInt k.bits a ^^^ BitVec.ofInt k.bits b).toNat
def andNotI (k : IntKind) (a b : Int) : Int := k.wrap (BitVec.ofInt k.bits a &&& ~~~BitVec.ofInt k.bits b).toNat
theorem bin_and : bin u .and (.int k a) (.int k b) = some (.int k (andI k a b)) := by
  show (if k = k then _ else _) = _
  rw [if_pos rfl]; rfl
theorem bin_or : bin u .or (.int k a) (.int k b) = some (.int k (orI k a b)) := by
  show (if k = k then _ else _) = _
  rw [if_pos rfl]; rfl
theorem bin_xor : bin u .xor (.int k a) (.int k b) = some (.int k (xorI k a b)) := by
  show (if k = k then _ else _) = _
  rw [if_pos rfl]; rfl
theorem bin_andNot : bin u .andNot (.int k a) (.int k b) = some (.int k (andNotI k a b)) := by
  show (if k = k then _ else _) = _
  rw [if_pos rfl]; rfl
theorem bin_eql : bin u .eql (.int k a) (.int k b) = some (.bool (decide (a = b))) := by
  show (if k = k then _ else _) = _
  rw [if_pos rfl]
  rfl
theorem bin_neq : bin u .neq (.int k a) (.int k b) = some (.bool (!decide (a = b))) := by
  show (if k = k then _ else _) = _
  rw [if_pos rfl]
  rfl
theorem bin_lss : bin u .lss (.int k a) (.int k b) = some (.bool (decide (a < b))) := by
  show (if k = k then _ else _) = _
  rw [if_pos rfl]
theorem bin_leq : bin u .leq (.int k a) (.int k b) = some (.bool (decide (a ≤ b))) := by
  show (if k = k then _ else _) = _
  rw [if_pos rfl]
theorem bin_gtr : bin u .gtr (.int k a) (.int k b) = some (.bool (decide (b < a))) := by
  show (if k = k then _ else _) = _
  rw [if_pos rfl]
theorem bin_geq : bin u .geq (.int k a) (.int k b) = some (.bool (decide (b ≤ a))) := by
  show (if k = k then _ else _) = _
  rw [if_pos rfl]
theorem bin_beq : bin (some .bool) .eql (.bool x) (.bool y) = some (.bool (x == y)) := rfl
theorem bin_bne : bin (some .bool) .neq (.bool x) (.bool y) = some (.bool (!(x == y))) := rfl
theorem bin_peq {e : TypeId} {p : Addr} : bin (some (.pointer e)) .eql (.pointer (some p)) (.pointer none) = some (.bool false) := rfl
theorem bin_peqn {e : TypeId} : bin (some (.pointer e)) .eql (.pointer none) (.pointer none) = some (.bool true) := rfl
theorem bin_pne {e : TypeId} {p : Addr} : bin (some (.pointer e)) .neq (.pointer (some p)) (.pointer none) = some (.bool true) := rfl
theorem bin_pnen {e : TypeId} : bin (some (.pointer e)) .neq (.pointer none) (.pointer none) = some (.bool false) := rfl
theorem bin_seq {s t : ByteArray} : bin u .eql (.string s) (.string t) = some (.bool (s.toList == t.toList)) := rfl
theorem bin_sne {s t : ByteArray} : bin u .neq (.string s) (.string t) = some (.bool !(s.toList == t.toList)) := rfl
theorem bin_slt {s t : ByteArray} : bin u .lss (.string s) (.string t) = some (.bool (Op.bytesLess s.toList t.toList)) := rfl
theorem convV_int {k' : IntKind} : convV (some (.int k')) (.int k a) = some (.int k' (k'.wrap a)) := rfl
end
end Go.Proofs.YtoolnkemkhianaaDoorW
