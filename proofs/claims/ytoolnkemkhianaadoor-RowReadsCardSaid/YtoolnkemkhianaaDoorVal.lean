/-
  A value: the equality of two, what is right.
  Conditions: as each theorem states them.
-/
import Derived.Test.YtoolnkemkhianaaDoorUtw
namespace Go.Proofs.YtoolnkemkhianaaDoor
open Go Go.RowKit Go.Proofs.YtoolnkemkhianaaDoorW
set_option maxRecDepth 100000
set_option maxHeartbeats 1000000
set_option linter.unusedSimpArgs false
set_option linter.unusedVariables false

structure Va where
  k : Nat
  i : Int
  s : List UInt8
  b : Bool
def vc (v : Va) : List Value := [.int .u8 (v.k : Int), .int .i64 v.i, .string (str v.s), .bool v.b]
def va (v : Va) : Value := .agg (vc v).toArray
theorem va_cells (v : Va) : (va v).cells = (vc v).toArray := rfl
theorem va_agg (v : Va) : Value.agg (vc v).toArray = va v := rfl
theorem vc_at0 (v : Va) : (vc v).toArray[0]? = some (.int .u8 (v.k : Int)) := rfl
theorem vc_at1 (v : Va) : (vc v).toArray[1]? = some (.int .i64 v.i) := rfl
theorem vc_at2 (v : Va) : (vc v).toArray[2]? = some (.string (str v.s)) := rfl
theorem vc_at3 (v : Va) : (vc v).toArray[3]? = some (.bool v.b) := rfl
theorem vl_at0 (v : Va) : (vc v)[0]? = some (.int .u8 (v.k : Int)) := rfl
theorem vl_at1 (v : Va) : (vc v)[1]? = some (.int .i64 v.i) := rfl
theorem vl_at2 (v : Va) : (vc v)[2]? = some (.string (str v.s)) := rfl
theorem vl_at3 (v : Va) : (vc v)[3]? = some (.bool v.b) := rfl
theorem vc_cell (v : Va) : (vc v).all cell1 = true := rfl
theorem bdv0 (x : Int) : bdCells Tryd.prog 36 #[(0, .int .u8 x)] = some #[.int .u8 x, .int .i64 0, .string ⟨#[]⟩, .bool false] := by kernel_rfl
theorem bdv1 (x y : Int) : bdCells Tryd.prog 36 #[(0, .int .u8 x), (1, .int .i64 y)] = some #[.int .u8 x, .int .i64 y, .string ⟨#[]⟩, .bool false] := by kernel_rfl
theorem bdv2 (x : Int) (y : ByteArray) : bdCells Tryd.prog 36 #[(0, .int .u8 x), (2, .string y)] = some #[.int .u8 x, .int .i64 0, .string y, .bool false] := by kernel_rfl
theorem bdv3 (x : Int) (y : Bool) : bdCells Tryd.prog 36 #[(0, .int .u8 x), (3, .bool y)] = some #[.int .u8 x, .int .i64 0, .string ⟨#[]⟩, .bool y] := by kernel_rfl
attribute [go_sem] va_cells va_agg vc_at0 vc_at1 vc_at2 vc_at3 vl_at0 vl_at1 vl_at2 vl_at3 ldK_agg Option.bind_some Option.map_some bdv0 bdv1 bdv2 bdv3
def Va.wf (v : Va) : Prop := v.k < 256 ∧ -9223372036854775808 ≤ v.i ∧ v.i < 9223372036854775808
def eqV (x y : Va) : Bool := decide (x.k = y.k) && (decide (x.i = y.i) && ((x.s == y.s) && (x.b == y.b)))
theorem eqV_iff {x y : Va} : eqV x y = true ↔ x = y := by
  cases x; cases y
  simp [eqV]
theorem str_beq (p q : List UInt8) : (str p == str q) = (p == q) := by
  show (p.toArray == q.toArray) = _
  simp
theorem vguard : Tryd.prog.eqGuardType Tryd.prog.depth 36 = false := by kernel_rfl
theorem vstood : Tryd.prog.stoodInHeld 36 = false := by kernel_rfl
section
variable {w0 : World} {H : Hp}
theorem awp_eq_int {d t : Nat} {ik k : IntKind} {a b : Int} {Q : Bool → Hp → Prop} {P : Program} (hu : P.underlying t = some (.int ik)) : awp P w0 (Op.equalIn (d + 1) t (.int k a) (.int k b)) Q H = Q (a == b) H := by
  rw [Op.equalIn]
  simp only [awp_bind, awp_underlying, hu, OptK, BindK, if_true, awp_pure]
theorem awp_eq_str {d t : Nat} {a b : ByteArray} {Q : Bool → Hp → Prop} {P : Program} (hu : P.underlying t = some .string) : awp P w0 (Op.equalIn (d + 1) t (.string a) (.string b)) Q H = Q (a == b) H := by
  rw [Op.equalIn]
  simp only [awp_bind, awp_underlying, hu, OptK, BindK, awp_pure]
theorem awp_eq_bool {d t : Nat} {a b : Bool} {Q : Bool → Hp → Prop} {P : Program} (hu : P.underlying t = some .bool) : awp P w0 (Op.equalIn (d + 1) t (.bool a) (.bool b)) Q H = Q (a == b) H := by
  rw [Op.equalIn]
  simp only [awp_bind, awp_underlying, hu, OptK, BindK, awp_pure]
theorem awp_eqv (x y : Va) (Q : Bool → Hp → Prop) : awp Tryd.prog w0 (Op.equal 36 (va x) (va y)) Q H = Q (eqV x y) H := by
  show awp Tryd.prog w0 (Op.equalIn (9999 + 1) 36 (va x) (va y)) Q H = _
  rw [Op.equalIn]
  simp only [awp_bind, awp_underlying, Tryd.underlying36, OptK, BindK, va]
  simp only [program, awp, awp_bind, BindK, vstood, Bool.false_eq_true, if_false, awp_pure]
  have n1 : ¬ ("Kind" = "_") := by decide
  have n2 : ¬ ("I" = "_") := by decide
  have n3 : ¬ ("S" = "_") := by decide
  have n4 : ¬ ("B" = "_") := by decide
  simp only [List.forIn_toArray, List.forIn_cons, List.forIn_nil, awp_bind, part, awp_isAgg, BindK, OptK, vc, List.getElem?_toArray, List.getElem?_cons_zero, List.getElem?_cons_succ, awp_pure, ne_eq, if_pos n1, a34, Bool.false_eq_true, if_false, awp_eq_int (d := 9998) Tryd.underlying34]
  unfold eqV
  by_cases c1 : x.k = y.k
  · have e1 : (((x.k : Int)) == (y.k : Int)) = true := by rw [c1]; simp
    rw [decide_eq_true c1]
    simp only [e1, Bool.not_true, Bool.false_eq_true, if_false, awp_pure, BindK, awp_bind, if_pos n2, awp_isAgg, OptK, a2, awp_eq_int (d := 9998) Tryd.underlying2]
    by_cases c2 : x.i = y.i
    · have e2 : (x.i == y.i) = true := by rw [c2]; simp
      rw [decide_eq_true c2]
      simp only [e2, Bool.not_true, Bool.false_eq_true, if_false, awp_pure, BindK, awp_bind, if_pos n3, awp_isAgg, OptK, a9, awp_eq_str (d := 9998) Tryd.underlying9, str_beq]
      cases c3 : (x.s == y.s) with
      | true =>
        simp only [decide_true, Bool.not_true, Bool.false_eq_true, if_false, awp_pure, BindK, awp_bind, if_pos n4, awp_isAgg, OptK, a4, awp_eq_bool (d := 9998) Tryd.underlying4]
        cases c4 : (x.b == y.b) with
        | true => simp only [Bool.not_true, Bool.false_eq_true, if_false, awp_pure, BindK, awp_bind, Bool.and_self, beq_self_eq_true, Bool.true_and]
        | false => simp only [Bool.not_false, if_true, awp_pure, BindK, awp_bind, Bool.and_false]
      | false => simp only [Bool.not_false, if_true, awp_pure, BindK, awp_bind, Bool.and_false, Bool.false_and]
    · have e2 : (x.i == y.i) = false := beq_eq_false_iff_ne.2 c2
      rw [decide_eq_false c2]
      simp only [e2, Bool.not_false, if_true, awp_pure, BindK, awp_bind, Bool.and_false, Bool.false_and]
  · have e1 : (((x.k : Int)) == (y.k : Int)) = false := beq_eq_false_iff_ne.2 fun e => c1 (by omega)
    rw [decide_eq_false c1]
    simp only [e1, Bool.not_false, if_true, awp_pure, BindK, awp_bind, Bool.false_and]
theorem awp_guardv (op : BinOp) (x y : Operand) (u v : Va) (Q : Unit → Hp → Prop) : awp Tryd.prog w0 (eqGuard op 36 x y (va u) (va v)) Q H = Q () H := by
  unfold eqGuard
  cases op <;> first | rfl | skip
  all_goals
    simp only [va, Bool.not_true, Bool.false_eq_true, if_false, awp_bind, program, awp, BindK, vguard, Bool.not_false, if_true, awp_pure]
variable {F : Fr} {K : Value → Hp → Prop} {dst : Option Tmp} {ty : TypeId} {pos : String} {after : Array Edge} {g : Option (Nat × Bool)}
theorem aop_eqv {x y : Operand} {t' : TypeId} {u v : Va} (hx : evF F x = va u) (hy : evF F y = va v) (hK : K (.bool (eqV u v)) H) : AOp Tryd.prog w0 F ⟨dst, .binOp .eql 36 x y t', ty, pos, after, g⟩ K H := by
  unfold AOp
  simp only [execOp, awp_bind, hx, hy, awp_guardv, BindK]
  have : awp Tryd.prog w0 (binOp .eql 36 (va u) (va v)) = awp Tryd.prog w0 (do return .bool (← Op.equal 36 (va u) (va v))) := rfl
  rw [this]
  simp only [awp_bind, awp_eqv, BindK, awp_pure, ANx]
  exact hK
theorem aop_nev {x y : Operand} {t' : TypeId} {u v : Va} (hx : evF F x = va u) (hy : evF F y = va v) (hK : K (.bool (!eqV u v)) H) : AOp Tryd.prog w0 F ⟨dst, .binOp .neq 36 x y t', ty, pos, after, g⟩ K H := by
  unfold AOp
  simp only [execOp, awp_bind, hx, hy, awp_guardv, BindK]
  have : awp Tryd.prog w0 (binOp .neq 36 (va u) (va v)) = awp Tryd.prog w0 (do return .bool !(← Op.equal 36 (va u) (va v))) := rfl
  rw [this]
  simp only [awp_bind, awp_eqv, BindK, awp_pure, ANx]
  exact hK
end
end Go.Proofs.YtoolnkemkhianaaDoor
