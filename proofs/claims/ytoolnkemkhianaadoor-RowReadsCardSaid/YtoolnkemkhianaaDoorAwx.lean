/-
  Operations on strings: a range, an index, a part; append of a whole row; maps with texts for keys.
  No condition: every theorem here is general.
-/
import Derived.Test.YtoolnkemkhianaaDoorAwk
import Derived.Test.YtoolnkemkhianaaDoorAwn
set_option linter.unusedSimpArgs false
set_option linter.unusedVariables false
namespace Go.Proofs.YtoolnkemkhianaaDoorW
open Go Go.RowKit

section
variable {P : Program} {w0 : World} {F : Fr} {H : Hp} {K : Value → Hp → Prop} {dst : Option Tmp} {ty : TypeId} {pos : String} {after : Array Edge} {g : Option (Nat × Bool)} {orig : Prop}
def RngK (orig : Prop) (w0 : World) (K : Value → Hp → Prop) (H : Hp) (v : Value) : Option TypeDesc → Prop
  | some .string => match v with | .string s => NewK w0 (.stringIter s 0) (fun b => .pointer (some ⟨b, 0, none⟩)) K H | _ => orig
  | _ => orig
theorem aop_range (t : TypeId) (x : Operand) : AOp P w0 F ⟨dst, .range t x, ty, pos, after, g⟩ K H = RngK (AOp0 P w0 F ⟨dst, .range t x, ty, pos, after, g⟩ K H) w0 K H (evF F x) (P.underlying t) := by
  unfold RngK
  split
  · rename_i hu
    split
    · rename_i s hs
      unfold AOp
      simp only [execOp, awp_bind, Instr.range, awp_underlying, hu, hs, OptK, BindK, awp_pure, newObj, awp, ANx]
      rfl
    · rfl
  · rfl
theorem rngK_str {s : ByteArray} : RngK orig w0 K H (.string s) (some .string) = NewK w0 (.stringIter s 0) (fun b => .pointer (some ⟨b, 0, none⟩)) K H := rfl
def NxtK (K : Value → Hp → Prop) (H : Hp) (r : Nat) (s : ByteArray) (p : Nat) : Bool → Prop
  | true => K (.tuple #[.bool true, .int .i64 (p : Int), .int .i32 ((Utf8.decode s p).1 : Int)]) (H.set r (.stringIter s (p + (Utf8.decode s p).2)))
  | false => K (.tuple #[.bool false]) H
theorem aop_next {x : Operand} {r : Nat} {s : ByteArray} {p : Nat} (hx : evF F x = .pointer (some ⟨r, 0, none⟩)) (hr : H r = some (.stringIter s p)) :
    AOp P w0 F ⟨dst, .next x true, ty, pos, after, g⟩ K H = NxtK K H r s p (decide (p < s.size)) := by
  unfold AOp
  simp only [execOp, awp_bind, Instr.next, hx, getObj, awp, hr, BindK]
  by_cases h : p < s.size
  · rw [if_pos h, decide_eq_true h]
    simp only [awp_bind, setObj, awp, hr, BindK, awp_pure, ANx, NxtK]
    rfl
  · rw [if_neg h, decide_eq_false h]
    simp only [awp_pure, BindK, ANx, NxtK]
def NxO (orig : Prop) (K : Value → Hp → Prop) (H : Hp) (r : Nat) : Option Obj → Prop
  | some (.stringIter s p) => NxtK K H r s p (decide (p < s.size))
  | _ => orig
def NxV (orig : Prop) (K : Value → Hp → Prop) (H : Hp) : Value → Prop
  | .pointer (some ⟨r, 0, none⟩) => NxO orig K H r (H r)
  | _ => orig
theorem aop_nextV {x : Operand} : AOp P w0 F ⟨dst, .next x true, ty, pos, after, g⟩ K H = NxV (AOp0 P w0 F ⟨dst, .next x true, ty, pos, after, g⟩ K H) K H (evF F x) := by
  unfold NxV
  split
  · rename_i r hx
    unfold NxO
    split
    · rename_i s p hr
      exact aop_next hx hr
    · rfl
  · rfl
theorem nxV_ptr {r : Nat} : NxV orig K H (.pointer (some ⟨r, 0, none⟩)) = NxO orig K H r (H r) := rfl
theorem nxO_str {r : Nat} {s : ByteArray} {p : Nat} : NxO orig K H r (some (.stringIter s p)) = NxtK K H r s p (decide (p < s.size)) := rfl
theorem nxtK_true {r : Nat} {s : ByteArray} {p : Nat} : NxtK K H r s p true = K (.tuple #[.bool true, .int .i64 (p : Int), .int .i32 ((Utf8.decode s p).1 : Int)]) (H.set r (.stringIter s (p + (Utf8.decode s p).2))) := rfl
theorem nxtK_false {r : Nat} {s : ByteArray} {p : Nat} : NxtK K H r s p false = K (.tuple #[.bool false]) H := rfl

/-- A string's byte as a number. -/
def bt (s : ByteArray) (i : Nat) : Nat := (s.get! i).toNat
theorem bt_lt (s : ByteArray) (i : Nat) : bt s i < 256 := by unfold bt; exact (s.get! i).toNat_lt
def IxsK (orig : Prop) (K : Value → Hp → Prop) (H : Hp) (s : ByteArray) (i : Int) : Bool → Prop
  | true => K (.int .u8 (bt s i.toNat : Int)) H
  | false => orig
def IxV (orig : Prop) (K : Value → Hp → Prop) (H : Hp) (v ix : Value) : Option TypeDesc → Prop
  | some .string => match v, ix with | .string s, .int _ i => IxsK orig K H s i (decide (0 ≤ i) && decide (i < (s.size : Int))) | _, _ => orig
  | _ => orig
theorem ba_get {s : ByteArray} {i : Nat} (h : i < s.size) : s[i]? = some (s.get! i) := by
  rw [getElem?_pos s i h]
  congr 1
  show s.get i h = s.get! i
  cases s with | mk d => simp [ByteArray.get, ByteArray.get!, show i < d.size from h]
theorem aop_index (t : TypeId) (x ix : Operand) : AOp P w0 F ⟨dst, .index t x ix, ty, pos, after, g⟩ K H = IxV (AOp0 P w0 F ⟨dst, .index t x ix, ty, pos, after, g⟩ K H) K H (evF F x) (evF F ix) (P.underlying t) := by
  unfold IxV
  split
  · rename_i hu
    split
    · rename_i s k i hs hi
      unfold IxsK
      split
      · rename_i h
        rw [Bool.and_eq_true, decide_eq_true_eq, decide_eq_true_eq] at h
        unfold AOp
        simp only [execOp, awp_bind, Instr.index, hs, hi, asIntOf, awp_pure, BindK, awp_underlying, hu, OptK]
        rw [if_pos h.1, ba_get (by omega)]
        simp only [awp_pure, ANx]
        rfl
      · rfl
    · rfl
  · rfl
theorem ixV_str {s : ByteArray} {k : IntKind} {i : Int} : IxV orig K H (.string s) (.int k i) (some .string) = IxsK orig K H s i (decide (0 ≤ i) && decide (i < (s.size : Int))) := rfl
theorem ixsK_true {s : ByteArray} {i : Int} : IxsK orig K H s i true = K (.int .u8 (bt s i.toNat : Int)) H := rfl

/-! A part of a string. -/
def SlcK (orig : Prop) (K : Value → Hp → Prop) (H : Hp) (s : ByteArray) (l h : Int) : Bool → Prop
  | true => K (.string (s.extract l.toNat h.toNat)) H
  | false => orig
def SlH (orig : Prop) (K : Value → Hp → Prop) (H : Hp) (v hi : Value) : Option TypeDesc → Prop
  | some .string => match v, hi with | .string s, .int _ h => SlcK orig K H s 0 h (decide (0 ≤ h) && decide (h ≤ (s.size : Int))) | _, _ => orig
  | _ => orig
theorem aop_slice_hi (t : TypeId) (x hi : Operand) : AOp P w0 F ⟨dst, .slice t x none (some hi) none, ty, pos, after, g⟩ K H = SlH (AOp0 P w0 F ⟨dst, .slice t x none (some hi) none, ty, pos, after, g⟩ K H) K H (evF F x) (evF F hi) (P.underlying t) := by
  unfold SlH
  split
  · rename_i hu
    split
    · rename_i s k h hs hh
      unfold SlcK
      split
      · rename_i hc
        rw [Bool.and_eq_true, decide_eq_true_eq, decide_eq_true_eq] at hc
        unfold AOp
        simp only [execOp, awp_bind, Instr.sliceAt, Option.map_none, Option.map_some, hs, hh]
        simp only [Instr.slice, Instr.sliceBounds, Instr.sliceBound, asIntOf, awp_bind, awp_pure, BindK, awp_underlying, hu, OptK, Option.isSome_none, Bool.false_eq_true, if_false, if_pos hc, ANx]
        rfl
      · rfl
    · rfl
  · rfl
theorem slH_str {s : ByteArray} {k : IntKind} {h : Int} : SlH orig K H (.string s) (.int k h) (some .string) = SlcK orig K H s 0 h (decide (0 ≤ h) && decide (h ≤ (s.size : Int))) := rfl
theorem slcK_true {s : ByteArray} {l h : Int} : SlcK orig K H s l h true = K (.string (s.extract l.toNat h.toNat)) H := rfl
end
section
variable {P : Program} {w0 : World} {F : Fr} {K : Value → Hp → Prop} {H : Hp} {dst : Option Tmp} {ty : TypeId} {pos : String} {after : Array Edge} {g : Option (Nat × Bool)} {orig : Prop}
theorem row_cells {w0 : World} {H : Hp} {e sz : Nat} {v : Value} {n : Nat} {xs : List Value} (h : Row H e sz v n xs) (hn : 0 < n) : ∃ g cap, v = .slice (some ⟨g, 0, none⟩) n cap ∧ ldCells w0 H ⟨g, 0, none⟩ 0 (n * sz) = some xs := by
  obtain ⟨g, cap, cur, hv, hg, hc, hs, ht⟩ := h.open hn
  refine ⟨g, cap, hv, ?_⟩
  have hle : n * sz ≤ cap * sz := Nat.mul_le_mul_right _ hc
  rw [ldCells_row hg 0 (n * sz) 0 (by omega), Nat.zero_add, List.drop_zero, ht]
/-- append of a whole row. -/
theorem aop_append_row {t e sz bytes : Nat} {z : Value} {x y : Operand} (ht : P.underlying t = some (.slice e)) (hsz : szOf P e = some sz) (hby : byOf P e = some bytes) (hz : zrOf P e = some z)
    (hzs : z.cells.size = sz) {v : Value} (hx : evF F x = v) {n : Nat} {xs : List Value} (hrow : Row H e sz v n xs) {u : Value} {m : Nat} {ys : List Value} (hrow2 : Row H e sz u m ys) (hy : evF F y = u) (h1 : ∀ u ∈ ys, cell1 u = true) (hm : 0 < m)
    (hb : (n + m) * bytes ≤ 140737488355328) (hi : n + m ≤ 9223372036854775807)
    (hK : ∀ g H', (some g = blk v ∨ (H g = none ∧ w0.heap.size ≤ g)) → (∀ b, b ≠ g → H' b = H b) → ∀ cap, Row H' e sz (.slice (some ⟨g, 0, none⟩) (n + m) cap) (n + m) (xs ++ ys) → K (.slice (some ⟨g, 0, none⟩) (n + m) cap) H') :
    AOp P w0 F ⟨dst, .call { callee := .builtin .append, args := #[x, y], argTypes := #[t, t] }, ty, pos, after, g⟩ K H := by
  have hl : (xs ++ ys).length = (n + m) * sz := by rw [List.length_append, hrow.1, hrow2.1, Nat.add_mul]
  obtain ⟨g2, cap2, hu, hc⟩ := row_cells (w0 := w0) hrow2 hm
  refine aop_append P w0 F K H dst ty pos after g ht hsz hby hz hzs hx hrow (hy.trans hu) (ys := ys) hc hrow2.1 h1 hm hb hi ?_
  intro g' cap cur hg' hcap hcur htk
  exact hK g' _ (hg'.imp (fun e => by rw [e]; rfl) id) (fun b hb => Hp.set_ne _ _ _ _ hb) _ (Row.of_append hl hcap hcur htk)
theorem callK_fn {f : FuncId} {args a c : Array Value} (h : callOk P f = true) : CallK orig P w0 args K H (.func (.func f) a c) = ACalls P w0 f (a ++ args ++ c) H K := by
  unfold CallK
  simp only [h, if_true]

theorem bin_slno {e : TypeId} {p : Addr} {n c n' c' : Nat} : bin (some (.slice e)) .eql (.slice (some p) n c) (.slice none n' c') = some (.bool false) := rfl
theorem bin_slnil {e : TypeId} {n c n' c' : Nat} : bin (some (.slice e)) .eql (.slice none n c) (.slice none n' c') = some (.bool true) := rfl
theorem resVal_ct {a u : Tmp} {t : TypeId} : resVal P w0 F H [.cell a t, .tmp u] = (ResCell P w0 H t (F a)).bind fun v => some (.tuple #[v, F u]) := by
  show (resOne P w0 F H (.cell a t)).bind _ = _
  rw [resOne_cell]
  rfl
/-! an empty map with texts for keys -/
variable {mt kt et : TypeId} {z : Value} {r : Nat} {ck : Nat}
theorem awp_checkStr (hk : P.underlying kt = some .string) (e : Bool) (s : ByteArray) (Q : Unit → Hp → Prop) : awp P w0 (Instr.checkKey e 10000 kt (.string s)) Q H = Q () H := by
  show awp P w0 (Instr.checkKey e (9999 + 1) kt (.string s)) Q H = Q () H
  unfold Instr.checkKey
  simp only [awp_bind, awp_underlying, hk, OptK, BindK, awp_pure]
theorem lookK_str0 {s : ByteArray} {c : Bool} (hm : P.underlying mt = some (.map kt et)) (hk : P.underlying kt = some .string) (hz : zrOf P et = some z) (h : H r = some (.map #[] ck)) :
    LookK P w0 mt c K H (.map (some r)) (.string s) = K (lkv c none z) H := by
  unfold LookK
  simp only [execOp, awp_bind, Instr.lookup, awp_underlying, hm, OptK, BindK, getObj, awp, h, awp_pure, awp_checkStr hk, Instr.findKey, hk]
  simp only [Instr.findNow, awp_bind, awp_pure, BindK, awp_zeroValue, hz, OptK, ANx, lkv, Option.getD_none, Option.isSome_none]
theorem aop_mapUpdate0 {x y u : Operand} {s : ByteArray} {v : Value} (hm : P.underlying mt = some (.map kt et)) (hk : P.underlying kt = some .string) (h : H r = some (.map #[] ck))
    (hx : evF F x = .map (some r)) (hy : evF F y = .string s) (hu : evF F u = v) (hK : ∀ H', (∀ b, b ≠ r → H' b = H b) → K undef H') :
    AOp P w0 F ⟨dst, .mapUpdate mt x y u, ty, pos, after, g⟩ K H := by
  unfold AOp
  simp only [execOp, awp_bind, Instr.mapUpdate, hx, hy, hu, awp_underlying, hm, OptK, BindK, getObj, awp, h, awp_pure, awp_checkStr hk, Instr.findKey, hk]
  simp only [Instr.findNow, awp_bind, awp_pure, BindK, setObj, awp, h, ANx]
  exact hK _ fun b hb => Hp.set_ne _ _ _ _ hb
end
attribute [go_sem] resVal_ct bin_slno bin_slnil aop_range rngK_str aop_nextV nxV_ptr aop_index ixV_str ixsK_true aop_slice_hi slH_str slcK_true
end Go.Proofs.YtoolnkemkhianaaDoorW
