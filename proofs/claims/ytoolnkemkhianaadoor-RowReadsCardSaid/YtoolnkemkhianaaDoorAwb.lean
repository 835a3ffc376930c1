/-
  Bytes compared, searched, appended.
  No condition: every theorem here is general.
-/
import Derived.Test.YtoolnkemkhianaaDoorAwz
import Derived.Laws.Externs
namespace Go.Proofs.YtoolnkemkhianaaDoorW
open Go Go.RowKit
set_option linter.unusedSimpArgs false
set_option linter.unusedVariables false
section
variable {P : Program} {w0 : World} {F : Fr} {H : Hp} {K : Value → Hp → Prop} {dst : Option Tmp} {ty : TypeId} {pos : String} {after : Array Edge} {g : Option (Nat × Bool)}
theorem awp_loadBytes (Q : ByteArray → Hp → Prop) : ∀ (p : List UInt8) (a : Addr) (acc : ByteArray), ldCells w0 H a 0 p.length = some (u8s p) → awp P w0 (Extern.Bytes.loadBytes a p.length acc) Q H = Q ⟨(acc.data.toList ++ p).toArray⟩ H
  | [], a, acc, _ => by
    simp only [List.length_nil, Extern.Bytes.loadBytes, awp_pure, List.append_nil]
  | b :: p, a, acc, h => by
    have h1 := ldCells_part h 1 p.length (by simp; omega)
    have h0 := ldCells_get h 0 (by simp)
    simp only [Nat.add_zero, add_zero'] at h0
    have h1' : ldCells w0 H (a.add 1) 0 p.length = some (u8s p) := by
      rw [ldCells_add, show 1 + 0 = 0 + 1 from rfl, h1]
      congr 1
      show (u8s p).take p.length = u8s p
      rw [List.take_of_length_le (by rw [u8s_len]; exact Nat.le_refl _)]
    have hv : (u8s (b :: p))[0]? = some (.int .u8 (b.toNat : Int)) := rfl
    rw [hv] at h0
    simp only [List.length_cons, Extern.Bytes.loadBytes, awp_bind, load, awp, h0, BindK]
    rw [awp_loadBytes Q p _ _ h1']
    congr 1
    simp [ByteArray.push]
theorem awp_bytesOf {v : Value} {p : List UInt8} (hr : Rd w0 H 1 v p.length (u8s p)) (Q : ByteArray → Hp → Prop) : awp P w0 (Extern.Bytes.bytesOf v) Q H = Q ⟨p.toArray⟩ H := by
  rcases hr with ⟨rfl, h0, _⟩ | ⟨a, c, rfl, _, h3⟩
  · have : p = [] := List.eq_nil_of_length_eq_zero h0
    subst this
    rfl
  · rw [Nat.mul_one] at h3
    unfold Extern.Bytes.bytesOf
    simp only []
    rw [awp_loadBytes Q p a .empty h3]
    rfl
theorem awp_compare {u v : Value} {p q : List UInt8} (hp : Rd w0 H 1 u p.length (u8s p)) (hq : Rd w0 H 1 v q.length (u8s q)) (hK : K (.int .i64 (Extern.BytealgCompare.cmp ⟨p.toArray⟩ ⟨q.toArray⟩)) H) : awp P w0 (Extern.BytealgCompare.compare #[u, v]) K H := by
  show awp P w0 (do pure (goInt (Extern.BytealgCompare.cmp (← Extern.Bytes.bytesOf u) (← Extern.Bytes.bytesOf v)))) K H
  simp only [awp_bind, awp_bytesOf hp, BindK, awp_bytesOf hq, awp_pure]
  exact hK
theorem awp_indexByte {v : Value} {p : List UInt8} {c : Int} (hp : Rd w0 H 1 v p.length (u8s p)) (hK : K (.int .i64 (firstIdx ⟨p.toArray⟩ c.toNat.toUInt8)) H) : awp P w0 (Extern.BytealgIndexByte.indexByte #[v, .int .u8 c]) K H := by
  change awp P w0 (do
    let b ← Extern.Bytes.bytesOf v
    let c' ← Extern.Bytes.asByte (.int .u8 c)
    match (List.range b.size).find? fun i => b[i]! == c' with
    | some i => pure (goInt i)
    | none => pure (goInt (-1))) K H
  simp only [awp_bind, awp_bytesOf hp, BindK, Extern.Bytes.asByte, awp_pure]
  unfold firstIdx at hK
  split <;> simp_all [goInt, awp_pure]
theorem awp_indexByteS {s : ByteArray} {c : Int} (hK : K (.int .i64 (firstIdx s c.toNat.toUInt8)) H) : awp P w0 (Extern.BytealgIndexByte.indexByte #[.string s, .int .u8 c]) K H := by
  change awp P w0 (do
    let b ← Extern.Bytes.bytesOf (.string s)
    let c' ← Extern.Bytes.asByte (.int .u8 c)
    match (List.range b.size).find? fun i => b[i]! == c' with
    | some i => pure (goInt i)
    | none => pure (goInt (-1))) K H
  simp only [awp_bind, BindK, Extern.Bytes.bytesOf, Extern.Bytes.asByte, awp_pure]
  unfold firstIdx at hK
  split <;> simp_all [goInt, awp_pure]

/-! ### The order of bytes -/
theorem ba_opt (l : List UInt8) (i : Nat) : (ByteArray.mk l.toArray)[i]? = l[i]? := by
  by_cases h : i < l.length
  · have h' : i < (ByteArray.mk l.toArray).size := by show i < l.toArray.size; simpa using h
    rw [getElem?_pos (ByteArray.mk l.toArray) i h', List.getElem?_eq_getElem h]
    rfl
  · have h' : ¬ i < (ByteArray.mk l.toArray).size := by show ¬ i < l.toArray.size; simpa using h
    rw [getElem?_neg (ByteArray.mk l.toArray) i h', List.getElem?_eq_none (by omega)]
theorem ba_bang (l : List UInt8) (i : Nat) : (ByteArray.mk l.toArray)[i]! = (l[i]?).getD default := by
  rw [getElem!_def, ba_opt]
  cases l[i]? <;> rfl
theorem cmp_cons (a b : UInt8) (p q : List UInt8) : Extern.BytealgCompare.cmp ⟨(a :: p).toArray⟩ ⟨(b :: q).toArray⟩ = if a = b then Extern.BytealgCompare.cmp ⟨p.toArray⟩ ⟨q.toArray⟩ else if a < b then -1 else 1 := by
  have get : ∀ (x : UInt8) (l : List UInt8) (i : Nat), (ByteArray.mk (x :: l).toArray)[i + 1]! = (ByteArray.mk l.toArray)[i]! := fun x l i => by
    rw [ba_bang, ba_bang, List.getElem?_cons_succ]
  have get0 : ∀ (x : UInt8) (l : List UInt8), (ByteArray.mk (x :: l).toArray)[0]! = x := fun x l => by
    rw [ba_bang]; rfl
  have sz : ∀ l : List UInt8, (ByteArray.mk l.toArray).size = l.length := fun l => by show l.toArray.size = _; simp
  unfold Extern.BytealgCompare.cmp
  rw [sz, sz, sz, sz, List.length_cons, List.length_cons, Nat.succ_min_succ, List.range_succ_eq_map, List.find?_cons, get0, get0]
  by_cases h : a = b
  · subst h
    simp only [bne_self_eq_false, if_true, List.find?_map]
    have : ((fun i => (ByteArray.mk (a :: p).toArray)[i]! != (ByteArray.mk (a :: q).toArray)[i]!) ∘ Nat.succ) = fun i => (ByteArray.mk p.toArray)[i]! != (ByteArray.mk q.toArray)[i]! := by
      funext i
      simp only [Function.comp, Nat.succ_eq_add_one, get]
    rw [this]
    cases List.find? (fun i => (ByteArray.mk p.toArray)[i]! != (ByteArray.mk q.toArray)[i]!) (List.range (min p.length q.length)) with
    | none => simp only [Option.map_none, Nat.succ_lt_succ_iff, gt_iff_lt]
    | some i => simp only [Option.map_some, Nat.succ_eq_add_one, get]
  · have : (a != b) = true := by simp [h]
    simp only [this, if_neg h, get0]
theorem cmp_lt : ∀ (p q : List UInt8), decide (Extern.BytealgCompare.cmp ⟨p.toArray⟩ ⟨q.toArray⟩ < 0) = Op.bytesLess p q
  | p, [] => by
    have : Op.bytesLess p [] = false := by cases p <;> rfl
    rw [this, decide_eq_false_iff_not]
    unfold Extern.BytealgCompare.cmp
    have : min (ByteArray.mk p.toArray).size (ByteArray.mk [].toArray).size = 0 := Nat.min_zero _
    rw [this]
    simp only [List.range_zero, List.find?_nil]
    have h0 : (ByteArray.mk ([] : List UInt8).toArray).size = 0 := rfl
    rw [h0]
    simp only [Nat.not_lt_zero, if_false]
    split <;> omega
  | [], b :: q => by
    have : Op.bytesLess [] (b :: q) = true := rfl
    rw [this, decide_eq_true_eq]
    unfold Extern.BytealgCompare.cmp
    have : min (ByteArray.mk [].toArray).size (ByteArray.mk (b :: q).toArray).size = 0 := Nat.zero_min _
    rw [this]
    simp only [List.range_zero, List.find?_nil]
    have h0 : (ByteArray.mk ([] : List UInt8).toArray).size = 0 := rfl
    have h1 : (ByteArray.mk (b :: q).toArray).size = q.length + 1 := by show (b :: q).toArray.size = _; simp
    rw [h0, h1, if_pos (by omega)]
    omega
  | a :: p, b :: q => by
    rw [cmp_cons]
    unfold Op.bytesLess
    by_cases h : a = b
    · subst h
      rw [if_pos rfl, cmp_lt p q]
      have : ¬ a < a := UInt8.lt_irrefl a
      simp [this]
    · rw [if_neg h]
      by_cases h2 : a < b
      · simp [h2]
      · simp [h2, h]
theorem str_list (p : List UInt8) : (ByteArray.mk p.toArray).toList = p := by rw [ByteArray.toList_eq]
end
end Go.Proofs.YtoolnkemkhianaaDoorW
