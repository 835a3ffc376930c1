/-
  UTF-8: the plain law; parts of strings; a word's bits.
  No condition.
-/
import Derived.Test.YtoolnkemkhianaaDoorByt
import Derived.Test.YtoolnkemkhianaaDoorPck
namespace Go.Proofs.YtoolnkemkhianaaDoor
open Go Go.RowKit Go.Proofs.YtoolnkemkhianaaDoorW
set_option maxRecDepth 100000
set_option linter.unusedSimpArgs false
set_option linter.unusedVariables false

/-! ### Strings out of lists -/
abbrev str (p : List UInt8) : ByteArray := ⟨p.toArray⟩
theorem str_size (p : List UInt8) : (str p).size = p.length := by show p.toArray.size = _; simp
theorem str_of (s : ByteArray) : s = str s.data.toList := by cases s with | mk d => simp [str]
theorem str_drop (p : List UInt8) (l : Nat) : (str p).extract l (str p).size = str (p.drop l) := by
  apply ByteArray.ext
  rw [ByteArray.data_extract, str_size]
  show p.toArray.extract l p.length = (p.drop l).toArray
  rw [List.extract_toArray]
  congr 1
  rw [List.extract_eq_take_drop, List.take_of_length_le (by rw [List.length_drop]; omega)]
theorem str_part (p : List UInt8) (l h : Nat) : (str p).extract l h = str ((p.drop l).take (h - l)) := by
  apply ByteArray.ext
  rw [ByteArray.data_extract]
  show p.toArray.extract l h = _
  rw [List.extract_toArray]
theorem bt_str {p : List UInt8} {i : Nat} {b : UInt8} (h : p[i]? = some b) : bt (str p) i = b.toNat := by
  have hi : i < (str p).size := by rw [str_size]; exact (List.getElem?_eq_some_iff.1 h).1
  have h1 := ba_get hi
  rw [ba_opt, h] at h1
  unfold bt
  rw [← Option.some.inj h1]
section
variable {P : Program} {w0 : World} {F : Fr} {H : Hp} {K : Value → Hp → Prop} {dst : Option Tmp} {ty : TypeId} {pos : String} {after : Array Edge} {g : Option (Nat × Bool)}
theorem slice_str_lo {t : TypeId} {x lo : Operand} (ht : P.underlying t = some .string) {s : ByteArray} {k : IntKind} {l : Nat} (hx : evF F x = .string s) (hl : evF F lo = .int k (l : Int)) (h1 : l ≤ s.size)
    (hK : K (.string (s.extract l s.size)) H) : AOp P w0 F ⟨dst, .slice t x (some lo) none none, ty, pos, after, g⟩ K H := by
  unfold AOp
  simp only [execOp, awp_bind, Instr.sliceAt, Option.map_none, Option.map_some, hx, hl]
  simp only [Instr.slice, Instr.sliceBounds, Instr.sliceBound, asIntOf, awp_bind, awp_pure, BindK, awp_underlying, ht, OptK, Option.isSome_none, Bool.false_eq_true, if_false]
  rw [if_pos ⟨by omega, by omega⟩]
  simp only [awp_pure, awp_bind, BindK, Int.toNat_natCast, ANx]
  exact hK
end

/-! ### What is valid -/
def cont (c : UInt8) : Bool := decide (128 ≤ c.toNat) && decide (c.toNat < 192)
def two (a b : UInt8) : Bool := decide (194 ≤ a.toNat) && decide (a.toNat < 224) && cont b
def three (a b c : UInt8) : Bool :=
  decide (224 ≤ a.toNat) && decide (a.toNat < 240) && cont b && cont c && (!decide (a.toNat = 224) || decide (160 ≤ b.toNat)) && (!decide (a.toNat = 237) || decide (b.toNat < 160))
def four (a b c d : UInt8) : Bool :=
  decide (240 ≤ a.toNat) && decide (a.toNat < 245) && cont b && cont c && cont d && (!decide (a.toNat = 240) || decide (144 ≤ b.toNat)) && (!decide (a.toNat = 244) || decide (b.toNat < 144))
def okU : List UInt8 → Bool
  | [] => true
  | [a] => decide (a.toNat < 128)
  | [a, b] => if a.toNat < 128 then okU [b] else two a b
  | [a, b, c] => if a.toNat < 128 then okU [b, c] else if two a b = true then okU [c] else three a b c
  | a :: b :: c :: d :: l => if a.toNat < 128 then okU (b :: c :: d :: l) else if two a b = true then okU (c :: d :: l) else if three a b c = true then okU (d :: l) else if four a b c d = true then okU l else false
theorem okU_low {a : UInt8} {l : List UInt8} (h : a.toNat < 128) : okU (a :: l) = okU l := by
  match l with
  | [] => simp [okU, h]
  | [b] => simp [okU, h]
  | [b, c] => simp [okU, h]
  | b :: c :: d :: l => simp only [okU, if_pos h]
theorem okU_two {a b : UInt8} {l : List UInt8} (h : two a b = true) : okU (a :: b :: l) = okU l := by
  have ha : ¬ a.toNat < 128 := by unfold two at h; simp only [Bool.and_eq_true, decide_eq_true_eq] at h; omega
  match l with
  | [] => simp [okU, ha, h]
  | [c] => simp [okU, ha, h]
  | c :: d :: l => simp only [okU, if_neg ha, if_pos h]
theorem two_no {a b c : UInt8} (h : three a b c = true) : two a b = false := by
  unfold three at h
  simp only [Bool.and_eq_true, decide_eq_true_eq] at h
  unfold two
  have : decide (a.toNat < 224) = false := decide_eq_false (by omega)
  rw [this]; simp
theorem okU_three {a b c : UInt8} {l : List UInt8} (h : three a b c = true) : okU (a :: b :: c :: l) = okU l := by
  have h2 := two_no h
  have ha : ¬ a.toNat < 128 := by unfold three at h; simp only [Bool.and_eq_true, decide_eq_true_eq] at h; omega
  match l with
  | [] => simp [okU, ha, h2, h]
  | d :: l => simp only [okU, if_neg ha, h2, Bool.false_eq_true, if_false, if_pos h]
theorem okU_four {a b c d : UInt8} {l : List UInt8} (h : four a b c d = true) : okU (a :: b :: c :: d :: l) = okU l := by
  have ha : 240 ≤ a.toNat := by unfold four at h; simp only [Bool.and_eq_true, decide_eq_true_eq] at h; omega
  have h2 : two a b = false := by
    unfold two
    have : decide (a.toNat < 224) = false := decide_eq_false (by omega)
    rw [this]; simp
  have h3 : three a b c = false := by
    unfold three
    have : decide (a.toNat < 240) = false := decide_eq_false (by omega)
    rw [this]; simp
  simp only [okU, if_neg (show ¬ a.toNat < 128 by omega), h2, h3, Bool.false_eq_true, if_false, if_pos h]
/-- No character stands in front. -/
def bad (p : List UInt8) : Prop :=
  match p with
  | [] => False
  | [a] => 128 ≤ a.toNat
  | [a, b] => 128 ≤ a.toNat ∧ two a b = false
  | [a, b, c] => 128 ≤ a.toNat ∧ two a b = false ∧ three a b c = false
  | a :: b :: c :: d :: _ => 128 ≤ a.toNat ∧ two a b = false ∧ three a b c = false ∧ four a b c d = false
theorem okU_bad {p : List UInt8} (h : bad p) : okU p = false := by
  match p, h with
  | [a], h =>
    have h : 128 ≤ a.toNat := h
    simp only [okU]; exact decide_eq_false (by omega)
  | [a, b], h =>
    have h : 128 ≤ a.toNat ∧ two a b = false := h
    simp only [okU, if_neg (show ¬ a.toNat < 128 by omega), h.2]
  | [a, b, c], h =>
    have h : 128 ≤ a.toNat ∧ two a b = false ∧ three a b c = false := h
    simp only [okU, if_neg (show ¬ a.toNat < 128 by omega), h.2.1, h.2.2, Bool.false_eq_true, if_false]
  | a :: b :: c :: d :: l, h =>
    have h : 128 ≤ a.toNat ∧ two a b = false ∧ three a b c = false ∧ four a b c d = false := h
    simp only [okU, if_neg (show ¬ a.toNat < 128 by omega), h.2.1, h.2.2.1, h.2.2.2, Bool.false_eq_true, if_false]

/-! ### Bits -/
def bit (w : Int) (n : Nat) : Bool := (BitVec.ofInt 64 w).getLsbD n
theorem ofInt_wrap (x : BitVec 64) : BitVec.ofInt 64 (IntKind.u64.wrap (x.toNat : Int)) = x := by
  have : IntKind.u64.wrap (x.toNat : Int) = (x.toNat : Int) := u64_in (by omega) (by have := x.isLt; omega)
  rw [this, BitVec.ofInt_natCast]
  simp
theorem bit_or (a b : Int) (n : Nat) : bit (orI .u64 a b) n = (bit a n || bit b n) := by
  have e : BitVec.ofInt 64 (orI .u64 a b) = BitVec.ofInt 64 a ||| BitVec.ofInt 64 b := ofInt_wrap _
  unfold bit
  rw [e, BitVec.getLsbD_or]
theorem bit_and (a b : Int) (n : Nat) : bit (andI .u64 a b) n = (bit a n && bit b n) := by
  have e : BitVec.ofInt 64 (andI .u64 a b) = BitVec.ofInt 64 a &&& BitVec.ofInt 64 b := ofInt_wrap _
  unfold bit
  rw [e, BitVec.getLsbD_and]
end Go.Proofs.YtoolnkemkhianaaDoor
