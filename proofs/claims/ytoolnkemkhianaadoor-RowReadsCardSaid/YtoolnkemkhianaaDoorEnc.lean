/-
  A row's bytes: plain definitions; the bits of a number.
  No condition.
-/
import Derived.Test.YtoolnkemkhianaaDoorRgt
namespace Go.Proofs.YtoolnkemkhianaaDoor
open Go Go.RowKit Go.Proofs.YtoolnkemkhianaaDoorW
set_option maxRecDepth 100000
set_option linter.unusedSimpArgs false
set_option linter.unusedVariables false

def kn (i : Int) : Nat := (i + 9223372036854775808).toNat
def be8 (n : Nat) : List UInt8 := (List.range 8).map fun j => UInt8.ofNat (n / 256 ^ (7 - j))
theorem be8_len (n : Nat) : (be8 n).length = 8 := by simp [be8]
theorem be8_at (n j : Nat) (h : j < 8) : (be8 n)[j]? = some (UInt8.ofNat (n / 256 ^ (7 - j))) := by
  unfold be8
  rw [List.getElem?_map, List.getElem?_range h]
  rfl
def enc (v : Va) : List UInt8 := if v.k = 0 then [1] else if v.k = 3 then [2, if v.b = true then 1 else 0] else if v.k = 1 then 3 :: be8 (kn v.i) else 4 :: (v.s ++ [0])
def encR (l : List Va) : List UInt8 := l.flatMap enc
theorem enc_len {v : Va} (h : rightB v = true) : (enc v).length ≤ 62 := by
  have h60 : v.s.length ≤ 60 := by
    unfold rightB at h
    simp only [Bool.and_eq_true, decide_eq_true_eq] at h
    exact h.2.2.1
  unfold enc
  split
  · simp
  split
  · simp
  split
  · simp [be8_len]
  · simp; omega
theorem encR_len : ∀ {l : List Va}, l.all rightB = true → (encR l).length ≤ 62 * l.length
  | [], _ => by simp [encR]
  | v :: l, h => by
    rw [List.all_cons, Bool.and_eq_true] at h
    have h1 := enc_len h.1
    have h2 := encR_len h.2
    unfold encR at h2 ⊢
    rw [List.flatMap_cons, List.length_append, List.length_cons]
    omega
theorem encR_app (a b : List Va) : encR (a ++ b) = encR a ++ encR b := by simp [encR, List.flatMap_append]
theorem encR_snoc {l : List Va} {k : Nat} {v : Va} (h : l[k]? = some v) : encR (l.take (k + 1)) = encR (l.take k) ++ enc v := by
  rw [List.take_add_one, h, encR_app]; simp [encR]

/-! ### The highest bit turned -/
theorem xor_top (m : Nat) (h : m < 9223372036854775808) : m ^^^ 9223372036854775808 = m + 9223372036854775808 := by
  have h2 : 9223372036854775808 = 2 ^ 63 := by decide
  have hm : m < 2 ^ 63 := by rw [← h2]; exact h
  have e := Nat.two_pow_add_eq_or_of_lt hm 1
  rw [Nat.mul_one] at e
  rw [h2, Nat.add_comm, e]
  apply Nat.eq_of_testBit_eq
  intro j
  rw [Nat.testBit_xor, Nat.testBit_or, Nat.testBit_two_pow]
  by_cases c : 63 = j
  · subst c
    rw [Nat.testBit_lt_two_pow hm]; simp
  · simp [c]
theorem xor_top2 (m : Nat) (h : 9223372036854775808 ≤ m) (h' : m < 18446744073709551616) : m ^^^ 9223372036854775808 = m - 9223372036854775808 := by
  have h1 := xor_top (m - 9223372036854775808) (by omega)
  have h2 : m - 9223372036854775808 + 9223372036854775808 = m := by omega
  rw [h2] at h1
  rw [← h1, Nat.xor_assoc, Nat.xor_self, Nat.xor_zero, h1]
theorem u64_mod (a : Int) : IntKind.u64.wrap a = a % 18446744073709551616 := by unfold IntKind.wrap; simp [IntKind.bits, IntKind.signed]
theorem xor_law {i : Int} (h0 : -9223372036854775808 ≤ i) (h1 : i < 9223372036854775808) : xorI .u64 (IntKind.u64.wrap i) 9223372036854775808 = (kn i : Int) := by
  obtain ⟨m, hm⟩ : ∃ m : Nat, i % 18446744073709551616 = (m : Int) := ⟨(i % 18446744073709551616).toNat, by omega⟩
  unfold xorI
  rw [u64_mod i, hm]
  have hb : IntKind.u64.bits = 64 := rfl
  have e2 : (9223372036854775808 : Int) = ((9223372036854775808 : Nat) : Int) := rfl
  rw [e2, hb, BitVec.ofInt_natCast, BitVec.ofInt_natCast, BitVec.toNat_xor, BitVec.toNat_ofNat, BitVec.toNat_ofNat]
  have hlt : m < 18446744073709551616 := by omega
  rw [show m % 2 ^ 64 = m from Nat.mod_eq_of_lt (by simpa using hlt), show 9223372036854775808 % 2 ^ 64 = 9223372036854775808 from rfl]
  unfold kn
  by_cases c : m < 9223372036854775808
  · rw [xor_top m c, u64_in (by omega) (by omega)]; omega
  · rw [xor_top2 m (by omega) hlt, u64_in (by omega) (by omega)]; omega
theorem kn_lt {i : Int} (h0 : -9223372036854775808 ≤ i) (h1 : i < 9223372036854775808) : kn i < 18446744073709551616 := by unfold kn; omega
theorem u8_mod (a : Int) : IntKind.u8.wrap a = a % 256 := by unfold IntKind.wrap; simp [IntKind.bits, IntKind.signed]
theorem u8_of (n : Nat) : IntKind.u8.wrap (n : Int) = ((UInt8.ofNat n).toNat : Int) := by
  rw [u8_mod, UInt8.toNat_ofNat']
  show (n : Int) % 256 = ((n % 256 : Nat) : Int)
  omega
theorem fdiv_nat (a b : Nat) : (a : Int).fdiv (b : Int) = ((a / b : Nat) : Int) := by
  rw [Int.fdiv_eq_ediv_of_nonneg _ (by omega)]; rfl
theorem tdiv_nat (a b : Nat) : (a : Int).tdiv (b : Int) = ((a / b : Nat) : Int) := by
  rw [Int.tdiv_eq_ediv_of_nonneg (by omega)]; rfl
theorem tmod_nat (a b : Nat) : (a : Int).tmod (b : Int) = ((a % b : Nat) : Int) := by
  rw [Int.tmod_eq_emod_of_nonneg (by omega)]; rfl
theorem pow_law : ∀ j : Fin 8, (2 : Int) ^ min (8 * j.val) 64 = ((256 ^ j.val : Nat) : Int) := by decide +kernel
theorem shr_law (n j : Nat) (hj : j < 8) : IntKind.u8.wrap ((n : Int).fdiv (2 ^ min (8 * j) 64)) = ((UInt8.ofNat (n / 256 ^ j)).toNat : Int) := by
  have e : (2 : Int) ^ min (8 * j) 64 = ((256 ^ j : Nat) : Int) := pow_law ⟨j, hj⟩
  rw [e, fdiv_nat, u8_of]
end Go.Proofs.YtoolnkemkhianaaDoor
