/-
  utf8.word: eight bytes as one number.
  Conditions: as each theorem states them.
-/
import Derived.Test.YtoolnkemkhianaaDoorUtf
import Derived.Test.YtoolnkemkhianaaDoorAwq
namespace Go.Proofs.YtoolnkemkhianaaDoor
open Go Go.RowKit Go.Proofs.YtoolnkemkhianaaDoorW
set_option maxRecDepth 100000
set_option linter.unusedSimpArgs false
set_option linter.unusedVariables false
theorem mixed : Tryd.prog.follows .mixedOrders = true := by kernel_rfl
theorem bit_nat (n i : Nat) (hi : i < 64) : bit (n : Int) i = n.testBit i := by
  unfold bit
  rw [BitVec.ofInt_natCast, BitVec.getLsbD_ofNat]
  simp [hi]
theorem byte_bit {b : UInt8} (h : 128 ≤ b.toNat) : b.toNat.testBit 7 = true := by
  have := UInt8.toNat_lt b
  rw [Nat.testBit_eq_decide_div_mod_eq, decide_eq_true_eq]
  show b.toNat / 128 % 2 = 1
  omega
theorem shl_bit {b : UInt8} {s : Nat} (hs : s ≤ 56) (h : 128 ≤ b.toNat) : bit (IntKind.u64.wrap ((b.toNat : Int) * 2 ^ s)) (s + 7) = true := by
  have hb := UInt8.toNat_lt b
  have hlt : b.toNat * 2 ^ s < 18446744073709551616 := by
    have h1 : 2 ^ s ≤ 2 ^ 56 := Nat.pow_le_pow_right (by omega) hs
    have h2 : b.toNat * 2 ^ s ≤ 255 * 2 ^ 56 := Nat.mul_le_mul (by omega) h1
    have h3 : 255 * 2 ^ 56 < 18446744073709551616 := by decide
    omega
  have e : ((b.toNat : Int) * 2 ^ s) = ((b.toNat * 2 ^ s : Nat) : Int) := by rw [Int.natCast_mul, Int.natCast_pow]; rfl
  obtain ⟨n, hn⟩ : ∃ n, n = b.toNat * 2 ^ s := ⟨_, rfl⟩
  rw [e, ← hn, u64_in (by omega) (by omega), bit_nat _ _ (by omega), hn, Nat.testBit_mul_two_pow, decide_eq_true (show s ≤ s + 7 by omega), show s + 7 - s = 7 by omega, byte_bit h]
  rfl
theorem low_bit {b : UInt8} (h : 128 ≤ b.toNat) : bit (b.toNat : Int) 7 = true := by rw [bit_nat _ _ (by omega)]; exact byte_bit h
theorem word_ok {w0 : World} {H : Hp} {p : List UInt8} (h8 : 8 ≤ p.length) : ACalls Tryd.prog w0 55 #[.string (str p)] H fun r H' => (∃ W : Int, r = .int .u64 W ∧ ∀ i b, i < 8 → p[i]? = some b → 128 ≤ b.toNat → bit W (8 * i + 7) = true) ∧ H' = H := by
  obtain ⟨b0, h0⟩ : ∃ b, p[0]? = some b := ⟨_, List.getElem?_eq_getElem (by omega)⟩
  obtain ⟨b1, h1⟩ : ∃ b, p[1]? = some b := ⟨_, List.getElem?_eq_getElem (by omega)⟩
  obtain ⟨b2, h2⟩ : ∃ b, p[2]? = some b := ⟨_, List.getElem?_eq_getElem (by omega)⟩
  obtain ⟨b3, h3⟩ : ∃ b, p[3]? = some b := ⟨_, List.getElem?_eq_getElem (by omega)⟩
  obtain ⟨b4, h4⟩ : ∃ b, p[4]? = some b := ⟨_, List.getElem?_eq_getElem (by omega)⟩
  obtain ⟨b5, h5⟩ : ∃ b, p[5]? = some b := ⟨_, List.getElem?_eq_getElem (by omega)⟩
  obtain ⟨b6, h6⟩ : ∃ b, p[6]? = some b := ⟨_, List.getElem?_eq_getElem (by omega)⟩
  obtain ⟨b7, h7⟩ : ∃ b, p[7]? = some b := ⟨_, List.getElem?_eq_getElem (by omega)⟩
  have e0 : bt (str p) (0 : Int).toNat = b0.toNat := bt_str h0
  have e1 : bt (str p) (1 : Int).toNat = b1.toNat := bt_str h1
  have e2 : bt (str p) (2 : Int).toNat = b2.toNat := bt_str h2
  have e3 : bt (str p) (3 : Int).toNat = b3.toNat := bt_str h3
  have e4 : bt (str p) (4 : Int).toNat = b4.toNat := bt_str h4
  have e5 : bt (str p) (5 : Int).toNat = b5.toNat := bt_str h5
  have e6 : bt (str p) (6 : Int).toNat = b6.toNat := bt_str h6
  have e7 : bt (str p) (7 : Int).toNat = b7.toNat := bt_str h7
  have hs := str_size p
  have d0 : decide ((0 : Int) < (p.length : Int)) = true := decide_eq_true (by omega)
  have d1 : decide ((1 : Int) < (p.length : Int)) = true := decide_eq_true (by omega)
  have d2 : decide ((2 : Int) < (p.length : Int)) = true := decide_eq_true (by omega)
  have d3 : decide ((3 : Int) < (p.length : Int)) = true := decide_eq_true (by omega)
  have d4 : decide ((4 : Int) < (p.length : Int)) = true := decide_eq_true (by omega)
  have d5 : decide ((5 : Int) < (p.length : Int)) = true := decide_eq_true (by omega)
  have d6 : decide ((6 : Int) < (p.length : Int)) = true := decide_eq_true (by omega)
  have d7 : decide ((7 : Int) < (p.length : Int)) = true := decide_eq_true (by omega)
  have wr : ∀ b : UInt8, IntKind.u64.wrap (b.toNat : Int) = (b.toNat : Int) := fun b => u64_in (by omega) (by have := UInt8.toNat_lt b; omega)
  refine acalls_of Tryd.func55 rfl Tryd.ntmps55 r55 (by simp) ?_
  simp -implicitDefEqProofs only [go_sem, Nat.reduceEqDiff, Nat.reduceLT, Nat.reduceAdd, Nat.reduceMul, Int.reduceEq, Int.reduceLT, Int.reduceLE, Int.reduceNe, Int.reduceBEq, Int.reduceToNat, ↓reduceIte]
  refine vdraw_t [⟨0, .p, [], []⟩, ⟨1, .n, [], []⟩, ⟨2, .n, [], []⟩, ⟨3, .p, [], []⟩, ⟨4, .n, [], []⟩, ⟨5, .n, [], []⟩, ⟨6, .p, [], []⟩, ⟨7, .p, [], []⟩, ⟨8, .p, [], []⟩, ⟨9, .n, [], []⟩, ⟨10, .n, [], []⟩, ⟨11, .p, [], []⟩, ⟨12, .p, [], []⟩, ⟨13, .p, [], []⟩, ⟨14, .n, [], []⟩, ⟨15, .n, [], []⟩, ⟨16, .p, [], []⟩, ⟨17, .p, [], []⟩, ⟨18, .p, [], []⟩, ⟨19, .n, [], []⟩, ⟨20, .n, [], []⟩, ⟨21, .p, [], []⟩, ⟨22, .p, [], []⟩, ⟨23, .p, [], []⟩, ⟨24, .n, [], []⟩, ⟨25, .n, [], []⟩, ⟨26, .p, [], []⟩, ⟨27, .p, [], []⟩, ⟨28, .p, [], []⟩, ⟨29, .n, [], []⟩, ⟨30, .n, [], []⟩, ⟨31, .p, [], []⟩, ⟨32, .p, [], []⟩, ⟨33, .p, [], []⟩, ⟨34, .n, [], []⟩, ⟨35, .n, [], []⟩, ⟨36, .p, [], []⟩, ⟨37, .p, [], []⟩, ⟨38, .p, [], []⟩] [0, 1, 3, 0, 8, 24, 56, 127, 0, 256, 768, 1792, 4095, 0, 8192, 24576, 57344, 131071, 0, 262144, 786432, 1835008, 4194303, 0, 8388608, 25165824, 58720256, 134217727, 0, 268435456, 805306368, 1879048192, 4294967295, 0, 8589934592, 25769803776, 60129542144, 137438953471, 274877906943] mixed (by kernel_rfl) ?_
  simp -implicitDefEqProofs only [go_sem, Nat.reduceEqDiff, Nat.reduceLT, Nat.reduceAdd, Nat.reduceMul, Int.reduceEq, Int.reduceLT, Int.reduceLE, Int.reduceNe, Int.reduceBEq, Int.reduceToNat, ↓reduceIte, d0, d1, d2, d3, d4, d5, d6, d7, e0, e1, e2, e3, e4, e5, e6, e7, wr]
  have m1 : min 8 64 = 8 := rfl
  have m2 : min 16 64 = 16 := rfl
  have m3 : min 24 64 = 24 := rfl
  have m4 : min 32 64 = 32 := rfl
  have m5 : min 40 64 = 40 := rfl
  have m6 : min 48 64 = 48 := rfl
  have m7 : min 56 64 = 56 := rfl
  rw [m1, m2, m3, m4, m5, m6, m7, bt_str h0, bt_str h1, bt_str h2, bt_str h3, bt_str h4, bt_str h5, bt_str h6, bt_str h7, wr, wr, wr, wr, wr, wr, wr, wr]
  obtain ⟨x1, ex1⟩ : ∃ x, x = IntKind.u64.wrap ((b1.toNat : Int) * 2 ^ 8) := ⟨_, rfl⟩
  obtain ⟨x2, ex2⟩ : ∃ x, x = IntKind.u64.wrap ((b2.toNat : Int) * 2 ^ 16) := ⟨_, rfl⟩
  obtain ⟨x3, ex3⟩ : ∃ x, x = IntKind.u64.wrap ((b3.toNat : Int) * 2 ^ 24) := ⟨_, rfl⟩
  obtain ⟨x4, ex4⟩ : ∃ x, x = IntKind.u64.wrap ((b4.toNat : Int) * 2 ^ 32) := ⟨_, rfl⟩
  obtain ⟨x5, ex5⟩ : ∃ x, x = IntKind.u64.wrap ((b5.toNat : Int) * 2 ^ 40) := ⟨_, rfl⟩
  obtain ⟨x6, ex6⟩ : ∃ x, x = IntKind.u64.wrap ((b6.toNat : Int) * 2 ^ 48) := ⟨_, rfl⟩
  obtain ⟨x7, ex7⟩ : ∃ x, x = IntKind.u64.wrap ((b7.toNat : Int) * 2 ^ 56) := ⟨_, rfl⟩
  rw [← ex1, ← ex2, ← ex3, ← ex4, ← ex5, ← ex6, ← ex7]
  refine ⟨_, rfl, fun i b hi hb h => ?_⟩
  have hi8 : i = 0 ∨ i = 1 ∨ i = 2 ∨ i = 3 ∨ i = 4 ∨ i = 5 ∨ i = 6 ∨ i = 7 := by omega
  rcases hi8 with rfl | rfl | rfl | rfl | rfl | rfl | rfl | rfl
  · rw [h0] at hb
    rw [← Option.some.inj hb] at h
    have t : bit (b0.toNat : Int) (8 * 0 + 7) = true := low_bit h
    simp only [bit_or, t, Bool.true_or, Bool.or_true]
  · rw [h1] at hb
    rw [← Option.some.inj hb] at h
    have t : bit x1 (8 * 1 + 7) = true := by rw [ex1]; exact shl_bit (s := 8) (by omega) h
    simp only [bit_or, t, Bool.true_or, Bool.or_true]
  · rw [h2] at hb
    rw [← Option.some.inj hb] at h
    have t : bit x2 (8 * 2 + 7) = true := by rw [ex2]; exact shl_bit (s := 16) (by omega) h
    simp only [bit_or, t, Bool.true_or, Bool.or_true]
  · rw [h3] at hb
    rw [← Option.some.inj hb] at h
    have t : bit x3 (8 * 3 + 7) = true := by rw [ex3]; exact shl_bit (s := 24) (by omega) h
    simp only [bit_or, t, Bool.true_or, Bool.or_true]
  · rw [h4] at hb
    rw [← Option.some.inj hb] at h
    have t : bit x4 (8 * 4 + 7) = true := by rw [ex4]; exact shl_bit (s := 32) (by omega) h
    simp only [bit_or, t, Bool.true_or, Bool.or_true]
  · rw [h5] at hb
    rw [← Option.some.inj hb] at h
    have t : bit x5 (8 * 5 + 7) = true := by rw [ex5]; exact shl_bit (s := 40) (by omega) h
    simp only [bit_or, t, Bool.true_or, Bool.or_true]
  · rw [h6] at hb
    rw [← Option.some.inj hb] at h
    have t : bit x6 (8 * 6 + 7) = true := by rw [ex6]; exact shl_bit (s := 48) (by omega) h
    simp only [bit_or, t, Bool.true_or, Bool.or_true]
  · rw [h7] at hb
    rw [← Option.some.inj hb] at h
    have t : bit x7 (8 * 7 + 7) = true := by rw [ex7]; exact shl_bit (s := 56) (by omega) h
    simp only [bit_or, t, Bool.true_or, Bool.or_true]
end Go.Proofs.YtoolnkemkhianaaDoor
