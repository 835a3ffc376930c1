/-
  utf8.ValidString: its tables, what each says.
  No condition.
-/
import Derived.Test.YtoolnkemkhianaaDoorWrd
import GoSem.PinnedTables
namespace Go.Proofs.YtoolnkemkhianaaDoor
open Go Go.RowKit Go.Proofs.YtoolnkemkhianaaDoorW
set_option maxRecDepth 100000
set_option linter.unusedSimpArgs false
set_option linter.unusedVariables false
def fst8 (a : Nat) : Nat := Go.Pinned.utf8FirstZ.getD a 0
def sz8 (a : Nat) : Nat := if a < 194 then 1 else if a < 224 then 2 else if a < 240 then 3 else if a < 245 then 4 else 1
def ix8 (a : Nat) : Nat := if a < 194 then 15 else if a = 224 then 1 else if a = 237 then 2 else if a = 240 then 3 else if a = 244 then 4 else if a < 245 then 0 else 15
def accs : List (Nat × Nat) := [(128, 191), (160, 191), (128, 159), (144, 191), (128, 143), (0, 0), (0, 0), (0, 0), (0, 0), (0, 0), (0, 0), (0, 0), (0, 0), (0, 0), (0, 0), (0, 0)]
theorem fst_law : ∀ a : Fin 256, 128 ≤ a.val → andI .u8 (fst8 a.val : Int) 7 = (sz8 a.val : Int) ∧ ((fst8 a.val : Nat) : Int).fdiv (2 ^ min 4 8) = (ix8 a.val : Int) := by decide +kernel
/-- The tables lie where the text lays them. -/
structure Tbl (w0 : World) : Prop where
  fst : ∀ a : Nat, a < 256 → w0.cell? ⟨0, a, none⟩ = some (.int .u8 (fst8 a : Int))
  acc : ∀ (i : Nat) (x : Nat × Nat), accs[i]? = some x → w0.cell? ⟨1, i * 2, none⟩ = some (.int .u8 (x.1 : Int)) ∧ w0.cell? ⟨1, i * 2 + 1, none⟩ = some (.int .u8 (x.2 : Int))
theorem ld_arg {w0 : World} {H : Hp} (hh : Hi w0 H) {a : Addr} {v : Value} (h : w0.cell? a = some v) : ld w0 H a = some v := by
  have hlt := World.block_lt_of_cell? w0 a h
  unfold ld
  cases e : H a.block with
  | none => exact h
  | some o => have := hh _ _ e; omega
theorem two_hi {a b : UInt8} (h : 224 ≤ a.toNat) : two a b = false := by
  unfold two
  rw [decide_eq_false (show ¬ a.toNat < 224 by omega)]; simp
theorem two_lo {a b : UInt8} (h : a.toNat < 194) : two a b = false := by
  unfold two
  rw [decide_eq_false (show ¬ 194 ≤ a.toNat by omega)]; simp
theorem three_lo {a b c : UInt8} (h : a.toNat < 224) : three a b c = false := by
  unfold three
  rw [decide_eq_false (show ¬ 224 ≤ a.toNat by omega)]; simp
theorem three_hi {a b c : UInt8} (h : 240 ≤ a.toNat) : three a b c = false := by
  unfold three
  rw [decide_eq_false (show ¬ a.toNat < 240 by omega)]; simp
theorem four_lo {a b c d : UInt8} (h : a.toNat < 240) : four a b c d = false := by
  unfold four
  rw [decide_eq_false (show ¬ 240 ≤ a.toNat by omega)]; simp
theorem four_hi {a b c d : UInt8} (h : 245 ≤ a.toNat) : four a b c d = false := by
  unfold four
  rw [decide_eq_false (show ¬ a.toNat < 245 by omega)]; simp
theorem bad_1 {a : UInt8} {l : List UInt8} (h : 128 ≤ a.toNat) (h' : a.toNat < 194 ∨ 245 ≤ a.toNat) : okU (a :: l) = false := by
  have e2 : ∀ b, two a b = false := fun b => by rcases h' with h' | h'; exact two_lo h'; exact two_hi (by omega)
  have e3 : ∀ b c, three a b c = false := fun b c => by rcases h' with h' | h'; exact three_lo (by omega); exact three_hi (by omega)
  have e4 : ∀ b c d, four a b c d = false := fun b c d => by rcases h' with h' | h'; exact four_lo (by omega); exact four_hi h'
  apply okU_bad
  match l with
  | [] => exact h
  | [b] => exact ⟨h, e2 b⟩
  | [b, c] => exact ⟨h, e2 b, e3 b c⟩
  | b :: c :: d :: l => exact ⟨h, e2 b, e3 b c, e4 b c d⟩
theorem bad_2 {a : UInt8} {l : List UInt8} (h : 128 ≤ a.toNat) (h' : a.toNat < 224) (hn : ∀ b, l[0]? = some b → two a b = false) : okU (a :: l) = false := by
  apply okU_bad
  match l, hn with
  | [], _ => exact h
  | [b], hn => exact ⟨h, hn b rfl⟩
  | [b, c], hn => exact ⟨h, hn b rfl, three_lo h'⟩
  | b :: c :: d :: l, hn => exact ⟨h, hn b rfl, three_lo h', four_lo (by omega)⟩
theorem bad_3 {a : UInt8} {l : List UInt8} (h : 224 ≤ a.toNat) (h' : a.toNat < 240) (hn : ∀ b c, l[0]? = some b → l[1]? = some c → three a b c = false) : okU (a :: l) = false := by
  apply okU_bad
  match l, hn with
  | [], _ => exact (by show 128 ≤ a.toNat; omega)
  | [b], hn => exact ⟨by omega, two_hi h⟩
  | [b, c], hn => exact ⟨by omega, two_hi h, hn b c rfl rfl⟩
  | b :: c :: d :: l, hn => exact ⟨by omega, two_hi h, hn b c rfl rfl, four_lo h'⟩
theorem bad_4 {a : UInt8} {l : List UInt8} (h : 240 ≤ a.toNat) (hn : ∀ b c d, l[0]? = some b → l[1]? = some c → l[2]? = some d → four a b c d = false) : okU (a :: l) = false := by
  apply okU_bad
  match l, hn with
  | [], _ => exact (by show 128 ≤ a.toNat; omega)
  | [b], hn => exact ⟨by omega, two_hi (by omega)⟩
  | [b, c], hn => exact ⟨by omega, two_hi (by omega), three_hi h⟩
  | b :: c :: d :: l, hn => exact ⟨by omega, two_hi (by omega), three_hi h, hn b c d rfl rfl rfl⟩
/-- Eight low bytes in front. -/
theorem okU_skip : ∀ (k : Nat) (p : List UInt8), k ≤ p.length → (∀ i b, i < k → p[i]? = some b → b.toNat < 128) → okU (p.drop k) = okU p
  | 0, p, _, _ => by simp
  | k + 1, [], hk, _ => by simp at hk
  | k + 1, a :: p, hk, h => by
    rw [List.drop_succ_cons, okU_skip k p (by simpa using hk) (fun i b hi hb => h (i + 1) b (by omega) (by simpa using hb)), okU_low (h 0 a (by omega) rfl)]
theorem mask_bit : ∀ i : Fin 8, bit 9259542123273814144 (8 * i.val + 7) = true := by decide +kernel
theorem bit_zero (n : Nat) : bit 0 n = false := by unfold bit; simp
theorem mask_low {W : Int} (h : andI .u64 W 9259542123273814144 = 0) {i : Nat} (hi : i < 8) : bit W (8 * i + 7) = false := by
  have h1 := bit_and W 9259542123273814144 (8 * i + 7)
  rw [h, bit_zero, mask_bit ⟨i, hi⟩, Bool.and_true] at h1
  exact h1.symm
end Go.Proofs.YtoolnkemkhianaaDoor
