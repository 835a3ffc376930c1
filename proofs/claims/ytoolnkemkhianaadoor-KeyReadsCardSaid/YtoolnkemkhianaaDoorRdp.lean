/-
  A row, read: the plain law.
  No condition.
-/
import Derived.Test.YtoolnkemkhianaaDoorOrd
namespace Go.Proofs.YtoolnkemkhianaaDoor
open Go Go.RowKit Go.Proofs.YtoolnkemkhianaaDoorW
set_option maxRecDepth 100000
set_option linter.unusedSimpArgs false
set_option linter.unusedVariables false
def val8 (l : List UInt8) : Nat := l.foldl (fun n b => n * 256 + b.toNat) 0
/-- What stands ahead of the first zero. -/
def upz (l : List UInt8) : List UInt8 := l.takeWhile fun b => !decide (b.toNat = 0)
def tk : List UInt8 → Option (Va × List UInt8)
  | [] => none
  | h :: rest =>
    if h.toNat = 1 then some (⟨0, 0, [], false⟩, rest)
    else if h.toNat = 2 then (match rest with | [] => none | b :: r => if b.toNat ≤ 1 then some (⟨3, 0, [], decide (b.toNat = 1)⟩, r) else none)
    else if h.toNat = 3 then (if rest.length < 8 then none else some (⟨1, (val8 (rest.take 8) : Int) - 9223372036854775808, [], false⟩, rest.drop 8))
    else if h.toNat = 4 then (if (upz rest).length = rest.length then none else if rightB ⟨2, 0, upz rest, false⟩ = true then some (⟨2, 0, upz rest, false⟩, rest.drop ((upz rest).length + 1)) else none)
    else none
inductive Rdd : List UInt8 → Option (List Va) → Prop where
  | nil : Rdd [] (some [])
  | bad {h : UInt8} {t : List UInt8} : tk (h :: t) = none → Rdd (h :: t) none
  | step {p r : List UInt8} {v : Va} {o : Option (List Va)} : tk p = some (v, r) → Rdd r o → Rdd p (o.map (v :: ·))
theorem Rdd.det {p : List UInt8} {o o' : Option (List Va)} (h : Rdd p o) : Rdd p o' → o = o' := by
  induction h generalizing o' with
  | nil =>
    intro h'
    cases h' with
    | nil => rfl
    | step ht _ => cases ht
  | bad hb =>
    intro h'
    cases h' with
    | bad _ => rfl
    | step ht _ => rw [hb] at ht; cases ht
  | step ht _ ih =>
    intro h'
    cases h' with
    | nil => cases ht
    | bad hb => rw [hb] at ht; cases ht
    | step ht' hr' =>
      rw [ht] at ht'
      cases ht'
      rw [ih hr']
/-! ### Numbers -/
theorem val_fold (l : List UInt8) : ∀ acc : Nat, l.foldl (fun n b => n * 256 + b.toNat) acc = acc * 256 ^ l.length + val8 l := by
  induction l with
  | nil => intro acc; simp [val8]
  | cons b l ih =>
    intro acc
    unfold val8
    rw [List.foldl_cons, List.foldl_cons, ih, ih, List.length_cons, Nat.pow_succ, Nat.add_mul]
    have : acc * 256 * 256 ^ l.length = acc * (256 ^ l.length * 256) := by rw [Nat.mul_assoc, Nat.mul_comm 256]
    rw [this, Nat.zero_mul, Nat.zero_add, Nat.add_assoc]
theorem val8_snoc (l : List UInt8) (b : UInt8) : val8 (l ++ [b]) = val8 l * 256 + b.toNat := by simp [val8]
theorem val8_lt : ∀ l : List UInt8, val8 l < 256 ^ l.length
  | [] => by simp [val8]
  | b :: l => by
    have hb := UInt8.toNat_lt b
    have ih := val8_lt l
    have : val8 (b :: l) = b.toNat * 256 ^ l.length + val8 l := by
      show l.foldl (fun n b => n * 256 + b.toNat) (0 * 256 + b.toNat) = _
      rw [val_fold]; simp
    rw [this, List.length_cons, Nat.pow_succ]
    have h2 : b.toNat * 256 ^ l.length ≤ 255 * 256 ^ l.length := Nat.mul_le_mul_right _ (by omega)
    omega
theorem val8_beR : ∀ d n : Nat, val8 (beR d n) = n % 256 ^ d
  | 0, n => by rw [Nat.pow_zero, Nat.mod_one]; rfl
  | d + 1, n => by
    have hl : ∀ d, (beR d n).length = d := fun d => by
      induction d with
      | zero => rfl
      | succ d ih => unfold beR; rw [List.length_cons, ih]
    show (beR d n).foldl (fun n b => n * 256 + b.toNat) (0 * 256 + (UInt8.ofNat (n / 256 ^ d)).toNat) = _
    rw [val_fold, val8_beR d n, hl, Nat.pow_succ, Nat.mod_mul, UInt8.toNat_ofNat']
    show (0 * 256 + n / 256 ^ d % 256) * 256 ^ d + n % 256 ^ d = _
    rw [Nat.zero_mul, Nat.zero_add, Nat.mul_comm, Nat.add_comm]
theorem or_byte {n b : Nat} (hn : n < 72057594037927936) (hb : b < 256) : orI .u64 (IntKind.u64.wrap ((n : Int) * 2 ^ 8)) (b : Int) = ((n * 256 + b : Nat) : Int) := by
  have e0 : ((n : Int) * 2 ^ 8) = ((n * 256 : Nat) : Int) := by
    rw [Int.natCast_mul]; rfl
  rw [e0, u64_in (by omega) (by omega)]
  unfold orI
  have hbits : IntKind.u64.bits = 64 := rfl
  rw [hbits, BitVec.ofInt_natCast, BitVec.ofInt_natCast, BitVec.toNat_or, BitVec.toNat_ofNat, BitVec.toNat_ofNat]
  rw [Nat.mod_eq_of_lt (show n * 256 < 2 ^ 64 by omega), Nat.mod_eq_of_lt (show b < 2 ^ 64 by omega)]
  have h := Nat.two_pow_add_eq_or_of_lt (show b < 2 ^ 8 by omega) n
  rw [show n * 256 = 2 ^ 8 * n by rw [Nat.mul_comm], ← h]
  have : 2 ^ 8 * n + b = n * 256 + b := by omega
  rw [this, u64_in (by omega) (by omega)]
theorem i64_mod {n : Nat} (h : n < 18446744073709551616) : IntKind.i64.wrap (xorI .u64 (n : Int) 9223372036854775808) = (n : Int) - 9223372036854775808 := by
  have e1 : xorI .u64 (n : Int) 9223372036854775808 = ((n ^^^ 9223372036854775808 : Nat) : Int) := by
    unfold xorI
    have hbits : IntKind.u64.bits = 64 := rfl
    have e2 : (9223372036854775808 : Int) = ((9223372036854775808 : Nat) : Int) := rfl
    rw [e2, hbits, BitVec.ofInt_natCast, BitVec.ofInt_natCast, BitVec.toNat_xor, BitVec.toNat_ofNat, BitVec.toNat_ofNat]
    rw [show n % 2 ^ 64 = n from Nat.mod_eq_of_lt (by simpa using h), show 9223372036854775808 % 2 ^ 64 = 9223372036854775808 from rfl]
    by_cases c : n < 9223372036854775808
    · rw [xor_top n c, u64_in (by omega) (by omega)]
    · rw [xor_top2 n (by omega) h, u64_in (by omega) (by omega)]
  rw [e1]
  by_cases c : n < 9223372036854775808
  · rw [xor_top n c]
    unfold IntKind.wrap; simp [IntKind.bits, IntKind.signed]; omega
  · rw [xor_top2 n (by omega) h, i64_in (by omega) (by omega)]; omega
theorem i64_sub {n : Nat} (h : n < 18446744073709551616) : IntKind.i64.wrap (IntKind.u64.wrap ((n : Int) - 9223372036854775808)) = (n : Int) - 9223372036854775808 := by
  rw [u64_mod]
  unfold IntKind.wrap; simp [IntKind.bits, IntKind.signed]; omega
/-! ### Reading what was written -/
theorem upz_zero : ∀ (s t : List UInt8), noZ s = true → upz (s ++ 0 :: t) = s
  | [], t, _ => rfl
  | a :: s, t, h => by
    unfold noZ at h
    rw [List.all_cons, Bool.and_eq_true] at h
    unfold upz
    rw [List.cons_append, List.takeWhile_cons, if_pos h.1]
    exact congrArg _ (upz_zero s t h.2)
theorem tk_enc {v : Va} (hr : rightB v = true) (hw : v.wf) (t : List UInt8) : tk (enc v ++ t) = some (v, t) := by
  obtain ⟨_, w1, w2⟩ := hw
  rcases right_cases hr with rfl | ⟨i, rfl⟩ | ⟨s, rfl, s60, sz⟩ | ⟨b, rfl⟩
  · rfl
  · have hk := kn_lt w1 w2
    have e : enc ⟨1, i, [], false⟩ ++ t = 3 :: (be8 (kn i) ++ t) := rfl
    rw [e]
    have hl : (be8 (kn i) ++ t).length = 8 + t.length := by rw [List.length_append, be8_len]
    have htk : (be8 (kn i) ++ t).take 8 = be8 (kn i) := by rw [List.take_append_of_le_length (by rw [be8_len]; exact Nat.le_refl _), List.take_of_length_le (by rw [be8_len]; exact Nat.le_refl _)]
    have hdr : (be8 (kn i) ++ t).drop 8 = t := by rw [List.drop_append_of_le_length (by rw [be8_len]; exact Nat.le_refl _), List.drop_eq_nil_of_le (by rw [be8_len]; exact Nat.le_refl _)]; rfl
    show (if (be8 (kn i) ++ t).length < 8 then none else some (_, _)) = _
    rw [if_neg (by omega), htk, hdr, be8_eq, val8_beR, Nat.mod_eq_of_lt (by simpa using hk)]
    congr 2
    unfold kn
    simp only [] at w1 w2
    congr 1
    omega
  · have e : enc ⟨2, 0, s, false⟩ ++ t = 4 :: (s ++ 0 :: t) := by
      show 4 :: (s ++ [0] ++ t) = _
      rw [List.append_assoc]; rfl
    rw [e]
    have hu := upz_zero s t (okZ_noZ sz)
    show (if (upz (s ++ 0 :: t)).length = (s ++ 0 :: t).length then none else _) = _
    rw [hu, if_neg (by simp), if_pos hr]
    congr 2
    rw [List.drop_append]
    simp
  · cases b <;> rfl
theorem rdd_enc : ∀ {l : List Va}, l.all rightB = true → (∀ x ∈ l, x.wf) → Rdd (encR l) (some l)
  | [], _, _ => .nil
  | v :: l, h, hw => by
    rw [List.all_cons, Bool.and_eq_true] at h
    have e : encR (v :: l) = enc v ++ encR l := rfl
    rw [e]
    exact .step (tk_enc h.1 (hw v (by simp)) (encR l)) (rdd_enc h.2 fun x hx => hw x (by simp [hx]))
end Go.Proofs.YtoolnkemkhianaaDoor
