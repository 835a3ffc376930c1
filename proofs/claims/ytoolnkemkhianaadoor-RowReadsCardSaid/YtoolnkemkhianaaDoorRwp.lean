/-
  Rows of kinds as bytes: plain definitions, and what is read of what was written.
  No condition.
-/
import Derived.Test.YtoolnkemkhianaaDoorSmr
namespace Go.Proofs.YtoolnkemkhianaaDoor
open Go Go.RowKit Go.Proofs.YtoolnkemkhianaaDoorW
set_option maxRecDepth 100000
set_option linter.unusedSimpArgs false
set_option linter.unusedVariables false
/-! ### What is written -/
def un (i : Int) : Nat := (i % 18446744073709551616).toNat
def le8 (n : Nat) : List UInt8 := (List.range 8).map fun j => UInt8.ofNat (n / 256 ^ j)
theorem le8_len (n : Nat) : (le8 n).length = 8 := by simp [le8]
theorem le8_at (n j : Nat) (h : j < 8) : (le8 n)[j]? = some (UInt8.ofNat (n / 256 ^ j)) := by
  unfold le8
  rw [List.getElem?_map, List.getElem?_range h]
  rfl
def encv (v : Va) : List UInt8 := if v.k = 0 then [] else if v.k = 1 then le8 (un v.i) else if v.k = 2 then UInt8.ofNat v.s.length :: v.s else [if v.b = true then 1 else 0]
def encB (l : List Va) : List UInt8 := l.flatMap encv
def maskN : List Va → Nat
  | [] => 0
  | v :: l => (if v.k = 0 then 1 else 0) + 2 * maskN l
def encW (l : List Va) : List UInt8 := UInt8.ofNat (maskN l) :: encB l
theorem encB_snoc {l : List Va} {k : Nat} {v : Va} (h : l[k]? = some v) : encB (l.take (k + 1)) = encB (l.take k) ++ encv v := by
  unfold encB
  rw [List.take_add_one, h, List.flatMap_append]; simp
theorem encv_len {v : Va} (h : rightB v = true) : (encv v).length ≤ 61 := by
  have h60 : v.s.length ≤ 60 := by
    unfold rightB at h
    simp only [Bool.and_eq_true, decide_eq_true_eq] at h
    exact h.2.2.1
  unfold encv
  split
  · simp
  split
  · simp [le8_len]
  split
  · simp; omega
  · simp
theorem encB_len : ∀ {l : List Va}, l.all rightB = true → (encB l).length ≤ 61 * l.length
  | [], _ => by simp [encB]
  | v :: l, h => by
    rw [List.all_cons, Bool.and_eq_true] at h
    have h1 := encv_len h.1
    have h2 := encB_len h.2
    unfold encB at h2 ⊢
    rw [List.flatMap_cons, List.length_append, List.length_cons]
    omega
theorem mask_snoc : ∀ (l : List Va) (v : Va), maskN (l ++ [v]) = maskN l + (if v.k = 0 then 2 ^ l.length else 0)
  | [], v => by simp [maskN]
  | x :: l, v => by
    rw [List.cons_append]
    unfold maskN
    rw [mask_snoc l v, List.length_cons, Nat.pow_succ]
    by_cases c : v.k = 0
    · rw [if_pos c, if_pos c]; omega
    · rw [if_neg c, if_neg c]; omega
theorem mask_lt : ∀ l : List Va, maskN l < 2 ^ l.length
  | [] => by simp [maskN]
  | v :: l => by
    have := mask_lt l
    unfold maskN
    rw [List.length_cons, Nat.pow_succ]
    split <;> omega
theorem mask_take {l : List Va} {k : Nat} {v : Va} (h : l[k]? = some v) : maskN (l.take (k + 1)) = maskN (l.take k) + (if v.k = 0 then 2 ^ k else 0) := by
  have hl : (l.take k).length = k := by
    have := (List.getElem?_eq_some_iff.1 h).1
    rw [List.length_take]; omega
  rw [List.take_add_one, h]
  show maskN (l.take k ++ [v]) = _
  rw [mask_snoc, hl]
/-! ### Kinds; what fits -/
def kindOk (k : UInt8) : Bool := decide (1 ≤ k.toNat) && decide (k.toNat ≤ 3)
def rightK (ks : List UInt8) : Bool := decide (1 ≤ ks.length) && (decide (ks.length ≤ 8) && ks.all kindOk)
def typeOk (k : UInt8) (v : Va) : Bool := decide (v.k = 0) || decide (v.k = k.toNat)
def typesOk : List UInt8 → List Va → Bool
  | k :: ks, v :: l => typeOk k v && typesOk ks l
  | _, _ => true
def fitN (ks : List UInt8) (l : List Va) : Nat :=
  if (rightK ks && decide (l.length = ks.length)) = false then 1 else if l.all rightB = false then 3 else if typesOk ks l = false then 8 else if 200 < 1 + (encB l).length then 2 else 0
theorem typesOk_at : ∀ {ks : List UInt8} {l : List Va} {i : Nat} {k : UInt8} {v : Va}, ks[i]? = some k → l[i]? = some v → typesOk (ks.drop i) (l.drop i) = (typeOk k v && typesOk (ks.drop (i + 1)) (l.drop (i + 1)))
  | ks, l, i, k, v, hk, hv => by
    have e1 : ks.drop i = k :: ks.drop (i + 1) := by
      have hlt := (List.getElem?_eq_some_iff.1 hk).1
      rw [List.drop_eq_getElem_cons hlt]
      rw [List.getElem?_eq_getElem hlt] at hk
      rw [Option.some.inj hk]
    have e2 : l.drop i = v :: l.drop (i + 1) := by
      have hlt := (List.getElem?_eq_some_iff.1 hv).1
      rw [List.drop_eq_getElem_cons hlt]
      rw [List.getElem?_eq_getElem hlt] at hv
      rw [Option.some.inj hv]
    rw [e1, e2]
    rfl
/-! ### What is read -/
def leN : List UInt8 → Nat
  | [] => 0
  | b :: l => b.toNat + 256 * leN l
theorem leN_lt : ∀ l : List UInt8, leN l < 256 ^ l.length
  | [] => by simp [leN]
  | b :: l => by
    have := leN_lt l
    have := UInt8.toNat_lt b
    unfold leN
    rw [List.length_cons, Nat.pow_succ]
    omega
theorem leN_snoc : ∀ (l : List UInt8) (b : UInt8), leN (l ++ [b]) = leN l + b.toNat * 256 ^ l.length
  | [], b => by simp [leN]
  | x :: l, b => by
    rw [List.cons_append]
    unfold leN
    rw [leN_snoc l b, List.length_cons, Nat.pow_succ, Nat.mul_add, Nat.add_assoc]
    congr 2
    rw [Nat.mul_comm 256, Nat.mul_assoc]
def tkW (k : UInt8) (p : List UInt8) : Option (Va × List UInt8) :=
  if k.toNat = 1 then (if p.length < 8 then none else some (⟨1, IntKind.i64.wrap (leN (p.take 8) : Int), [], false⟩, p.drop 8))
  else match p with
    | [] => none
    | b :: r => if k.toNat = 2 then (if r.length < b.toNat then none else if rightB ⟨2, 0, r.take b.toNat, false⟩ = true then some (⟨2, 0, r.take b.toNat, false⟩, r.drop b.toNat) else none)
      else if b.toNat ≤ 1 then some (⟨3, 0, [], decide (b.toNat = 1)⟩, r) else none
def rwd : List UInt8 → Nat → List UInt8 → Option (List Va)
  | [], n, p => if n = 0 ∧ p = [] then some [] else none
  | k :: ks, n, p => if n % 2 = 1 then (rwd ks (n / 2) p).map (⟨0, 0, [], false⟩ :: ·) else match tkW k p with
    | none => none
    | some (v, r) => (rwd ks (n / 2) r).map (v :: ·)
/-- A row of these kinds, out of bytes. -/
def rdW (ks : List UInt8) (p : List UInt8) : Option (List Va) := match p with
  | [] => none
  | h :: t => if 200 < t.length + 1 then none else rwd ks h.toNat t
theorem rw_high : ∀ (ks : List UInt8) (n : Nat) (p : List UInt8), n / 2 ^ ks.length ≠ 0 → rwd ks n p = none
  | [], n, p, h => by
    unfold rwd
    rw [if_neg (fun e => h (by rw [e.1]; rfl))]
  | k :: ks, n, p, h => by
    have h2 : n / 2 / 2 ^ ks.length ≠ 0 := by rw [Nat.div_div_eq_div_mul, ← Nat.pow_succ']; exact h
    unfold rwd
    rw [rw_high ks (n / 2) p h2]
    split
    · rfl
    · split
      · rfl
      · rw [rw_high ks (n / 2) _ h2]; rfl
theorem tkW_ext {k : UInt8} {p r : List UInt8} {v : Va} (h : tkW k p = some (v, r)) (t : List UInt8) : tkW k (p ++ t) = some (v, r ++ t) := by
  unfold tkW at h ⊢
  by_cases k1 : k.toNat = 1
  · rw [if_pos k1] at h ⊢
    split at h
    · cases h
    · rename_i hl
      rw [if_neg (by rw [List.length_append]; omega), List.take_append_of_le_length (by omega), List.drop_append_of_le_length (by omega)]
      cases h; rfl
  · rw [if_neg k1] at h ⊢
    cases p with
    | nil => cases h
    | cons b q =>
      rw [List.cons_append]
      simp only [] at h ⊢
      by_cases k2 : k.toNat = 2
      · rw [if_pos k2] at h ⊢
        split at h
        · cases h
        · rename_i hl
          rw [if_neg (by rw [List.length_append]; omega), List.take_append_of_le_length (by omega), List.drop_append_of_le_length (by omega)]
          split at h
          · rename_i hr
            rw [if_pos hr]
            cases h; rfl
          · cases h
      · rw [if_neg k2] at h ⊢
        split at h
        · rename_i hb
          rw [if_pos hb]
          cases h; rfl
        · cases h
theorem rw_ext : ∀ (ks : List UInt8) (n : Nat) (p t : List UInt8) (l : List Va), rwd ks n p = some l → t ≠ [] → rwd ks n (p ++ t) = none
  | [], n, p, t, l, h, ht => by
    unfold rwd
    rw [if_neg (fun e => ht (List.append_eq_nil_iff.1 e.2).2)]
  | k :: ks, n, p, t, l, h, ht => by
    unfold rwd at h ⊢
    by_cases c : n % 2 = 1
    · rw [if_pos c] at h ⊢
      cases hr : rwd ks (n / 2) p with
      | none => rw [hr] at h; cases h
      | some l' => rw [rw_ext ks (n / 2) p t l' hr ht]; rfl
    · rw [if_neg c] at h ⊢
      cases hk : tkW k p with
      | none => rw [hk] at h; cases h
      | some z =>
        obtain ⟨v, r⟩ := z
        rw [hk] at h
        rw [tkW_ext hk t]
        simp only [] at h ⊢
        cases hr : rwd ks (n / 2) r with
        | none => rw [hr] at h; cases h
        | some l' => rw [rw_ext ks (n / 2) r t l' hr ht]; rfl
/-! ### What is read of what was written -/
def leR : Nat → Nat → List UInt8
  | 0, _ => []
  | d + 1, n => UInt8.ofNat n :: leR d (n / 256)
theorem le8_eq (n : Nat) : le8 n = leR 8 n := by
  have e : le8 n = [UInt8.ofNat (n / 256 ^ 0), UInt8.ofNat (n / 256 ^ 1), UInt8.ofNat (n / 256 ^ 2), UInt8.ofNat (n / 256 ^ 3), UInt8.ofNat (n / 256 ^ 4), UInt8.ofNat (n / 256 ^ 5), UInt8.ofNat (n / 256 ^ 6), UInt8.ofNat (n / 256 ^ 7)] := rfl
  rw [e]
  simp only [leR, Nat.div_div_eq_div_mul, Nat.reducePow, Nat.reduceMul, Nat.div_one]
theorem leN_leR : ∀ d n : Nat, leN (leR d n) = n % 256 ^ d
  | 0, n => by rw [Nat.pow_zero, Nat.mod_one]; rfl
  | d + 1, n => by
    unfold leR leN
    have e := Nat.mod_mul (a := 256) (b := 256 ^ d) (x := n)
    rw [leN_leR d (n / 256), UInt8.toNat_ofNat', show 256 ^ (d + 1) = 256 * 256 ^ d from Nat.pow_succ', e]
theorem un_lt (i : Int) : un i < 18446744073709551616 := by unfold un; omega
theorem un_back {i : Int} (h0 : -9223372036854775808 ≤ i) (h1 : i < 9223372036854775808) : IntKind.i64.wrap (un i : Int) = i := by
  unfold un IntKind.wrap
  simp [IntKind.bits, IntKind.signed]
  omega
theorem tkW_enc {k : UInt8} {v : Va} (hr : rightB v = true) (hw : v.wf) (hk : typeOk k v = true) (h0 : v.k ≠ 0) (t : List UInt8) : tkW k (encv v ++ t) = some (v, t) := by
  obtain ⟨_, w1, w2⟩ := hw
  have hkk : v.k = k.toNat := by
    unfold typeOk at hk
    simpa [h0] using hk
  rcases right_cases hr with rfl | ⟨i, rfl⟩ | ⟨s, rfl, s60, sz⟩ | ⟨b, rfl⟩
  · exact absurd rfl h0
  · have k1 : k.toNat = 1 := hkk.symm
    unfold tkW
    rw [if_pos k1]
    have e : encv ⟨1, i, [], false⟩ = le8 (un i) := rfl
    have hl : (le8 (un i) ++ t).length = 8 + t.length := by rw [List.length_append, le8_len]
    have htk : (le8 (un i) ++ t).take 8 = le8 (un i) := by rw [List.take_append_of_le_length (by rw [le8_len]; exact Nat.le_refl _), List.take_of_length_le (by rw [le8_len]; exact Nat.le_refl _)]
    have hdr : (le8 (un i) ++ t).drop 8 = t := by rw [List.drop_append_of_le_length (by rw [le8_len]; exact Nat.le_refl _), List.drop_eq_nil_of_le (by rw [le8_len]; exact Nat.le_refl _)]; rfl
    rw [e, if_neg (by omega), htk, hdr, le8_eq, leN_leR, Nat.mod_eq_of_lt (by simpa using un_lt i), un_back w1 w2]
  · have k2 : k.toNat = 2 := hkk.symm
    have e : encv ⟨2, 0, s, false⟩ ++ t = UInt8.ofNat s.length :: (s ++ t) := rfl
    have en : (UInt8.ofNat s.length).toNat = s.length := by
      rw [UInt8.toNat_ofNat']
      exact Nat.mod_eq_of_lt (by omega)
    unfold tkW
    rw [e, if_neg (by omega)]
    simp only []
    rw [if_pos k2, en, if_neg (by rw [List.length_append]; omega), List.take_left, List.drop_left, if_pos hr]
  · have k3 : k.toNat = 3 := hkk.symm
    have e : encv ⟨3, 0, [], b⟩ ++ t = (if b = true then 1 else 0) :: t := rfl
    unfold tkW
    rw [e, if_neg (by omega)]
    simp only []
    rw [if_neg (by omega)]
    cases b <;> rfl
theorem rw_enc : ∀ {ks : List UInt8} {l : List Va}, l.length = ks.length → l.all rightB = true → (∀ x ∈ l, x.wf) → typesOk ks l = true → rwd ks (maskN l) (encB l) = some l
  | [], [], _, _, _, _ => rfl
  | k :: ks, v :: l, hl, hr, hw, ht => by
    rw [List.all_cons, Bool.and_eq_true] at hr
    unfold typesOk at ht
    rw [Bool.and_eq_true] at ht
    have ih := rw_enc (ks := ks) (l := l) (by simpa using hl) hr.2 (fun x hx => hw x (by simp [hx])) ht.2
    have e1 : encB (v :: l) = encv v ++ encB l := rfl
    unfold rwd maskN
    rw [e1]
    by_cases h0 : v.k = 0
    · have hv : v = ⟨0, 0, [], false⟩ := by
        rcases right_cases hr.1 with rfl | ⟨i, rfl⟩ | ⟨s, rfl, _, _⟩ | ⟨b, rfl⟩
        · rfl
        · cases h0
        · cases h0
        · cases h0
      have he : encv v = [] := by unfold encv; rw [if_pos h0]
      rw [if_pos h0, if_pos (by omega), he, show (1 + 2 * maskN l) / 2 = maskN l by omega, List.nil_append, ih, ← hv]
      rfl
    · rw [if_neg h0, if_neg (by omega), tkW_enc hr.1 (hw v (by simp)) ht.1 h0, show (0 + 2 * maskN l) / 2 = maskN l by omega]
      simp only []
      rw [ih]
      rfl
theorem rdW_enc {ks : List UInt8} {l : List Va} (hw : ∀ x ∈ l, x.wf) (h : fitN ks l = 0) : rdW ks (encW l) = some l := by
  unfold fitN at h
  split at h
  · cases h
  split at h
  · cases h
  split at h
  · cases h
  split at h
  · cases h
  · rename_i h1 h2 h3 h4
    rw [Bool.not_eq_false, Bool.and_eq_true, decide_eq_true_eq] at h1
    have hk8 : ks.length ≤ 8 := by
      have := h1.1
      unfold rightK at this
      simp only [Bool.and_eq_true, decide_eq_true_eq] at this
      exact this.2.1
    have hm : maskN l < 256 := by
      have h5 := mask_lt l
      have h6 : 2 ^ l.length ≤ 2 ^ 8 := Nat.pow_le_pow_right (by decide) (by omega)
      omega
    have en : (UInt8.ofNat (maskN l)).toNat = maskN l := by
      rw [UInt8.toNat_ofNat']
      exact Nat.mod_eq_of_lt (by omega)
    unfold rdW encW
    simp only []
    rw [if_neg (by omega), en]
    exact rw_enc h1.2 (by simpa using h2) hw (by simpa using h3)
end Go.Proofs.YtoolnkemkhianaaDoor
