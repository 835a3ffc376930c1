/-
  The bytes stand as the values do: the plain law.
  No condition.
-/
import Derived.Test.YtoolnkemkhianaaDoorCmp
namespace Go.Proofs.YtoolnkemkhianaaDoor
open Go Go.RowKit Go.Proofs.YtoolnkemkhianaaDoorW
set_option maxRecDepth 100000
set_option linter.unusedSimpArgs false
set_option linter.unusedVariables false
theorem less_asym : ∀ p q : List UInt8, Op.bytesLess p q = true → Op.bytesLess q p = false
  | p, [], h => by rw [less_nil] at h; cases h
  | [], b :: q, _ => less_nil _
  | a :: p, b :: q, h => by
    rw [less_cons] at h ⊢
    by_cases c : a.toNat < b.toNat
    · have h1 : ¬ b.toNat < a.toNat := by omega
      have h2 : ¬ b.toNat = a.toNat := by omega
      simp [h1, h2]
    · by_cases d : a.toNat = b.toNat
      · rw [decide_eq_false c, decide_eq_true d, Bool.false_or, Bool.true_and] at h
        have h1 : ¬ b.toNat < a.toNat := by omega
        simp [d, less_asym p q h]
      · simp [c, d] at h
theorem less_tot : ∀ p q : List UInt8, Op.bytesLess p q = false → Op.bytesLess q p = false → p = q
  | [], [], _, _ => rfl
  | [], b :: q, h, _ => by cases h
  | a :: p, [], _, h => by cases h
  | a :: p, b :: q, h1, h2 => by
    rw [less_cons] at h1 h2
    have d : a.toNat = b.toNat := by
      rcases Nat.lt_trichotomy a.toNat b.toNat with c | c | c
      · simp [c] at h1
      · exact c
      · simp [c] at h2
    have e : a = b := UInt8.toNat_inj.1 d
    subst e
    simp only [Nat.lt_irrefl, decide_false, decide_true, Bool.false_or, Bool.true_and] at h1 h2
    rw [less_tot p q h1 h2]
theorem less_app (p q : List UInt8) : ∀ c : List UInt8, Op.bytesLess (c ++ p) (c ++ q) = Op.bytesLess p q
  | [] => rfl
  | a :: c => by
    rw [List.cons_append, List.cons_append, less_cons, less_app p q c]
    simp
/-! ### Eight bytes of a number -/
def beR : Nat → Nat → List UInt8
  | 0, _ => []
  | d + 1, n => UInt8.ofNat (n / 256 ^ d) :: beR d n
theorem be8_eq (n : Nat) : be8 n = beR 8 n := rfl
theorem ofNat_mul (a b : Nat) : UInt8.ofNat (256 * a + b) = UInt8.ofNat b := by
  apply UInt8.toNat_inj.1
  rw [UInt8.toNat_ofNat', UInt8.toNat_ofNat']
  show (256 * a + b) % 256 = b % 256
  omega
theorem pow_split (d k : Nat) (h : d < k) : 256 ^ k = 256 ^ d * (256 * 256 ^ (k - d - 1)) := by
  rw [← Nat.pow_succ', ← Nat.pow_add]
  congr 1
  omega
theorem beR_mod : ∀ (d k n q : Nat), d ≤ k → beR d (256 ^ k * q + n) = beR d n
  | 0, _, _, _, _ => rfl
  | d + 1, k, n, q, h => by
    unfold beR
    rw [beR_mod d k n q (by omega), pow_split d k (by omega)]
    congr 1
    rw [show 256 ^ d * (256 * 256 ^ (k - d - 1)) * q + n = n + 256 ^ d * (256 * (256 ^ (k - d - 1) * q)) by rw [Nat.mul_assoc, Nat.mul_assoc, Nat.add_comm], Nat.add_mul_div_left _ _ (Nat.pow_pos (by decide)), Nat.add_comm, ofNat_mul]
theorem beR_less : ∀ (d n m : Nat) (t u : List UInt8), n < m → m < 256 ^ d → Op.bytesLess (beR d n ++ t) (beR d m ++ u) = true
  | 0, n, m, t, u, h, hm => by simp at hm; omega
  | d + 1, n, m, t, u, h, hm => by
    have hp : 0 < 256 ^ d := Nat.pow_pos (by decide)
    have hm' : m / 256 ^ d < 256 := by
      rw [Nat.div_lt_iff_lt_mul hp, Nat.mul_comm, ← Nat.pow_succ]; exact hm
    have hle : n / 256 ^ d ≤ m / 256 ^ d := Nat.div_le_div_right (by omega)
    unfold beR
    rw [List.cons_append, List.cons_append, less_cons]
    have e1 : (UInt8.ofNat (n / 256 ^ d)).toNat = n / 256 ^ d := by
      rw [UInt8.toNat_ofNat']
      exact Nat.mod_eq_of_lt (Nat.lt_of_le_of_lt hle hm')
    have e2 : (UInt8.ofNat (m / 256 ^ d)).toNat = m / 256 ^ d := by
      rw [UInt8.toNat_ofNat']
      exact Nat.mod_eq_of_lt hm'
    rw [e1, e2]
    by_cases c : n / 256 ^ d < m / 256 ^ d
    · simp [c]
    · have ce : n / 256 ^ d = m / 256 ^ d := by omega
      have hn1 := Nat.div_add_mod n (256 ^ d)
      have hm1 := Nat.div_add_mod m (256 ^ d)
      have ih := beR_less d (n % 256 ^ d) (m % 256 ^ d) t u (by rw [ce] at hn1; omega) (Nat.mod_lt _ hp)
      rw [← hn1, ← hm1, beR_mod d d _ _ (Nat.le_refl _), beR_mod d d _ _ (Nat.le_refl _), ih]
      rw [hn1, hm1, ce]; simp
theorem text_less : ∀ (s s' t u : List UInt8), noZ s' = true → Op.bytesLess s s' = true → Op.bytesLess (s ++ 0 :: t) (s' ++ 0 :: u) = true
  | s, [], t, u, _, h => by rw [less_nil] at h; cases h
  | [], b :: s', t, u, hz, _ => by
    rw [List.nil_append, List.cons_append, less_cons]
    unfold noZ at hz
    rw [List.all_cons, Bool.and_eq_true] at hz
    have : ¬ b.toNat = 0 := by simpa using hz.1
    have h0 : (0 : UInt8).toNat = 0 := rfl
    rw [h0, decide_eq_true (by omega)]; rfl
  | a :: s, b :: s', t, u, hz, h => by
    rw [List.cons_append, List.cons_append, less_cons]
    rw [less_cons] at h
    unfold noZ at hz
    rw [List.all_cons, Bool.and_eq_true] at hz
    by_cases c : a.toNat < b.toNat
    · simp [c]
    · by_cases d : a.toNat = b.toNat
      · rw [decide_eq_false c, decide_eq_true d, Bool.false_or, Bool.true_and] at h
        rw [text_less s s' t u hz.2 h]; simp [d]
      · simp [c, d] at h
/-! ### Values -/
theorem right_cases {v : Va} (h : rightB v = true) : (v = ⟨0, 0, [], false⟩) ∨ (∃ i, v = ⟨1, i, [], false⟩) ∨ (∃ s, v = ⟨2, 0, s, false⟩ ∧ s.length ≤ 60 ∧ okZ s = true) ∨ (∃ b, v = ⟨3, 0, [], b⟩) := by
  obtain ⟨k, i, s, b⟩ := v
  rw [rightB_eq] at h
  simp only [] at h
  split at h
  · simp only [Bool.and_eq_true, decide_eq_true_eq, beq_iff_eq, Bool.not_eq_true'] at h
    obtain ⟨rfl, rfl, rfl⟩ := h
    rename_i e; subst e; exact .inl rfl
  split at h
  · simp only [Bool.and_eq_true, beq_iff_eq, Bool.not_eq_true'] at h
    obtain ⟨rfl, rfl⟩ := h
    rename_i e; subst e; exact .inr (.inl ⟨_, rfl⟩)
  split at h
  · simp only [Bool.and_eq_true, decide_eq_true_eq, Bool.not_eq_true'] at h
    obtain ⟨rfl, rfl, h60, hz⟩ := h
    rename_i e; subst e; exact .inr (.inr (.inl ⟨_, rfl, h60, hz⟩))
  split at h
  · simp only [Bool.and_eq_true, decide_eq_true_eq, beq_iff_eq] at h
    obtain ⟨rfl, rfl⟩ := h
    rename_i e; subst e; exact .inr (.inr (.inr ⟨_, rfl⟩))
  · cases h
theorem same_refl (x : Va) : sameVs x x = true := by
  unfold sameVs lessV
  simp [less_irr]
theorem okZ_noZ {s : List UInt8} (h : okZ s = true) : noZ s = true := by
  unfold okZ at h
  rw [Bool.and_eq_true] at h
  exact h.2
theorem lessV_bytes {x y : Va} (hx : rightB x = true) (hy : rightB y = true) (wx : x.wf) (wy : y.wf) (h : lessV x y = true) (t u : List UInt8) : Op.bytesLess (enc x ++ t) (enc y ++ u) = true := by
  obtain ⟨_, wx1, wx2⟩ := wx
  obtain ⟨_, wy1, wy2⟩ := wy
  rcases right_cases hx with rfl | ⟨i, rfl⟩ | ⟨s, rfl, s60, sz⟩ | ⟨b, rfl⟩ <;> rcases right_cases hy with rfl | ⟨j, rfl⟩ | ⟨s', rfl, s60', sz'⟩ | ⟨b', rfl⟩
  · simp [lessV, placeN] at h
  · rfl
  · rfl
  · rfl
  · simp [lessV, placeN] at h
  · have hij : i < j := by simpa [lessV, placeN] using h
    show Op.bytesLess (3 :: (be8 (kn i) ++ t)) (3 :: (be8 (kn j) ++ u)) = true
    rw [less_cons, be8_eq, be8_eq, beR_less 8 (kn i) (kn j) t u (by unfold kn; simp only [] at wx1 wx2; omega) (kn_lt wy1 wy2)]
    simp
  · rfl
  · cases b' <;> simp [lessV, placeN] at h
  · simp [lessV, placeN] at h
  · simp [lessV, placeN] at h
  · have hs : Op.bytesLess s s' = true := by simpa [lessV, placeN] using h
    show Op.bytesLess (4 :: (s ++ [0] ++ t)) (4 :: (s' ++ [0] ++ u)) = true
    rw [less_cons, List.append_assoc, List.append_assoc, List.singleton_append, List.singleton_append, text_less s s' t u (okZ_noZ sz') hs]
    simp
  · cases b' <;> simp [lessV, placeN] at h
  · cases b <;> simp [lessV, placeN] at h
  · cases b <;> rfl
  · cases b <;> rfl
  · cases b <;> cases b' <;> first | rfl | (simp [lessV, placeN] at h; done)
theorem same_eq {x y : Va} (hx : rightB x = true) (hy : rightB y = true) (h : sameVs x y = true) : x = y := by
  unfold sameVs at h
  rw [Bool.and_eq_true, Bool.not_eq_true', Bool.not_eq_true'] at h
  obtain ⟨h1, h2⟩ := h
  rcases right_cases hx with rfl | ⟨i, rfl⟩ | ⟨s, rfl, s60, sz⟩ | ⟨b, rfl⟩ <;> rcases right_cases hy with rfl | ⟨j, rfl⟩ | ⟨s', rfl, s60', sz'⟩ | ⟨b', rfl⟩
  · rfl
  · simp [lessV, placeN] at h1
  · simp [lessV, placeN] at h1
  · cases b' <;> simp [lessV, placeN] at h1
  · simp [lessV, placeN] at h2
  · have a1 : ¬ i < j := by simpa [lessV, placeN] using h1
    have a2 : ¬ j < i := by simpa [lessV, placeN] using h2
    rw [show i = j by omega]
  · simp [lessV, placeN] at h1
  · cases b' <;> simp [lessV, placeN] at h2
  · simp [lessV, placeN] at h2
  · simp [lessV, placeN] at h2
  · have a1 : Op.bytesLess s s' = false := by simpa [lessV, placeN] using h1
    have a2 : Op.bytesLess s' s = false := by simpa [lessV, placeN] using h2
    rw [less_tot s s' a1 a2]
  · cases b' <;> simp [lessV, placeN] at h2
  · cases b <;> simp [lessV, placeN] at h2
  · cases b <;> simp [lessV, placeN] at h1
  · cases b <;> simp [lessV, placeN] at h1
  · cases b <;> cases b' <;> first | rfl | (simp [lessV, placeN] at h1; done) | (simp [lessV, placeN] at h2; done)
theorem not_same {x y : Va} (h : sameVs x y = false) (h1 : lessV x y = false) : lessV y x = true := by
  unfold sameVs at h
  rw [h1] at h
  simpa using h
theorem order_at {A B : List Va} {i : Nat} {x y : Va} (hA : A.all rightB = true) (hB : B.all rightB = true) (wA : ∀ x ∈ A, x.wf) (wB : ∀ x ∈ B, x.wf) (hx : A[i]? = some x) (hy : B[i]? = some y)
    (hs : A.take i = B.take i) (hn : sameVs x y = false) : Op.bytesLess (encR A) (encR B) = lessV x y ∧ Op.bytesLess (encR B) (encR A) = !lessV x y := by
  have split : ∀ {L : List Va} {z : Va}, L[i]? = some z → encR L = encR (L.take i) ++ (enc z ++ encR (L.drop (i + 1))) := fun {L z} hz => by
    have hlt := (List.getElem?_eq_some_iff.1 hz).1
    have e : L = L.take i ++ (z :: L.drop (i + 1)) := by
      have := List.drop_eq_getElem_cons hlt
      rw [List.getElem?_eq_getElem hlt] at hz
      rw [Option.some.inj hz] at this
      rw [← this, List.take_append_drop]
    conv => lhs; rw [e]
    rw [encR_app]
    rfl
  rw [split hx, split hy, hs, less_app, less_app]
  have rx := List.all_eq_true.1 hA x (List.mem_of_getElem? hx)
  have ry := List.all_eq_true.1 hB y (List.mem_of_getElem? hy)
  have vx := wA x (List.mem_of_getElem? hx)
  have vy := wB y (List.mem_of_getElem? hy)
  cases h : lessV x y with
  | true =>
    have h1 := lessV_bytes rx ry vx vy h (encR (A.drop (i + 1))) (encR (B.drop (i + 1)))
    exact ⟨h1, less_asym _ _ h1⟩
  | false =>
    have h1 := lessV_bytes ry rx vy vx (not_same hn h) (encR (B.drop (i + 1))) (encR (A.drop (i + 1)))
    exact ⟨less_asym _ _ h1, h1⟩
/-- No value's bytes begin another's. -/
theorem begins_enc {x v : Va} (hx : rightB x = true) (hv : rightB v = true) (wx : x.wf) (wv : v.wf) (t : List UInt8) : beginsB (enc x ++ t) (enc v) = true ↔ x = v := by
  constructor
  · intro h
    unfold beginsB at h
    rw [Bool.and_eq_true, decide_eq_true_eq, beq_iff_eq] at h
    obtain ⟨_, h2⟩ := h
    have e : enc x ++ t = enc v ++ (enc x ++ t).drop (enc v).length := by
      conv => rhs; lhs; rw [← h2]
      rw [List.take_append_drop]
    cases hs : sameVs x v with
    | true => exact same_eq hx hv hs
    | false =>
      exfalso
      cases hl : lessV x v with
      | true =>
        have h3 := lessV_bytes hx hv wx wv hl t ((enc x ++ t).drop (enc v).length)
        rw [← e, less_irr] at h3; cases h3
      | false =>
        have h3 := lessV_bytes hv hx wv wx (not_same hs hl) ((enc x ++ t).drop (enc v).length) t
        rw [← e, less_irr] at h3; cases h3
  · rintro rfl
    unfold beginsB
    simp
theorem enc_ne (v : Va) : enc v ≠ [] := by
  unfold enc
  split
  · simp
  split
  · simp
  split
  · simp
  · simp
end Go.Proofs.YtoolnkemkhianaaDoor
