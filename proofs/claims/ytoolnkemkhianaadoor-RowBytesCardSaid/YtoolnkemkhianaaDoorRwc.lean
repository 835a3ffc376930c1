/-
  The document's bytes of a row of kinds, walked.
  Conditions: as each theorem states them.
-/
import Derived.Test.YtoolnkemkhianaaDoorRwt
namespace Go.Proofs.YtoolnkemkhianaaDoor
open Go Go.RowKit Go.Proofs.YtoolnkemkhianaaDoorW
set_option maxRecDepth 100000
set_option maxHeartbeats 1000000
set_option linter.unusedSimpArgs false
set_option linter.unusedVariables false
theorem rem_lawW (n : Nat) : IntKind.u8.wrap ((n : Int).tmod 256) = ((UInt8.ofNat n).toNat : Int) := by
  have := tmod_nat n 256
  rw [show ((256 : Nat) : Int) = 256 from rfl] at this
  rw [this, u8_mod, UInt8.toNat_ofNat']
  show ((n % 256 : Nat) : Int) % 256 = ((n % 256 : Nat) : Int)
  omega
theorem quo_lawW {n d : Nat} (h : n < 18446744073709551616) : IntKind.u64.wrap (((n / 256 ^ d : Nat) : Int).tdiv 256) = ((n / 256 ^ (d + 1) : Nat) : Int) := by
  have := tdiv_nat (n / 256 ^ d) 256
  rw [show ((256 : Nat) : Int) = 256 from rfl] at this
  rw [this, Nat.div_div_eq_div_mul, ← Nat.pow_succ]
  show IntKind.u64.wrap ((n / 256 ^ (d + 1) : Nat) : Int) = _
  have h3 : n / 256 ^ (d + 1) < 18446744073709551616 := Nat.lt_of_le_of_lt (Nat.div_le_self _ _) h
  generalize n / 256 ^ (d + 1) = z at h3
  rw [u64_in (by omega) (by omega)]
theorem un_wrap (i : Int) : IntKind.u64.wrap i = (un i : Int) := by
  rw [u64_mod]
  unfold un
  omega
theorem bit_next0 : ∀ k : Fin 8, IntKind.u8.wrap (((2 ^ k.val % 256 : Nat) : Int) * 2) = ((2 ^ (k.val + 1) % 256 : Nat) : Int) := by decide +kernel
theorem bit_next {k : Nat} (hk : k < 8) : IntKind.u8.wrap (((2 ^ k % 256 : Nat) : Int) * 2) = ((2 ^ (k + 1) % 256 : Nat) : Int) := bit_next0 ⟨k, hk⟩
theorem bit_low0 : ∀ k : Fin 8, 2 ^ k.val % 256 = 2 ^ k.val := by decide +kernel
theorem fitN_one {ks : List UInt8} {l : List Va} (h : (rightK ks && decide (l.length = ks.length)) = false) : fitN ks l = 1 := by unfold fitN; rw [if_pos h]
theorem fitN_three {ks : List UInt8} {l : List Va} (h : (rightK ks && decide (l.length = ks.length)) = true) (h2 : l.all rightB = false) : fitN ks l = 3 := by unfold fitN; rw [if_neg (by rw [h]; simp), if_pos h2]
theorem fitN_eight {ks : List UInt8} {l : List Va} (h : (rightK ks && decide (l.length = ks.length)) = true) (h2 : l.all rightB = true) (h3 : typesOk ks l = false) : fitN ks l = 8 := by unfold fitN; rw [if_neg (by rw [h]; simp), if_neg (by rw [h2]; simp), if_pos h3]
theorem fitN_two {ks : List UInt8} {l : List Va} (h : (rightK ks && decide (l.length = ks.length)) = true) (h2 : l.all rightB = true) (h3 : typesOk ks l = true) (h4 : 200 < 1 + (encB l).length) : fitN ks l = 2 := by unfold fitN; rw [if_neg (by rw [h]; simp), if_neg (by rw [h2]; simp), if_neg (by rw [h3]; simp), if_pos h4]
theorem fitN_ok {ks : List UInt8} {l : List Va} (h : (rightK ks && decide (l.length = ks.length)) = true) (h2 : l.all rightB = true) (h3 : typesOk ks l = true) (h4 : ¬ 200 < 1 + (encB l).length) : fitN ks l = 0 := by unfold fitN; rw [if_neg (by rw [h]; simp), if_neg (by rw [h2]; simp), if_neg (by rw [h3]; simp), if_neg h4]
section
variable {w0 : World} {H Hb : Hp}
theorem BwQ.err {H' : Hp} {ks : List UInt8} {l : List Va} {c : Nat} (hs : Sub H H') (h : fitN ks l = c) (h0 : c ≠ 0) : BwQ w0 H ks l (.tuple #[.slice none 0 0, .int .i64 (c : Int)]) H' := ⟨hs, .inr ⟨by rw [h]; exact h0, by rw [h]⟩⟩
def BrL (H0 : Hp) (kv lv : Value) (l : List Va) (m : Nat) (F : Fr) (H : Hp) : Prop :=
  ∃ k, k + m = l.length ∧ F 0 = kv ∧ F 1 = lv ∧ F 24 = lv ∧ F 25 = .int .i64 (l.length : Int) ∧ F 26 = .int .i64 (k : Int) ∧ (l.take k).all rightB = true ∧ Sub H0 H
def BrI (w0 : World) (H0 : Hp) (kv lv : Value) (ks : List UInt8) (l : List Va) (m : Nat) (F : Fr) (H : Hp) : Prop :=
  ∃ k, k + m = l.length ∧ F 0 = kv ∧ F 34 = lv ∧ F 35 = .int .i64 (l.length : Int) ∧ F 36 = .int .i64 (k : Int) ∧ F 8 = .int .u8 (maskN (l.take k) : Int) ∧ F 9 = .int .u8 ((2 ^ k % 256 : Nat) : Int) ∧ typesOk (ks.drop k) (l.drop k) = typesOk ks l ∧ ∃ s, F 10 = s ∧ Own H s (encB (l.take k)) ∧ Fsh w0 H0 s ∧ Sub H0 H
def BrJ (w0 : World) (H0 : Hp) (kv lv : Value) (l : List Va) (k q : Nat) (n : Nat) (p : List UInt8) (m : Nat) (F : Fr) (H : Hp) : Prop :=
  ∃ d, d + m = 8 ∧ F 0 = kv ∧ F 34 = lv ∧ F 35 = .int .i64 (l.length : Int) ∧ F 36 = .int .i64 (k : Int) ∧ F 8 = .int .u8 (maskN (l.take k) : Int) ∧ F 9 = .int .u8 (q : Int) ∧ F 13 = .int .u64 ((n / 256 ^ d : Nat) : Int) ∧ F 63 = .int .i64 (d : Int) ∧ ∃ s, F 10 = s ∧ Own H s (p ++ (le8 n).take d) ∧ Fsh w0 H0 s ∧ Sub H0 H
theorem brbytes_ok {kv lv : Value} {ks : List UInt8} {l : List Va} (hkv : Bt w0 H kv ks) (hlv : Vs w0 H lv l) (hn : ks.length < 1000000000) (hn2 : l.length < 1000000) (hw : ∀ x ∈ l, x.wf) : ACalls Tryd.prog w0 35 #[kv, lv] H (BwQ w0 H ks l) := by
  obtain ⟨ka, kc, ek, hkc⟩ := Rd.slice hkv
  subst ek
  obtain ⟨la', lc, el, hlc⟩ := Rd.slice hlv
  subst el
  refine acalls_of Tryd.func35 rfl Tryd.ntmps35 r35 (by simp) ?_
  simp -implicitDefEqProofs only [go_sem, Nat.reduceEqDiff, Nat.reduceLT, Nat.reduceAdd, Nat.reduceMul, Int.reduceEq, Int.reduceLT, Int.reduceLE, Int.reduceNe, Int.reduceBEq, Int.reduceToNat, ↓reduceIte]
  refine (krright_ok hkv hn).mono ?_
  rintro r H1 ⟨rfl, rfl⟩
  cases hrk : rightK ks with
  | false =>
    simp -implicitDefEqProofs only [go_sem, Nat.reduceEqDiff, Nat.reduceLT, Nat.reduceAdd, Nat.reduceMul, Int.reduceEq, Int.reduceLT, Int.reduceLE, Int.reduceNe, Int.reduceBEq, Int.reduceToNat, ↓reduceIte]
    exact BwQ.err (c := 1) (Sub.refl _) (fitN_one (by rw [hrk]; rfl)) (by decide)
  | true =>
  by_cases hlen : l.length = ks.length
  · have dn : decide ((ks.length : Int) = (l.length : Int)) = true := decide_eq_true (by omega)
    obtain ⟨hk1, hk8, hkk⟩ := rightK_at hrk
    have hc1 : (rightK ks && decide (l.length = ks.length)) = true := by rw [hrk, decide_eq_true hlen]; rfl
    simp -implicitDefEqProofs only [go_sem, Nat.reduceEqDiff, Nat.reduceLT, Nat.reduceAdd, Nat.reduceMul, Int.reduceEq, Int.reduceLT, Int.reduceLE, Int.reduceNe, Int.reduceBEq, Int.reduceToNat, ↓reduceIte, dn]
    refine AC.loopH (BrL H1 (.slice ka ks.length kc) (.slice la' l.length lc) l) (n := l.length) ⟨0, by omega, by simp -implicitDefEqProofs only [go_sem, Nat.reduceEqDiff, Nat.reduceLT, Nat.reduceAdd, Nat.reduceMul, Int.reduceEq, Int.reduceLT, Int.reduceLE, Int.reduceNe, Int.reduceBEq, Int.reduceToNat, ↓reduceIte], by simp -implicitDefEqProofs only [go_sem, Nat.reduceEqDiff, Nat.reduceLT, Nat.reduceAdd, Nat.reduceMul, Int.reduceEq, Int.reduceLT, Int.reduceLE, Int.reduceNe, Int.reduceBEq, Int.reduceToNat, ↓reduceIte], by simp -implicitDefEqProofs only [go_sem, Nat.reduceEqDiff, Nat.reduceLT, Nat.reduceAdd, Nat.reduceMul, Int.reduceEq, Int.reduceLT, Int.reduceLE, Int.reduceNe, Int.reduceBEq, Int.reduceToNat, ↓reduceIte], by simp -implicitDefEqProofs only [go_sem, Nat.reduceEqDiff, Nat.reduceLT, Nat.reduceAdd, Nat.reduceMul, Int.reduceEq, Int.reduceLT, Int.reduceLE, Int.reduceNe, Int.reduceBEq, Int.reduceToNat, ↓reduceIte], by simp -implicitDefEqProofs only [go_sem, Nat.reduceEqDiff, Nat.reduceLT, Nat.reduceAdd, Nat.reduceMul, Int.reduceEq, Int.reduceLT, Int.reduceLE, Int.reduceNe, Int.reduceBEq, Int.reduceToNat, ↓reduceIte] <;> rfl, rfl, Sub.refl _⟩ ?_
    rintro m F H2 ⟨k, hk, f0, f1, f24, f25, f26, hall, hs⟩ hh
    by_cases ck : k < l.length
    · have d1 : decide ((k : Int) < (l.length : Int)) = true := decide_eq_true (by omega)
      have d0 : decide ((0 : Int) ≤ (k : Int)) = true := decide_eq_true (by omega)
      have d2 : IntKind.i64.wrap ((k : Int) + 1) = (k + 1 : Nat) := by rw [i64_in] <;> omega
      obtain ⟨x, hx⟩ : ∃ x, l[k]? = some x := ⟨_, List.getElem?_eq_getElem ck⟩
      obtain ⟨a, c, ea, l1⟩ := (hlv.sub hs hh).at hx
      have ea' : la' = some a := by injection ea
      rw [ea'] at f24
      simp -implicitDefEqProofs only [go_sem, Nat.reduceEqDiff, Nat.reduceLT, Nat.reduceAdd, Nat.reduceMul, Int.reduceEq, Int.reduceLT, Int.reduceLE, Int.reduceNe, Int.reduceBEq, Int.reduceToNat, ↓reduceIte, f0, f1, f24, f25, f26, d1, d0, l1]
      refine newK_of ?_
      intro b3 H3 hb3 hn3 h3 s3 g3
      simp -implicitDefEqProofs only [go_sem, Nat.reduceEqDiff, Nat.reduceLT, Nat.reduceAdd, Nat.reduceMul, Int.reduceEq, Int.reduceLT, Int.reduceLE, Int.reduceNe, Int.reduceBEq, Int.reduceToNat, ↓reduceIte]
      refine store_all (cs := (vc x).toArray) h3 rfl rfl s36 ?_
      intro H4 h4 g4
      have l4 := ldc w0 (l := vc x) h4 4
      have t4' : Sub H2 H4 := Sub.ne2 hn3 g3 g4
      simp -implicitDefEqProofs only [go_sem, Nat.reduceEqDiff, Nat.reduceLT, Nat.reduceAdd, Nat.reduceMul, Int.reduceEq, Int.reduceLT, Int.reduceLE, Int.reduceNe, Int.reduceBEq, Int.reduceToNat, ↓reduceIte, l4]
      refine rright_ok.mono ?_
      rintro r H5 ⟨rfl, rfl⟩
      cases hr : rightB x with
      | false =>
        simp -implicitDefEqProofs only [go_sem, Nat.reduceEqDiff, Nat.reduceLT, Nat.reduceAdd, Nat.reduceMul, Int.reduceEq, Int.reduceLT, Int.reduceLE, Int.reduceNe, Int.reduceBEq, Int.reduceToNat, ↓reduceIte]
        refine BwQ.err (c := 3) (hs.trans t4') (fitN_three hc1 ?_) (by decide)
        rw [List.all_eq_false]
        exact ⟨x, List.mem_of_getElem? hx, by rw [hr]; simp⟩
      | true =>
        have hall' : (l.take (k + 1)).all rightB = true := by rw [List.take_add_one, hx, List.all_append, hall]; simp [hr]
        simp -implicitDefEqProofs only [go_sem, Nat.reduceEqDiff, Nat.reduceLT, Nat.reduceAdd, Nat.reduceMul, Int.reduceEq, Int.reduceLT, Int.reduceLE, Int.reduceNe, Int.reduceBEq, Int.reduceToNat, ↓reduceIte, f26, d2]
        exact ⟨m - 1, by omega, k + 1, by omega, by simp -implicitDefEqProofs only [go_sem, Nat.reduceEqDiff, Nat.reduceLT, Nat.reduceAdd, Nat.reduceMul, Int.reduceEq, Int.reduceLT, Int.reduceLE, Int.reduceNe, Int.reduceBEq, Int.reduceToNat, ↓reduceIte, f0], by simp -implicitDefEqProofs only [go_sem, Nat.reduceEqDiff, Nat.reduceLT, Nat.reduceAdd, Nat.reduceMul, Int.reduceEq, Int.reduceLT, Int.reduceLE, Int.reduceNe, Int.reduceBEq, Int.reduceToNat, ↓reduceIte, f1], by simp -implicitDefEqProofs only [go_sem, Nat.reduceEqDiff, Nat.reduceLT, Nat.reduceAdd, Nat.reduceMul, Int.reduceEq, Int.reduceLT, Int.reduceLE, Int.reduceNe, Int.reduceBEq, Int.reduceToNat, ↓reduceIte, f24]; rw [ea'], by simp -implicitDefEqProofs only [go_sem, Nat.reduceEqDiff, Nat.reduceLT, Nat.reduceAdd, Nat.reduceMul, Int.reduceEq, Int.reduceLT, Int.reduceLE, Int.reduceNe, Int.reduceBEq, Int.reduceToNat, ↓reduceIte, f25], by simp -implicitDefEqProofs only [go_sem, Nat.reduceEqDiff, Nat.reduceLT, Nat.reduceAdd, Nat.reduceMul, Int.reduceEq, Int.reduceLT, Int.reduceLE, Int.reduceNe, Int.reduceBEq, Int.reduceToNat, ↓reduceIte], hall', hs.trans t4'⟩
    · have d1 : decide ((k : Int) < (l.length : Int)) = false := decide_eq_false (by omega)
      have htk : l.take k = l := List.take_of_length_le (by omega)
      rw [htk] at hall
      simp -implicitDefEqProofs only [go_sem, Nat.reduceEqDiff, Nat.reduceLT, Nat.reduceAdd, Nat.reduceMul, Int.reduceEq, Int.reduceLT, Int.reduceLE, Int.reduceNe, Int.reduceBEq, Int.reduceToNat, ↓reduceIte, f0, f1, f24, f25, f26, d1]
      refine AC.loopH (BrI w0 H1 (.slice ka ks.length kc) (.slice la' l.length lc) ks l) (n := l.length) ⟨0, by omega, by simp -implicitDefEqProofs only [go_sem, Nat.reduceEqDiff, Nat.reduceLT, Nat.reduceAdd, Nat.reduceMul, Int.reduceEq, Int.reduceLT, Int.reduceLE, Int.reduceNe, Int.reduceBEq, Int.reduceToNat, ↓reduceIte, f0], by simp -implicitDefEqProofs only [go_sem, Nat.reduceEqDiff, Nat.reduceLT, Nat.reduceAdd, Nat.reduceMul, Int.reduceEq, Int.reduceLT, Int.reduceLE, Int.reduceNe, Int.reduceBEq, Int.reduceToNat, ↓reduceIte], by simp -implicitDefEqProofs only [go_sem, Nat.reduceEqDiff, Nat.reduceLT, Nat.reduceAdd, Nat.reduceMul, Int.reduceEq, Int.reduceLT, Int.reduceLE, Int.reduceNe, Int.reduceBEq, Int.reduceToNat, ↓reduceIte], by simp -implicitDefEqProofs only [go_sem, Nat.reduceEqDiff, Nat.reduceLT, Nat.reduceAdd, Nat.reduceMul, Int.reduceEq, Int.reduceLT, Int.reduceLE, Int.reduceNe, Int.reduceBEq, Int.reduceToNat, ↓reduceIte] <;> rfl, by simp -implicitDefEqProofs only [go_sem, Nat.reduceEqDiff, Nat.reduceLT, Nat.reduceAdd, Nat.reduceMul, Int.reduceEq, Int.reduceLT, Int.reduceLE, Int.reduceNe, Int.reduceBEq, Int.reduceToNat, ↓reduceIte] <;> rfl, by simp -implicitDefEqProofs only [go_sem, Nat.reduceEqDiff, Nat.reduceLT, Nat.reduceAdd, Nat.reduceMul, Int.reduceEq, Int.reduceLT, Int.reduceLE, Int.reduceNe, Int.reduceBEq, Int.reduceToNat, ↓reduceIte] <;> rfl, rfl, .slice none 0 0, by simp -implicitDefEqProofs only [go_sem, Nat.reduceEqDiff, Nat.reduceLT, Nat.reduceAdd, Nat.reduceMul, Int.reduceEq, Int.reduceLT, Int.reduceLE, Int.reduceNe, Int.reduceBEq, Int.reduceToNat, ↓reduceIte], Row.nil _ _ _, fun b hb => (by simp [blk] at hb), hs⟩ ?_
      clear f0 f1 f24 f25 f26 d1 htk hk ck hs hh
      rintro m F H3 ⟨k, hk, f0, f34, f35, f36, f8, f9, hty, s, f10, hown, hf, hs⟩ hh
      by_cases ck : k < l.length
      · have d1 : decide ((k : Int) < (l.length : Int)) = true := decide_eq_true (by omega)
        have d0 : decide ((0 : Int) ≤ (k : Int)) = true := decide_eq_true (by omega)
        have d2 : IntKind.i64.wrap ((k : Int) + 1) = (k + 1 : Nat) := by rw [i64_in] <;> omega
        obtain ⟨x, hx⟩ : ∃ x, l[k]? = some x := ⟨_, List.getElem?_eq_getElem ck⟩
        obtain ⟨kk, hkx⟩ : ∃ kk, ks[k]? = some kk := ⟨_, List.getElem?_eq_getElem (by omega)⟩
        have hr := List.all_eq_true.1 hall x (List.mem_of_getElem? hx)
        have hxw := hw x (List.mem_of_getElem? hx)
        have hmk := mask_take hx
        have hbk := encB_snoc hx
        have hmlt := mask_lt (l.take k)
        have hkl : (l.take k).length = k := by rw [List.length_take]; omega
        rw [hkl] at hmlt
        have h128 : 2 ^ k ≤ 2 ^ 7 := Nat.pow_le_pow_right (by decide) (by omega)
        have hbl : (encB (l.take k)).length ≤ 61 * 8 := by
          have h1 : (l.take k).all rightB = true := by rw [List.all_eq_true] at *; exact fun x hx => hall x (List.mem_of_mem_take hx)
          have h2 := encB_len h1
          omega
        have hta := typesOk_at hkx hx
        rw [hty] at hta
        have wq := bit_next (k := k) (by omega)
        have e2k := bit_low0 ⟨k, by omega⟩
        simp only [] at e2k
        obtain ⟨a, c, ea, l1⟩ := (hlv.sub hs hh).at hx
        have ea' : la' = some a := by injection ea
        rw [ea'] at f34
        simp -implicitDefEqProofs only [go_sem, Nat.reduceEqDiff, Nat.reduceLT, Nat.reduceAdd, Nat.reduceMul, Int.reduceEq, Int.reduceLT, Int.reduceLE, Int.reduceNe, Int.reduceBEq, Int.reduceToNat, ↓reduceIte, f34, f35, f36, d1, d0, l1]
        refine newK_of ?_
        intro b4' H4 hb4 hn4 h4 s4' g4
        simp -implicitDefEqProofs only [go_sem, Nat.reduceEqDiff, Nat.reduceLT, Nat.reduceAdd, Nat.reduceMul, Int.reduceEq, Int.reduceLT, Int.reduceLE, Int.reduceNe, Int.reduceBEq, Int.reduceToNat, ↓reduceIte]
        refine store_all (cs := (vc x).toArray) h4 rfl rfl s36 ?_
        intro H5 h5 g5
        have q5 := ld_own w0 (c := (vc x).toArray) h5
        have t5 : Sub H3 H5 := Sub.ne2 hn4 g4 g5
        have hown5 := hown.sub t5
        have hs5 := hs.trans t5
        have hh5 : Hi w0 H5 := Hi.ne (Hi.ne hh hb4 g4) hb4 g5
        have ns4 := hown.ne hn4
        by_cases k0 : x.k = 0
        · have e0 : decide ((x.k : Int) = 0) = true := decide_eq_true (by omega)
          have n1 : decide ((x.k : Int) = 1) = false := decide_eq_false (by omega)
          have n2 : decide ((x.k : Int) = 2) = false := decide_eq_false (by omega)
          have n3 : decide ((x.k : Int) = 3) = false := decide_eq_false (by omega)
          have he : encv x = [] := by unfold encv; rw [if_pos k0]
          rw [if_pos k0] at hmk
          have hok : typeOk kk x = true := by unfold typeOk; rw [decide_eq_true k0]; rfl
          rw [hok, Bool.true_and] at hta
          have wa : IntKind.u8.wrap ((maskN (l.take k) : Int) + ((2 ^ k % 256 : Nat) : Int)) = (maskN (l.take (k + 1)) : Int) := by
            rw [hmk, e2k, u8_in] <;> omega
          simp -implicitDefEqProofs only [go_sem, Nat.reduceEqDiff, Nat.reduceLT, Nat.reduceAdd, Nat.reduceMul, Int.reduceEq, Int.reduceLT, Int.reduceLE, Int.reduceNe, Int.reduceBEq, Int.reduceToNat, ↓reduceIte, q5, e0, f8, f9, wa, wq, n1, n2, n3, f36, d2]
          rw [he, List.append_nil] at hbk
          rw [← hbk] at hown5
          exact ⟨m - 1, by omega, k + 1, by omega, by simp -implicitDefEqProofs only [go_sem, Nat.reduceEqDiff, Nat.reduceLT, Nat.reduceAdd, Nat.reduceMul, Int.reduceEq, Int.reduceLT, Int.reduceLE, Int.reduceNe, Int.reduceBEq, Int.reduceToNat, ↓reduceIte, f0], by simp -implicitDefEqProofs only [go_sem, Nat.reduceEqDiff, Nat.reduceLT, Nat.reduceAdd, Nat.reduceMul, Int.reduceEq, Int.reduceLT, Int.reduceLE, Int.reduceNe, Int.reduceBEq, Int.reduceToNat, ↓reduceIte, f34]; rw [ea'], by simp -implicitDefEqProofs only [go_sem, Nat.reduceEqDiff, Nat.reduceLT, Nat.reduceAdd, Nat.reduceMul, Int.reduceEq, Int.reduceLT, Int.reduceLE, Int.reduceNe, Int.reduceBEq, Int.reduceToNat, ↓reduceIte, f35], by simp -implicitDefEqProofs only [go_sem, Nat.reduceEqDiff, Nat.reduceLT, Nat.reduceAdd, Nat.reduceMul, Int.reduceEq, Int.reduceLT, Int.reduceLE, Int.reduceNe, Int.reduceBEq, Int.reduceToNat, ↓reduceIte], by simp -implicitDefEqProofs only [go_sem, Nat.reduceEqDiff, Nat.reduceLT, Nat.reduceAdd, Nat.reduceMul, Int.reduceEq, Int.reduceLT, Int.reduceLE, Int.reduceNe, Int.reduceBEq, Int.reduceToNat, ↓reduceIte], by simp -implicitDefEqProofs only [go_sem, Nat.reduceEqDiff, Nat.reduceLT, Nat.reduceAdd, Nat.reduceMul, Int.reduceEq, Int.reduceLT, Int.reduceLE, Int.reduceNe, Int.reduceBEq, Int.reduceToNat, ↓reduceIte], hta.symm, s, by simp -implicitDefEqProofs only [go_sem, Nat.reduceEqDiff, Nat.reduceLT, Nat.reduceAdd, Nat.reduceMul, Int.reduceEq, Int.reduceLT, Int.reduceLE, Int.reduceNe, Int.reduceBEq, Int.reduceToNat, ↓reduceIte, f10], hown5, hf, hs5⟩
        have e0 : decide ((x.k : Int) = 0) = false := decide_eq_false (by omega)
        have hmk : maskN (l.take (k + 1)) = maskN (l.take k) := by rw [hmk, if_neg k0]; rfl
        obtain ⟨ka1, kc1, eka, lka⟩ := Rd.at1 (hkv.sub hs5 hh5) (u8s_ix hkx)
        have eka' : ka = some ka1 := by injection eka
        have dK : decide ((k : Int) < (ks.length : Int)) = true := decide_eq_true (by omega)
        have f0' := f0
        rw [eka'] at f0'
        by_cases ckk : x.k = kk.toNat
        · have de : decide ((x.k : Int) = (kk.toNat : Int)) = true := decide_eq_true (by omega)
          have hok : typeOk kk x = true := by unfold typeOk; rw [decide_eq_true ckk]; simp
          rw [hok, Bool.true_and] at hta
          rw [← hmk] at f8
          by_cases k1 : x.k = 1
          · have e1 : decide ((x.k : Int) = 1) = true := decide_eq_true (by omega)
            have he : encv x = le8 (un x.i) := by unfold encv; rw [if_neg k0, if_pos k1]
            have wu := un_wrap x.i
            have hul := un_lt x.i
            simp -implicitDefEqProofs only [go_sem, Nat.reduceEqDiff, Nat.reduceLT, Nat.reduceAdd, Nat.reduceMul, Int.reduceEq, Int.reduceLT, Int.reduceLE, Int.reduceNe, Int.reduceBEq, Int.reduceToNat, ↓reduceIte, q5, e0]
            refine vdraw_t [⟨0, .p, [], []⟩, ⟨1, .n, [], []⟩, ⟨2, .p, [], []⟩, ⟨3, .p, [], []⟩, ⟨4, .p, [], []⟩, ⟨5, .n, [], []⟩, ⟨6, .p, [], []⟩] [0, 1, 0, 0, 12, 28, 63] mixed (by kernel_rfl) ?_
            simp -implicitDefEqProofs only [go_sem, Nat.reduceEqDiff, Nat.reduceLT, Nat.reduceAdd, Nat.reduceMul, Int.reduceEq, Int.reduceLT, Int.reduceLE, Int.reduceNe, Int.reduceBEq, Int.reduceToNat, ↓reduceIte, q5, f0', d0, dK, lka, de, f9, wq, e1, wu]
            refine AC.loop (BrJ w0 H1 (.slice ka ks.length kc) (.slice (some a) l.length lc) l k (2 ^ (k + 1) % 256) (un x.i) (encB (l.take k))) (n := 8) ⟨0, by omega, by simp -implicitDefEqProofs only [go_sem, Nat.reduceEqDiff, Nat.reduceLT, Nat.reduceAdd, Nat.reduceMul, Int.reduceEq, Int.reduceLT, Int.reduceLE, Int.reduceNe, Int.reduceBEq, Int.reduceToNat, ↓reduceIte, f0], by simp -implicitDefEqProofs only [go_sem, Nat.reduceEqDiff, Nat.reduceLT, Nat.reduceAdd, Nat.reduceMul, Int.reduceEq, Int.reduceLT, Int.reduceLE, Int.reduceNe, Int.reduceBEq, Int.reduceToNat, ↓reduceIte, f34], by simp -implicitDefEqProofs only [go_sem, Nat.reduceEqDiff, Nat.reduceLT, Nat.reduceAdd, Nat.reduceMul, Int.reduceEq, Int.reduceLT, Int.reduceLE, Int.reduceNe, Int.reduceBEq, Int.reduceToNat, ↓reduceIte, f35], by simp -implicitDefEqProofs only [go_sem, Nat.reduceEqDiff, Nat.reduceLT, Nat.reduceAdd, Nat.reduceMul, Int.reduceEq, Int.reduceLT, Int.reduceLE, Int.reduceNe, Int.reduceBEq, Int.reduceToNat, ↓reduceIte, f36], by simp -implicitDefEqProofs only [go_sem, Nat.reduceEqDiff, Nat.reduceLT, Nat.reduceAdd, Nat.reduceMul, Int.reduceEq, Int.reduceLT, Int.reduceLE, Int.reduceNe, Int.reduceBEq, Int.reduceToNat, ↓reduceIte, f8]; rw [hmk], by simp -implicitDefEqProofs only [go_sem, Nat.reduceEqDiff, Nat.reduceLT, Nat.reduceAdd, Nat.reduceMul, Int.reduceEq, Int.reduceLT, Int.reduceLE, Int.reduceNe, Int.reduceBEq, Int.reduceToNat, ↓reduceIte], by simp -implicitDefEqProofs only [go_sem, Nat.reduceEqDiff, Nat.reduceLT, Nat.reduceAdd, Nat.reduceMul, Int.reduceEq, Int.reduceLT, Int.reduceLE, Int.reduceNe, Int.reduceBEq, Int.reduceToNat, ↓reduceIte]; simp, by simp -implicitDefEqProofs only [go_sem, Nat.reduceEqDiff, Nat.reduceLT, Nat.reduceAdd, Nat.reduceMul, Int.reduceEq, Int.reduceLT, Int.reduceLE, Int.reduceNe, Int.reduceBEq, Int.reduceToNat, ↓reduceIte] <;> rfl, s, by simp -implicitDefEqProofs only [go_sem, Nat.reduceEqDiff, Nat.reduceLT, Nat.reduceAdd, Nat.reduceMul, Int.reduceEq, Int.reduceLT, Int.reduceLE, Int.reduceNe, Int.reduceBEq, Int.reduceToNat, ↓reduceIte, f10], by simpa using hown5, hf, hs5⟩ ?_
            clear f0 f0' f34 f35 f36 f8 f9 f10
            rintro m2 F H6 ⟨d, hd, f0, f34, f35, f36, f8, f9, f13, f63, s6, f10, o6, hf6, hs6⟩
            by_cases cd : d < 8
            · have c1 : decide ((d : Int) < 8) = true := decide_eq_true (by omega)
              have w9 : IntKind.i64.wrap ((d : Int) + 1) = ((d + 1 : Nat) : Int) := by rw [i64_in] <;> omega
              have wr := rem_lawW (un x.i / 256 ^ d)
              have wd := quo_lawW (d := d) hul
              simp -implicitDefEqProofs only [go_sem, Nat.reduceEqDiff, Nat.reduceLT, Nat.reduceAdd, Nat.reduceMul, Int.reduceEq, Int.reduceLT, Int.reduceLE, Int.reduceNe, Int.reduceBEq, Int.reduceToNat, ↓reduceIte, f13, f63, f10, c1, wr]
              refine newK_of ?_
              intro bx H8 hbx hnx hx8 sx gx
              simp -implicitDefEqProofs only [go_sem, Nat.reduceEqDiff, Nat.reduceLT, Nat.reduceAdd, Nat.reduceMul, Int.reduceEq, Int.reduceLT, Int.reduceLE, Int.reduceNe, Int.reduceBEq, Int.reduceToNat, ↓reduceIte, f10]
              have hl8 : ((le8 (un x.i)).take d).length ≤ 8 := by rw [List.length_take, le8_len]; omega
              refine app_b (Hb := H1) (by simp -implicitDefEqProofs only [go_sem, Nat.reduceEqDiff, Nat.reduceLT, Nat.reduceAdd, Nat.reduceMul, Int.reduceEq, Int.reduceLT, Int.reduceLE, Int.reduceNe, Int.reduceBEq, Int.reduceToNat, ↓reduceIte, f10]) (o6.sub sx) (by simp -implicitDefEqProofs only [go_sem, Nat.reduceEqDiff, Nat.reduceLT, Nat.reduceAdd, Nat.reduceMul, Int.reduceEq, Int.reduceLT, Int.reduceLE, Int.reduceNe, Int.reduceBEq, Int.reduceToNat, ↓reduceIte]) (Own.lit (p := [UInt8.ofNat (un x.i / 256 ^ d)]) hx8 rfl).bt (by simp only [List.length_append, List.length_cons, List.length_nil]; omega) hf6 (hs6.trans sx) ?_
              intro r9 H9 o9 f9' s9 a9
              have e9 : (le8 (un x.i)).take (d + 1) = (le8 (un x.i)).take d ++ [UInt8.ofNat (un x.i / 256 ^ d)] := by rw [List.take_add_one, le8_at _ _ cd]; rfl
              rw [List.append_assoc, ← e9] at o9
              simp -implicitDefEqProofs only [go_sem, Nat.reduceEqDiff, Nat.reduceLT, Nat.reduceAdd, Nat.reduceMul, Int.reduceEq, Int.reduceLT, Int.reduceLE, Int.reduceNe, Int.reduceBEq, Int.reduceToNat, ↓reduceIte, f13, f63, w9, wd]
              exact ⟨m2 - 1, by omega, d + 1, by omega, by simp -implicitDefEqProofs only [go_sem, Nat.reduceEqDiff, Nat.reduceLT, Nat.reduceAdd, Nat.reduceMul, Int.reduceEq, Int.reduceLT, Int.reduceLE, Int.reduceNe, Int.reduceBEq, Int.reduceToNat, ↓reduceIte, f0], by simp -implicitDefEqProofs only [go_sem, Nat.reduceEqDiff, Nat.reduceLT, Nat.reduceAdd, Nat.reduceMul, Int.reduceEq, Int.reduceLT, Int.reduceLE, Int.reduceNe, Int.reduceBEq, Int.reduceToNat, ↓reduceIte, f34], by simp -implicitDefEqProofs only [go_sem, Nat.reduceEqDiff, Nat.reduceLT, Nat.reduceAdd, Nat.reduceMul, Int.reduceEq, Int.reduceLT, Int.reduceLE, Int.reduceNe, Int.reduceBEq, Int.reduceToNat, ↓reduceIte, f35], by simp -implicitDefEqProofs only [go_sem, Nat.reduceEqDiff, Nat.reduceLT, Nat.reduceAdd, Nat.reduceMul, Int.reduceEq, Int.reduceLT, Int.reduceLE, Int.reduceNe, Int.reduceBEq, Int.reduceToNat, ↓reduceIte, f36], by simp -implicitDefEqProofs only [go_sem, Nat.reduceEqDiff, Nat.reduceLT, Nat.reduceAdd, Nat.reduceMul, Int.reduceEq, Int.reduceLT, Int.reduceLE, Int.reduceNe, Int.reduceBEq, Int.reduceToNat, ↓reduceIte, f8], by simp -implicitDefEqProofs only [go_sem, Nat.reduceEqDiff, Nat.reduceLT, Nat.reduceAdd, Nat.reduceMul, Int.reduceEq, Int.reduceLT, Int.reduceLE, Int.reduceNe, Int.reduceBEq, Int.reduceToNat, ↓reduceIte, f9], by simp -implicitDefEqProofs only [go_sem, Nat.reduceEqDiff, Nat.reduceLT, Nat.reduceAdd, Nat.reduceMul, Int.reduceEq, Int.reduceLT, Int.reduceLE, Int.reduceNe, Int.reduceBEq, Int.reduceToNat, ↓reduceIte], by simp -implicitDefEqProofs only [go_sem, Nat.reduceEqDiff, Nat.reduceLT, Nat.reduceAdd, Nat.reduceMul, Int.reduceEq, Int.reduceLT, Int.reduceLE, Int.reduceNe, Int.reduceBEq, Int.reduceToNat, ↓reduceIte], r9, by simp -implicitDefEqProofs only [go_sem, Nat.reduceEqDiff, Nat.reduceLT, Nat.reduceAdd, Nat.reduceMul, Int.reduceEq, Int.reduceLT, Int.reduceLE, Int.reduceNe, Int.reduceBEq, Int.reduceToNat, ↓reduceIte], o9, f9', s9⟩
            · have c1 : decide ((d : Int) < 8) = false := decide_eq_false (by omega)
              have h8 : (le8 (un x.i)).take d = le8 (un x.i) := List.take_of_length_le (by rw [le8_len]; omega)
              rw [h8] at o6
              rw [← hmk] at f8
              simp -implicitDefEqProofs only [go_sem, Nat.reduceEqDiff, Nat.reduceLT, Nat.reduceAdd, Nat.reduceMul, Int.reduceEq, Int.reduceLT, Int.reduceLE, Int.reduceNe, Int.reduceBEq, Int.reduceToNat, ↓reduceIte, f13, f63, f36, c1, d2]
              have ho := o6
              rw [← he, ← hbk] at ho
              exact ⟨m - 1, by omega, k + 1, by omega, by simp -implicitDefEqProofs only [go_sem, Nat.reduceEqDiff, Nat.reduceLT, Nat.reduceAdd, Nat.reduceMul, Int.reduceEq, Int.reduceLT, Int.reduceLE, Int.reduceNe, Int.reduceBEq, Int.reduceToNat, ↓reduceIte, f0], by simp -implicitDefEqProofs only [go_sem, Nat.reduceEqDiff, Nat.reduceLT, Nat.reduceAdd, Nat.reduceMul, Int.reduceEq, Int.reduceLT, Int.reduceLE, Int.reduceNe, Int.reduceBEq, Int.reduceToNat, ↓reduceIte, f34]; rw [ea'], by simp -implicitDefEqProofs only [go_sem, Nat.reduceEqDiff, Nat.reduceLT, Nat.reduceAdd, Nat.reduceMul, Int.reduceEq, Int.reduceLT, Int.reduceLE, Int.reduceNe, Int.reduceBEq, Int.reduceToNat, ↓reduceIte, f35], by simp -implicitDefEqProofs only [go_sem, Nat.reduceEqDiff, Nat.reduceLT, Nat.reduceAdd, Nat.reduceMul, Int.reduceEq, Int.reduceLT, Int.reduceLE, Int.reduceNe, Int.reduceBEq, Int.reduceToNat, ↓reduceIte], by simp -implicitDefEqProofs only [go_sem, Nat.reduceEqDiff, Nat.reduceLT, Nat.reduceAdd, Nat.reduceMul, Int.reduceEq, Int.reduceLT, Int.reduceLE, Int.reduceNe, Int.reduceBEq, Int.reduceToNat, ↓reduceIte, f8], by simp -implicitDefEqProofs only [go_sem, Nat.reduceEqDiff, Nat.reduceLT, Nat.reduceAdd, Nat.reduceMul, Int.reduceEq, Int.reduceLT, Int.reduceLE, Int.reduceNe, Int.reduceBEq, Int.reduceToNat, ↓reduceIte, f9], hta.symm, s6, by simp -implicitDefEqProofs only [go_sem, Nat.reduceEqDiff, Nat.reduceLT, Nat.reduceAdd, Nat.reduceMul, Int.reduceEq, Int.reduceLT, Int.reduceLE, Int.reduceNe, Int.reduceBEq, Int.reduceToNat, ↓reduceIte, f10], ho, hf6, hs6⟩
          have e1 : decide ((x.k : Int) = 1) = false := decide_eq_false (by omega)
          by_cases k2 : x.k = 2
          · have e2 : decide ((x.k : Int) = 2) = true := decide_eq_true (by omega)
            have he : encv x = UInt8.ofNat x.s.length :: x.s := by unfold encv; rw [if_neg k0, if_neg k1, if_pos k2]
            have h60 : x.s.length ≤ 60 := by
              unfold rightB at hr
              simp only [Bool.and_eq_true, decide_eq_true_eq] at hr
              exact hr.2.2.1
            have wl := u8_of x.s.length
            simp -implicitDefEqProofs only [go_sem, Nat.reduceEqDiff, Nat.reduceLT, Nat.reduceAdd, Nat.reduceMul, Int.reduceEq, Int.reduceLT, Int.reduceLE, Int.reduceNe, Int.reduceBEq, Int.reduceToNat, ↓reduceIte, q5, e0]
            refine vdraw_t [⟨0, .p, [], []⟩, ⟨1, .n, [], []⟩, ⟨2, .p, [], []⟩, ⟨3, .p, [], []⟩, ⟨4, .p, [], []⟩, ⟨5, .n, [], []⟩, ⟨6, .p, [], []⟩] [0, 1, 0, 0, 12, 28, 63] mixed (by kernel_rfl) ?_
            simp -implicitDefEqProofs only [go_sem, Nat.reduceEqDiff, Nat.reduceLT, Nat.reduceAdd, Nat.reduceMul, Int.reduceEq, Int.reduceLT, Int.reduceLE, Int.reduceNe, Int.reduceBEq, Int.reduceToNat, ↓reduceIte, q5, f0', d0, dK, lka, de, f9, wq, e1, e2, f10, str_size, wl]
            refine newK_of ?_
            intro bx H6 hbx hnx hx6 sx gx
            simp -implicitDefEqProofs only [go_sem, Nat.reduceEqDiff, Nat.reduceLT, Nat.reduceAdd, Nat.reduceMul, Int.reduceEq, Int.reduceLT, Int.reduceLE, Int.reduceNe, Int.reduceBEq, Int.reduceToNat, ↓reduceIte, f10]
            refine app_b (Hb := H1) (by simp -implicitDefEqProofs only [go_sem, Nat.reduceEqDiff, Nat.reduceLT, Nat.reduceAdd, Nat.reduceMul, Int.reduceEq, Int.reduceLT, Int.reduceLE, Int.reduceNe, Int.reduceBEq, Int.reduceToNat, ↓reduceIte, f10]) (hown5.sub sx) (by simp -implicitDefEqProofs only [go_sem, Nat.reduceEqDiff, Nat.reduceLT, Nat.reduceAdd, Nat.reduceMul, Int.reduceEq, Int.reduceLT, Int.reduceLE, Int.reduceNe, Int.reduceBEq, Int.reduceToNat, ↓reduceIte]) (Own.lit (p := [UInt8.ofNat x.s.length]) hx6 rfl).bt (by simp only [List.length_cons, List.length_nil]; omega) hf (hs5.trans sx) ?_
            intro r7 H7 o7 f7' s7 a7
            obtain ⟨h79, n79⟩ := App.keep a7 (sx _ _ h5) ns4
            have q7 := ld_own w0 (c := (vc x).toArray) h79
            simp -implicitDefEqProofs only [go_sem, Nat.reduceEqDiff, Nat.reduceLT, Nat.reduceAdd, Nat.reduceMul, Int.reduceEq, Int.reduceLT, Int.reduceLE, Int.reduceNe, Int.reduceBEq, Int.reduceToNat, ↓reduceIte, q7]
            refine app_s (Hb := H1) (q := x.s) (by simp -implicitDefEqProofs only [go_sem, Nat.reduceEqDiff, Nat.reduceLT, Nat.reduceAdd, Nat.reduceMul, Int.reduceEq, Int.reduceLT, Int.reduceLE, Int.reduceNe, Int.reduceBEq, Int.reduceToNat, ↓reduceIte]) o7 (by simp -implicitDefEqProofs only [go_sem, Nat.reduceEqDiff, Nat.reduceLT, Nat.reduceAdd, Nat.reduceMul, Int.reduceEq, Int.reduceLT, Int.reduceLE, Int.reduceNe, Int.reduceBEq, Int.reduceToNat, ↓reduceIte]) (by simp only [List.length_append, List.length_cons, List.length_nil]; omega) f7' s7 ?_
            intro rr H8 ho hf' hs' _
            rw [List.append_assoc, List.singleton_append] at ho
            simp -implicitDefEqProofs only [go_sem, Nat.reduceEqDiff, Nat.reduceLT, Nat.reduceAdd, Nat.reduceMul, Int.reduceEq, Int.reduceLT, Int.reduceLE, Int.reduceNe, Int.reduceBEq, Int.reduceToNat, ↓reduceIte, f36, d2]
            rw [← he, ← hbk] at ho
            exact ⟨m - 1, by omega, k + 1, by omega, by simp -implicitDefEqProofs only [go_sem, Nat.reduceEqDiff, Nat.reduceLT, Nat.reduceAdd, Nat.reduceMul, Int.reduceEq, Int.reduceLT, Int.reduceLE, Int.reduceNe, Int.reduceBEq, Int.reduceToNat, ↓reduceIte, f0], by simp -implicitDefEqProofs only [go_sem, Nat.reduceEqDiff, Nat.reduceLT, Nat.reduceAdd, Nat.reduceMul, Int.reduceEq, Int.reduceLT, Int.reduceLE, Int.reduceNe, Int.reduceBEq, Int.reduceToNat, ↓reduceIte, f34]; rw [ea'], by simp -implicitDefEqProofs only [go_sem, Nat.reduceEqDiff, Nat.reduceLT, Nat.reduceAdd, Nat.reduceMul, Int.reduceEq, Int.reduceLT, Int.reduceLE, Int.reduceNe, Int.reduceBEq, Int.reduceToNat, ↓reduceIte, f35], by simp -implicitDefEqProofs only [go_sem, Nat.reduceEqDiff, Nat.reduceLT, Nat.reduceAdd, Nat.reduceMul, Int.reduceEq, Int.reduceLT, Int.reduceLE, Int.reduceNe, Int.reduceBEq, Int.reduceToNat, ↓reduceIte], by simp -implicitDefEqProofs only [go_sem, Nat.reduceEqDiff, Nat.reduceLT, Nat.reduceAdd, Nat.reduceMul, Int.reduceEq, Int.reduceLT, Int.reduceLE, Int.reduceNe, Int.reduceBEq, Int.reduceToNat, ↓reduceIte, f8], by simp -implicitDefEqProofs only [go_sem, Nat.reduceEqDiff, Nat.reduceLT, Nat.reduceAdd, Nat.reduceMul, Int.reduceEq, Int.reduceLT, Int.reduceLE, Int.reduceNe, Int.reduceBEq, Int.reduceToNat, ↓reduceIte], hta.symm, rr, by simp -implicitDefEqProofs only [go_sem, Nat.reduceEqDiff, Nat.reduceLT, Nat.reduceAdd, Nat.reduceMul, Int.reduceEq, Int.reduceLT, Int.reduceLE, Int.reduceNe, Int.reduceBEq, Int.reduceToNat, ↓reduceIte], ho, hf', hs'⟩
          have e2 : decide ((x.k : Int) = 2) = false := decide_eq_false (by omega)
          have hk4 : x.k < 4 := by
            unfold rightB at hr
            simp only [Bool.and_eq_true, decide_eq_true_eq] at hr
            exact hr.1
          have e3 : decide ((x.k : Int) = 3) = true := decide_eq_true (by omega)
          cases eb : x.b with
          | true =>
            have he : encv x = [1] := by unfold encv; rw [if_neg k0, if_neg k1, if_neg k2, if_pos eb]
            simp -implicitDefEqProofs only [go_sem, Nat.reduceEqDiff, Nat.reduceLT, Nat.reduceAdd, Nat.reduceMul, Int.reduceEq, Int.reduceLT, Int.reduceLE, Int.reduceNe, Int.reduceBEq, Int.reduceToNat, ↓reduceIte, q5, e0]
            refine vdraw_t [⟨0, .p, [], []⟩, ⟨1, .n, [], []⟩, ⟨2, .p, [], []⟩, ⟨3, .p, [], []⟩, ⟨4, .p, [], []⟩, ⟨5, .n, [], []⟩, ⟨6, .p, [], []⟩] [0, 1, 0, 0, 12, 28, 63] mixed (by kernel_rfl) ?_
            simp -implicitDefEqProofs only [go_sem, Nat.reduceEqDiff, Nat.reduceLT, Nat.reduceAdd, Nat.reduceMul, Int.reduceEq, Int.reduceLT, Int.reduceLE, Int.reduceNe, Int.reduceBEq, Int.reduceToNat, ↓reduceIte, q5, f0', d0, dK, lka, de, f9, wq, e1, e2, e3, eb, f10]
            refine newK_of ?_
            intro bx H6 hbx hnx hx6 sx gx
            simp -implicitDefEqProofs only [go_sem, Nat.reduceEqDiff, Nat.reduceLT, Nat.reduceAdd, Nat.reduceMul, Int.reduceEq, Int.reduceLT, Int.reduceLE, Int.reduceNe, Int.reduceBEq, Int.reduceToNat, ↓reduceIte, f10]
            refine app_b (Hb := H1) (by simp -implicitDefEqProofs only [go_sem, Nat.reduceEqDiff, Nat.reduceLT, Nat.reduceAdd, Nat.reduceMul, Int.reduceEq, Int.reduceLT, Int.reduceLE, Int.reduceNe, Int.reduceBEq, Int.reduceToNat, ↓reduceIte, f10]) (hown5.sub sx) (by simp -implicitDefEqProofs only [go_sem, Nat.reduceEqDiff, Nat.reduceLT, Nat.reduceAdd, Nat.reduceMul, Int.reduceEq, Int.reduceLT, Int.reduceLE, Int.reduceNe, Int.reduceBEq, Int.reduceToNat, ↓reduceIte]) (Own.lit (p := [1]) hx6 rfl).bt (by simp only [List.length_cons, List.length_nil]; omega) hf (hs5.trans sx) ?_
            intro rr H8 ho hf' hs' _
            simp -implicitDefEqProofs only [go_sem, Nat.reduceEqDiff, Nat.reduceLT, Nat.reduceAdd, Nat.reduceMul, Int.reduceEq, Int.reduceLT, Int.reduceLE, Int.reduceNe, Int.reduceBEq, Int.reduceToNat, ↓reduceIte, f36, d2]
            rw [← he, ← hbk] at ho
            exact ⟨m - 1, by omega, k + 1, by omega, by simp -implicitDefEqProofs only [go_sem, Nat.reduceEqDiff, Nat.reduceLT, Nat.reduceAdd, Nat.reduceMul, Int.reduceEq, Int.reduceLT, Int.reduceLE, Int.reduceNe, Int.reduceBEq, Int.reduceToNat, ↓reduceIte, f0], by simp -implicitDefEqProofs only [go_sem, Nat.reduceEqDiff, Nat.reduceLT, Nat.reduceAdd, Nat.reduceMul, Int.reduceEq, Int.reduceLT, Int.reduceLE, Int.reduceNe, Int.reduceBEq, Int.reduceToNat, ↓reduceIte, f34]; rw [ea'], by simp -implicitDefEqProofs only [go_sem, Nat.reduceEqDiff, Nat.reduceLT, Nat.reduceAdd, Nat.reduceMul, Int.reduceEq, Int.reduceLT, Int.reduceLE, Int.reduceNe, Int.reduceBEq, Int.reduceToNat, ↓reduceIte, f35], by simp -implicitDefEqProofs only [go_sem, Nat.reduceEqDiff, Nat.reduceLT, Nat.reduceAdd, Nat.reduceMul, Int.reduceEq, Int.reduceLT, Int.reduceLE, Int.reduceNe, Int.reduceBEq, Int.reduceToNat, ↓reduceIte], by simp -implicitDefEqProofs only [go_sem, Nat.reduceEqDiff, Nat.reduceLT, Nat.reduceAdd, Nat.reduceMul, Int.reduceEq, Int.reduceLT, Int.reduceLE, Int.reduceNe, Int.reduceBEq, Int.reduceToNat, ↓reduceIte, f8], by simp -implicitDefEqProofs only [go_sem, Nat.reduceEqDiff, Nat.reduceLT, Nat.reduceAdd, Nat.reduceMul, Int.reduceEq, Int.reduceLT, Int.reduceLE, Int.reduceNe, Int.reduceBEq, Int.reduceToNat, ↓reduceIte], hta.symm, rr, by simp -implicitDefEqProofs only [go_sem, Nat.reduceEqDiff, Nat.reduceLT, Nat.reduceAdd, Nat.reduceMul, Int.reduceEq, Int.reduceLT, Int.reduceLE, Int.reduceNe, Int.reduceBEq, Int.reduceToNat, ↓reduceIte], ho, hf', hs'⟩
          | false =>
            have he : encv x = [0] := by unfold encv; rw [if_neg k0, if_neg k1, if_neg k2, if_neg (by rw [eb]; simp)]
            simp -implicitDefEqProofs only [go_sem, Nat.reduceEqDiff, Nat.reduceLT, Nat.reduceAdd, Nat.reduceMul, Int.reduceEq, Int.reduceLT, Int.reduceLE, Int.reduceNe, Int.reduceBEq, Int.reduceToNat, ↓reduceIte, q5, e0]
            refine vdraw_t [⟨0, .p, [], []⟩, ⟨1, .n, [], []⟩, ⟨2, .p, [], []⟩, ⟨3, .p, [], []⟩, ⟨4, .p, [], []⟩, ⟨5, .n, [], []⟩, ⟨6, .p, [], []⟩] [0, 1, 0, 0, 12, 28, 63] mixed (by kernel_rfl) ?_
            simp -implicitDefEqProofs only [go_sem, Nat.reduceEqDiff, Nat.reduceLT, Nat.reduceAdd, Nat.reduceMul, Int.reduceEq, Int.reduceLT, Int.reduceLE, Int.reduceNe, Int.reduceBEq, Int.reduceToNat, ↓reduceIte, q5, f0', d0, dK, lka, de, f9, wq, e1, e2, e3, eb, f10]
            refine newK_of ?_
            intro bx H6 hbx hnx hx6 sx gx
            simp -implicitDefEqProofs only [go_sem, Nat.reduceEqDiff, Nat.reduceLT, Nat.reduceAdd, Nat.reduceMul, Int.reduceEq, Int.reduceLT, Int.reduceLE, Int.reduceNe, Int.reduceBEq, Int.reduceToNat, ↓reduceIte, f10]
            refine app_b (Hb := H1) (by simp -implicitDefEqProofs only [go_sem, Nat.reduceEqDiff, Nat.reduceLT, Nat.reduceAdd, Nat.reduceMul, Int.reduceEq, Int.reduceLT, Int.reduceLE, Int.reduceNe, Int.reduceBEq, Int.reduceToNat, ↓reduceIte, f10]) (hown5.sub sx) (by simp -implicitDefEqProofs only [go_sem, Nat.reduceEqDiff, Nat.reduceLT, Nat.reduceAdd, Nat.reduceMul, Int.reduceEq, Int.reduceLT, Int.reduceLE, Int.reduceNe, Int.reduceBEq, Int.reduceToNat, ↓reduceIte]) (Own.lit (p := [0]) hx6 rfl).bt (by simp only [List.length_cons, List.length_nil]; omega) hf (hs5.trans sx) ?_
            intro rr H8 ho hf' hs' _
            simp -implicitDefEqProofs only [go_sem, Nat.reduceEqDiff, Nat.reduceLT, Nat.reduceAdd, Nat.reduceMul, Int.reduceEq, Int.reduceLT, Int.reduceLE, Int.reduceNe, Int.reduceBEq, Int.reduceToNat, ↓reduceIte, f36, d2]
            rw [← he, ← hbk] at ho
            exact ⟨m - 1, by omega, k + 1, by omega, by simp -implicitDefEqProofs only [go_sem, Nat.reduceEqDiff, Nat.reduceLT, Nat.reduceAdd, Nat.reduceMul, Int.reduceEq, Int.reduceLT, Int.reduceLE, Int.reduceNe, Int.reduceBEq, Int.reduceToNat, ↓reduceIte, f0], by simp -implicitDefEqProofs only [go_sem, Nat.reduceEqDiff, Nat.reduceLT, Nat.reduceAdd, Nat.reduceMul, Int.reduceEq, Int.reduceLT, Int.reduceLE, Int.reduceNe, Int.reduceBEq, Int.reduceToNat, ↓reduceIte, f34]; rw [ea'], by simp -implicitDefEqProofs only [go_sem, Nat.reduceEqDiff, Nat.reduceLT, Nat.reduceAdd, Nat.reduceMul, Int.reduceEq, Int.reduceLT, Int.reduceLE, Int.reduceNe, Int.reduceBEq, Int.reduceToNat, ↓reduceIte, f35], by simp -implicitDefEqProofs only [go_sem, Nat.reduceEqDiff, Nat.reduceLT, Nat.reduceAdd, Nat.reduceMul, Int.reduceEq, Int.reduceLT, Int.reduceLE, Int.reduceNe, Int.reduceBEq, Int.reduceToNat, ↓reduceIte], by simp -implicitDefEqProofs only [go_sem, Nat.reduceEqDiff, Nat.reduceLT, Nat.reduceAdd, Nat.reduceMul, Int.reduceEq, Int.reduceLT, Int.reduceLE, Int.reduceNe, Int.reduceBEq, Int.reduceToNat, ↓reduceIte, f8], by simp -implicitDefEqProofs only [go_sem, Nat.reduceEqDiff, Nat.reduceLT, Nat.reduceAdd, Nat.reduceMul, Int.reduceEq, Int.reduceLT, Int.reduceLE, Int.reduceNe, Int.reduceBEq, Int.reduceToNat, ↓reduceIte], hta.symm, rr, by simp -implicitDefEqProofs only [go_sem, Nat.reduceEqDiff, Nat.reduceLT, Nat.reduceAdd, Nat.reduceMul, Int.reduceEq, Int.reduceLT, Int.reduceLE, Int.reduceNe, Int.reduceBEq, Int.reduceToNat, ↓reduceIte], ho, hf', hs'⟩
        · have de : decide ((x.k : Int) = (kk.toNat : Int)) = false := decide_eq_false (by omega)
          have hok : typeOk kk x = false := by unfold typeOk; rw [decide_eq_false k0, decide_eq_false ckk]; rfl
          rw [hok, Bool.false_and] at hta
          simp -implicitDefEqProofs only [go_sem, Nat.reduceEqDiff, Nat.reduceLT, Nat.reduceAdd, Nat.reduceMul, Int.reduceEq, Int.reduceLT, Int.reduceLE, Int.reduceNe, Int.reduceBEq, Int.reduceToNat, ↓reduceIte, q5, e0]
          refine vdraw_t [⟨0, .p, [], []⟩, ⟨1, .n, [], []⟩, ⟨2, .p, [], []⟩, ⟨3, .p, [], []⟩, ⟨4, .p, [], []⟩, ⟨5, .n, [], []⟩, ⟨6, .p, [], []⟩] [0, 1, 0, 0, 12, 28, 63] mixed (by kernel_rfl) ?_
          simp -implicitDefEqProofs only [go_sem, Nat.reduceEqDiff, Nat.reduceLT, Nat.reduceAdd, Nat.reduceMul, Int.reduceEq, Int.reduceLT, Int.reduceLE, Int.reduceNe, Int.reduceBEq, Int.reduceToNat, ↓reduceIte, q5, f0', d0, dK, lka, de]
          exact BwQ.err (c := 8) hs5 (fitN_eight hc1 hall hta) (by decide)
      · have d1 : decide ((k : Int) < (l.length : Int)) = false := decide_eq_false (by omega)
        have htk : l.take k = l := List.take_of_length_le (by omega)
        have hd1 : ks.drop k = [] := List.drop_eq_nil_of_le (by omega)
        rw [htk] at hown f8
        rw [hd1] at hty
        have hty : typesOk ks l = true := by rw [← hty]; rfl
        have hm8 : maskN l < 256 := by
          have h5 := mask_lt l
          have h6 : 2 ^ l.length ≤ 2 ^ 8 := Nat.pow_le_pow_right (by decide) (by omega)
          omega
        have hmm : (maskN l : Int) = ((UInt8.ofNat (maskN l)).toNat : Int) := by rw [ofNat_lt hm8]
        rw [hmm] at f8
        obtain ⟨oa, oc, eo⟩ := Row.slice hown
        subst eo
        by_cases c2 : 200 < 1 + (encB l).length
        · have dl : decide ((200 : Int) ≤ ((encB l).length : Int)) = true := decide_eq_true (by omega)
          simp -implicitDefEqProofs only [go_sem, Nat.reduceEqDiff, Nat.reduceLT, Nat.reduceAdd, Nat.reduceMul, Int.reduceEq, Int.reduceLT, Int.reduceLE, Int.reduceNe, Int.reduceBEq, Int.reduceToNat, ↓reduceIte, f34, f35, f36, f10, d1, dl]
          exact BwQ.err (c := 2) hs (fitN_two hc1 hall hty c2) (by decide)
        · have dl : decide ((200 : Int) ≤ ((encB l).length : Int)) = false := decide_eq_false (by omega)
          simp -implicitDefEqProofs only [go_sem, Nat.reduceEqDiff, Nat.reduceLT, Nat.reduceAdd, Nat.reduceMul, Int.reduceEq, Int.reduceLT, Int.reduceLE, Int.reduceNe, Int.reduceBEq, Int.reduceToNat, ↓reduceIte, f34, f35, f36, f10, f8, d1, dl]
          refine newK_of ?_
          intro bx H6 hbx hnx hx6 sx gx
          simp -implicitDefEqProofs only [go_sem, Nat.reduceEqDiff, Nat.reduceLT, Nat.reduceAdd, Nat.reduceMul, Int.reduceEq, Int.reduceLT, Int.reduceLE, Int.reduceNe, Int.reduceBEq, Int.reduceToNat, ↓reduceIte, f10]
          refine app_b (Hb := H1) (by simp -implicitDefEqProofs only [go_sem, Nat.reduceEqDiff, Nat.reduceLT, Nat.reduceAdd, Nat.reduceMul, Int.reduceEq, Int.reduceLT, Int.reduceLE, Int.reduceNe, Int.reduceBEq, Int.reduceToNat, ↓reduceIte]) (Own.lit (p := [UInt8.ofNat (maskN l)]) hx6 rfl) (by simp -implicitDefEqProofs only [go_sem, Nat.reduceEqDiff, Nat.reduceLT, Nat.reduceAdd, Nat.reduceMul, Int.reduceEq, Int.reduceLT, Int.reduceLE, Int.reduceNe, Int.reduceBEq, Int.reduceToNat, ↓reduceIte, f10]) (hown.sub sx).bt (by simp only [List.length_cons, List.length_nil]; omega) (fun b hb => by simp only [blk, Option.some.injEq] at hb; subst hb; exact ⟨hs.none hnx, hbx⟩) (hs.trans sx) ?_
          intro r7 H7 o7 f7' s7 a7
          simp -implicitDefEqProofs only [go_sem, Nat.reduceEqDiff, Nat.reduceLT, Nat.reduceAdd, Nat.reduceMul, Int.reduceEq, Int.reduceLT, Int.reduceLE, Int.reduceNe, Int.reduceBEq, Int.reduceToNat, ↓reduceIte]
          exact ⟨s7, .inl ⟨fitN_ok hc1 hall hty c2, r7, rfl, o7, f7'⟩⟩
  · have dn : decide ((ks.length : Int) = (l.length : Int)) = false := decide_eq_false (by omega)
    simp -implicitDefEqProofs only [go_sem, Nat.reduceEqDiff, Nat.reduceLT, Nat.reduceAdd, Nat.reduceMul, Int.reduceEq, Int.reduceLT, Int.reduceLE, Int.reduceNe, Int.reduceBEq, Int.reduceToNat, ↓reduceIte, dn]
    exact BwQ.err (c := 1) (Sub.refl _) (fitN_one (by rw [hrk, decide_eq_false hlen]; rfl)) (by decide)
end
end Go.Proofs.YtoolnkemkhianaaDoor
