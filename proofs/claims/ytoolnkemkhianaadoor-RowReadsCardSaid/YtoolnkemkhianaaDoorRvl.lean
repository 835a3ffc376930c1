/-
  The document's valid: UTF-8 without a zero, walked.
  Conditions: as each theorem states them.
-/
import Derived.Test.YtoolnkemkhianaaDoorUtw
namespace Go.Proofs.YtoolnkemkhianaaDoor
open Go Go.RowKit Go.Proofs.YtoolnkemkhianaaDoorW
set_option maxRecDepth 100000
set_option maxHeartbeats 1000000
set_option linter.unusedSimpArgs false
set_option linter.unusedVariables false
def noZ (p : List UInt8) : Bool := p.all fun b => !decide (b.toNat = 0)
def okZ (p : List UInt8) : Bool := okU p && noZ p
theorem okZ_bad {p : List UInt8} (h : okU p = false) : okZ p = false := by unfold okZ; rw [h]; rfl
theorem okZ_zero {a : UInt8} {l : List UInt8} (h : a.toNat = 0) : okZ (a :: l) = false := by
  unfold okZ noZ
  rw [List.all_cons, decide_eq_true h]; simp
theorem noZ_cons {a : UInt8} {l : List UInt8} (h : a.toNat ≠ 0) : noZ (a :: l) = noZ l := by
  unfold noZ
  rw [List.all_cons, decide_eq_false h]; rfl
theorem okZ_low {a : UInt8} {l : List UInt8} (h : a.toNat < 128) (h0 : a.toNat ≠ 0) : okZ (a :: l) = okZ l := by unfold okZ; rw [okU_low h, noZ_cons h0]
theorem cont_pos {c : UInt8} (h : 128 ≤ c.toNat) : c.toNat ≠ 0 := by omega
def foldC (r : Nat) (l : List UInt8) : Nat := l.foldl (fun r c => r * 64 + (c.toNat - 128)) r
def RvI (p : List UInt8) (H0 : Hp) (m : Nat) (F : Fr) (H : Hp) : Prop := ∃ i, i + m = p.length ∧ F 0 = .string (str p) ∧ F 3 = .int .i64 (i : Int) ∧ okZ (p.drop i) = okZ p ∧ H = H0
def RvJ (p : List UInt8) (H0 : Hp) (i n least r0 : Nat) (l : List UInt8) (m : Nat) (F : Fr) (H : Hp) : Prop :=
  ∃ k, k + m = n ∧ F 0 = .string (str p) ∧ F 3 = .int .i64 (i : Int) ∧ F 5 = .int .i64 (n : Int) ∧ F 6 = .int .i32 (least : Int) ∧ F 7 = .int .i32 (foldC r0 (l.take k) : Int) ∧ F 8 = .int .i64 ((k + 1 : Nat) : Int) ∧ H = H0 ∧ (∀ c ∈ l.take k, cont c = true)
theorem i32_in {a : Int} (h0 : -2147483648 ≤ a) (h1 : a < 2147483648) : IntKind.i32.wrap a = a := by
  unfold IntKind.wrap; simp [IntKind.bits, IntKind.signed]; omega
theorem u8_in {a : Int} (h0 : 0 ≤ a) (h1 : a < 256) : IntKind.u8.wrap a = a := by
  unfold IntKind.wrap; simp [IntKind.bits, IntKind.signed]; omega
theorem foldC_push (r : Nat) (l : List UInt8) (c : UInt8) : foldC r (l ++ [c]) = foldC r l * 64 + (c.toNat - 128) := by simp [foldC]
theorem foldC_le (r : Nat) : ∀ (l : List UInt8), l.length ≤ 3 → r < 32 → foldC r l < 10000000 := fun l hl hr => by
  have hb : ∀ c : UInt8, c.toNat < 256 := UInt8.toNat_lt
  match l, hl with
  | [], _ => simp only [foldC, List.foldl_nil]; omega
  | [a], _ => have := hb a; simp only [foldC, List.foldl_cons, List.foldl_nil]; omega
  | [a, b], _ => have := hb a; have := hb b; simp only [foldC, List.foldl_cons, List.foldl_nil]; omega
  | [a, b, c], _ => have := hb a; have := hb b; have := hb c; simp only [foldC, List.foldl_cons, List.foldl_nil]; omega
  | _ :: _ :: _ :: _ :: _, h => simp at h
theorem cont_iff {c : UInt8} : cont c = true ↔ 128 ≤ c.toNat ∧ c.toNat < 192 := by unfold cont; simp
theorem short_1 {a : UInt8} {l : List UInt8} (h : 128 ≤ a.toNat) (h' : a.toNat < 224) (hl : l.length < 1) : okU (a :: l) = false := bad_2 h h' fun b hb => by have := (List.getElem?_eq_some_iff.1 hb).1; omega
theorem short_2 {a : UInt8} {l : List UInt8} (h : 224 ≤ a.toNat) (h' : a.toNat < 240) (hl : l.length < 2) : okU (a :: l) = false := bad_3 h h' fun b c hb hc => by have := (List.getElem?_eq_some_iff.1 hc).1; omega
theorem short_3 {a : UInt8} {l : List UInt8} (h : 240 ≤ a.toNat) (h' : a.toNat < 248) (hl : l.length < 3) : okU (a :: l) = false := bad_4 h fun b c d hb hc hd => by have := (List.getElem?_eq_some_iff.1 hd).1; omega
theorem two_nc {a b : UInt8} (h : cont b = false) : two a b = false := by unfold two; rw [h]; simp
theorem three_nc {a b c : UInt8} (h : cont b = false ∨ cont c = false) : three a b c = false := by unfold three; rcases h with h | h <;> rw [h] <;> simp
theorem four_nc {a b c d : UInt8} (h : cont b = false ∨ cont c = false ∨ cont d = false) : four a b c d = false := by unfold four; rcases h with h | h | h <;> rw [h] <;> simp
theorem nocont_1 {a c : UInt8} {l : List UInt8} {k : Nat} (h : 128 ≤ a.toNat) (h' : a.toNat < 224) (hk : k < 1) (hc : l[k]? = some c) (hn : cont c = false) : okU (a :: l) = false := bad_2 h h' fun b hb => by
  have : k = 0 := by omega
  subst this
  rw [hc] at hb; cases hb
  exact two_nc hn
theorem nocont_2 {a c : UInt8} {l : List UInt8} {k : Nat} (h : 224 ≤ a.toNat) (h' : a.toNat < 240) (hk : k < 2) (hc : l[k]? = some c) (hn : cont c = false) : okU (a :: l) = false := bad_3 h h' fun b d hb hd => by
  apply three_nc
  have : k = 0 ∨ k = 1 := by omega
  rcases this with rfl | rfl
  · rw [hc] at hb; cases hb; exact .inl hn
  · rw [hc] at hd; cases hd; exact .inr hn
theorem nocont_3 {a c : UInt8} {l : List UInt8} {k : Nat} (h : 240 ≤ a.toNat) (h' : a.toNat < 248) (hk : k < 3) (hc : l[k]? = some c) (hn : cont c = false) : okU (a :: l) = false := bad_4 h fun b d e hb hd he => by
  apply four_nc
  have : k = 0 ∨ k = 1 ∨ k = 2 := by omega
  rcases this with rfl | rfl | rfl
  · rw [hc] at hb; cases hb; exact .inl hn
  · rw [hc] at hd; cases hd; exact .inr (.inl hn)
  · rw [hc] at he; cases he; exact .inr (.inr hn)
theorem fin_1 {a : UInt8} {l : List UInt8} {r : Nat} (h : 192 ≤ a.toNat) (h' : a.toNat < 224) (hl : 1 ≤ l.length) (hcs : ∀ c ∈ l.take 1, cont c = true) (hr : r = foldC (a.toNat - 192) (l.take 1)) :
    (r < 128 ∨ 1114111 < r ∨ (55296 ≤ r ∧ r < 57344) → okZ (a :: l) = false) ∧ (¬ r < 128 → ¬ 1114111 < r → ¬ (55296 ≤ r ∧ r < 57344) → okZ (a :: l) = okZ (l.drop 1)) := by
  match l, hl with
  | b :: l, _ =>
    have hb := cont_iff.1 (hcs b (by simp))
    simp only [foldC, List.take_succ_cons, List.take_zero, List.foldl_cons, List.foldl_nil] at hr
    constructor
    · intro hx
      exact okZ_bad (bad_1 (by omega) (.inl (by omega)))
    · intro h1 h2 h3
      have : two a b = true := by
        unfold two
        simp only [Bool.and_eq_true, decide_eq_true_eq]
        exact ⟨⟨by omega, by omega⟩, cont_iff.2 hb⟩
      unfold okZ
      rw [okU_two this, noZ_cons (by omega), noZ_cons (by omega)]
      rfl
theorem fin_2 {a : UInt8} {l : List UInt8} {r : Nat} (h : 224 ≤ a.toNat) (h' : a.toNat < 240) (hl : 2 ≤ l.length) (hcs : ∀ c ∈ l.take 2, cont c = true) (hr : r = foldC (a.toNat - 224) (l.take 2)) :
    (r < 2048 ∨ 1114111 < r ∨ (55296 ≤ r ∧ r < 57344) → okZ (a :: l) = false) ∧ (¬ r < 2048 → ¬ 1114111 < r → ¬ (55296 ≤ r ∧ r < 57344) → okZ (a :: l) = okZ (l.drop 2)) := by
  match l, hl with
  | b :: c :: l, _ =>
    have hb := cont_iff.1 (hcs b (by simp))
    have hc := cont_iff.1 (hcs c (by simp))
    simp only [foldC, List.take_succ_cons, List.take_zero, List.foldl_cons, List.foldl_nil] at hr
    constructor
    · intro hx
      refine okZ_bad (bad_3 h h' fun b' c' hb' hc' => ?_)
      cases hb'; cases hc'
      unfold three
      have : (a.toNat = 224 ∧ b.toNat < 160) ∨ (a.toNat = 237 ∧ ¬ b.toNat < 160) := by omega
      rcases this with ⟨h1, h2⟩ | ⟨h1, h2⟩
      · rw [decide_eq_true (show a.toNat = 224 from h1), decide_eq_false (show ¬ 160 ≤ b.toNat by omega)]; simp
      · rw [decide_eq_true (show a.toNat = 237 from h1), decide_eq_false h2]; simp
    · intro h1 h2 h3
      have : three a b c = true := by
        unfold three
        simp only [Bool.and_eq_true, Bool.or_eq_true, Bool.not_eq_true', decide_eq_true_eq, decide_eq_false_iff_not]
        refine ⟨⟨⟨⟨⟨h, h'⟩, cont_iff.2 hb⟩, cont_iff.2 hc⟩, ?_⟩, ?_⟩
        · omega
        · omega
      unfold okZ
      rw [okU_three this, noZ_cons (by omega), noZ_cons (by omega), noZ_cons (by omega)]
      rfl
theorem fin_3 {a : UInt8} {l : List UInt8} {r : Nat} (h : 240 ≤ a.toNat) (h' : a.toNat < 248) (hl : 3 ≤ l.length) (hcs : ∀ c ∈ l.take 3, cont c = true) (hr : r = foldC (a.toNat - 240) (l.take 3)) :
    (r < 65536 ∨ 1114111 < r ∨ (55296 ≤ r ∧ r < 57344) → okZ (a :: l) = false) ∧ (¬ r < 65536 → ¬ 1114111 < r → ¬ (55296 ≤ r ∧ r < 57344) → okZ (a :: l) = okZ (l.drop 3)) := by
  match l, hl with
  | b :: c :: d :: l, _ =>
    have hb := cont_iff.1 (hcs b (by simp))
    have hc := cont_iff.1 (hcs c (by simp))
    have hd := cont_iff.1 (hcs d (by simp))
    simp only [foldC, List.take_succ_cons, List.take_zero, List.foldl_cons, List.foldl_nil] at hr
    constructor
    · intro hx
      refine okZ_bad (bad_4 h fun b' c' d' hb' hc' hd' => ?_)
      cases hb'; cases hc'; cases hd'
      unfold four
      have : (a.toNat = 240 ∧ b.toNat < 144) ∨ (a.toNat = 244 ∧ ¬ b.toNat < 144) ∨ ¬ a.toNat < 245 := by omega
      rcases this with ⟨h1, h2⟩ | ⟨h1, h2⟩ | h1
      · rw [decide_eq_true (show a.toNat = 240 from h1), decide_eq_false (show ¬ 144 ≤ b.toNat by omega)]; simp
      · rw [decide_eq_true (show a.toNat = 244 from h1), decide_eq_false h2]; simp
      · rw [decide_eq_false h1]; simp
    · intro h1 h2 h3
      have : four a b c d = true := by
        unfold four
        simp only [Bool.and_eq_true, Bool.or_eq_true, Bool.not_eq_true', decide_eq_true_eq, decide_eq_false_iff_not]
        refine ⟨⟨⟨⟨⟨⟨h, by omega⟩, cont_iff.2 hb⟩, cont_iff.2 hc⟩, cont_iff.2 hd⟩, ?_⟩, ?_⟩
        · omega
        · omega
      unfold okZ
      rw [okU_four this, noZ_cons (by omega), noZ_cons (by omega), noZ_cons (by omega), noZ_cons (by omega)]
      rfl
theorem rvalid_ok {w0 : World} {H : Hp} {p : List UInt8} (hp : p.length < 1000000000) : ACalls Tryd.prog w0 42 #[.string (str p)] H fun r H' => r = .bool (okZ p) ∧ H' = H := by
  refine acalls_of Tryd.func42 rfl Tryd.ntmps42 r42 (by simp) ?_
  simp -implicitDefEqProofs only [go_sem, Nat.reduceEqDiff, Nat.reduceLT, Nat.reduceAdd, Nat.reduceMul, Int.reduceEq, Int.reduceLT, Int.reduceLE, Int.reduceNe, Int.reduceBEq, Int.reduceToNat, ↓reduceIte]
  refine AC.loop (RvI p H) (n := p.length) ⟨0, by omega, by simp -implicitDefEqProofs only [go_sem, Nat.reduceEqDiff, Nat.reduceLT, Nat.reduceAdd, Nat.reduceMul, Int.reduceEq, Int.reduceLT, Int.reduceLE, Int.reduceNe, Int.reduceBEq, Int.reduceToNat, ↓reduceIte], by simp -implicitDefEqProofs only [go_sem, Nat.reduceEqDiff, Nat.reduceLT, Nat.reduceAdd, Nat.reduceMul, Int.reduceEq, Int.reduceLT, Int.reduceLE, Int.reduceNe, Int.reduceBEq, Int.reduceToNat, ↓reduceIte], rfl, rfl⟩ ?_
  rintro m F H2 ⟨i, hi, f0, f3, hok, rfl⟩
  by_cases ci : i < p.length
  · have d1 : decide ((i : Int) < (p.length : Int)) = true := decide_eq_true (by omega)
    have d0 : decide ((0 : Int) ≤ (i : Int)) = true := decide_eq_true (by omega)
    obtain ⟨a, hpa⟩ : ∃ a, p[i]? = some a := ⟨_, List.getElem?_eq_getElem ci⟩
    obtain ⟨l, hl⟩ : ∃ l, p.drop i = a :: l := ⟨p.drop (i + 1), by rw [List.drop_eq_getElem_cons ci]; congr 1; rw [List.getElem?_eq_getElem ci] at hpa; exact Option.some.inj hpa⟩
    have hll : l.length + 1 = p.length - i := by rw [← List.length_drop, hl]; rfl
    have ba : bt (str p) i = a.toNat := bt_str hpa
    have ha := UInt8.toNat_lt a
    rw [hl] at hok
    by_cases c0 : a.toNat = 0
    · have e0 : decide ((a.toNat : Int) = 0) = true := decide_eq_true (by omega)
      simp -implicitDefEqProofs only [go_sem, Nat.reduceEqDiff, Nat.reduceLT, Nat.reduceAdd, Nat.reduceMul, Int.reduceEq, Int.reduceLT, Int.reduceLE, Int.reduceNe, Int.reduceBEq, Int.reduceToNat, ↓reduceIte, f0, f3, d1, d0, ba, e0]
      rw [← hok, okZ_zero c0]
    have e0 : decide ((a.toNat : Int) = 0) = false := decide_eq_false (by omega)
    by_cases c1 : a.toNat < 128
    · have e1 : decide ((a.toNat : Int) < 128) = true := decide_eq_true (by omega)
      have d2 : IntKind.i64.wrap ((i : Int) + 1) = (i + 1 : Nat) := by rw [i64_in] <;> omega
      simp -implicitDefEqProofs only [go_sem, Nat.reduceEqDiff, Nat.reduceLT, Nat.reduceAdd, Nat.reduceMul, Int.reduceEq, Int.reduceLT, Int.reduceLE, Int.reduceNe, Int.reduceBEq, Int.reduceToNat, ↓reduceIte, f0, f3, d1, d0, ba, e0, e1, d2]
      refine ⟨m - 1, by omega, i + 1, by omega, by simp -implicitDefEqProofs only [go_sem, Nat.reduceEqDiff, Nat.reduceLT, Nat.reduceAdd, Nat.reduceMul, Int.reduceEq, Int.reduceLT, Int.reduceLE, Int.reduceNe, Int.reduceBEq, Int.reduceToNat, ↓reduceIte, f0], by simp -implicitDefEqProofs only [go_sem, Nat.reduceEqDiff, Nat.reduceLT, Nat.reduceAdd, Nat.reduceMul, Int.reduceEq, Int.reduceLT, Int.reduceLE, Int.reduceNe, Int.reduceBEq, Int.reduceToNat, ↓reduceIte], ?_, rfl⟩
      rw [← hok, okZ_low c1 c0, ← List.drop_drop, hl]; rfl
    have e1 : decide ((a.toNat : Int) < 128) = false := decide_eq_false (by omega)
    by_cases c2 : a.toNat < 192
    · have e2 : decide ((192 : Int) ≤ (a.toNat : Int)) = false := decide_eq_false (by omega)
      have e3 : decide ((224 : Int) ≤ (a.toNat : Int)) = false := decide_eq_false (by omega)
      have e4 : decide ((240 : Int) ≤ (a.toNat : Int)) = false := decide_eq_false (by omega)
      simp -implicitDefEqProofs only [go_sem, Nat.reduceEqDiff, Nat.reduceLT, Nat.reduceAdd, Nat.reduceMul, Int.reduceEq, Int.reduceLT, Int.reduceLE, Int.reduceNe, Int.reduceBEq, Int.reduceToNat, ↓reduceIte, f0, f3, d1, d0, ba, e0, e1, e2, e3, e4]
      rw [← hok, okZ_bad (bad_1 (by omega) (.inl (by omega)))]
    have p1 : decide ((192 : Int) ≤ (a.toNat : Int)) = true := decide_eq_true (by omega)
    by_cases c3 : 192 ≤ a.toNat ∧ a.toNat < 224
    · have e2 : decide ((192 : Int) ≤ (a.toNat : Int)) = true := decide_eq_true (by omega)
      have e3 : decide ((a.toNat : Int) < 224) = true := decide_eq_true (by omega)
      have w1 : IntKind.u8.wrap ((a.toNat : Int) - 192) = ((a.toNat - 192 : Nat) : Int) := by rw [u8_in] <;> omega
      have w2 : IntKind.i32.wrap ((a.toNat - 192 : Nat) : Int) = ((a.toNat - 192 : Nat) : Int) := by rw [i32_in] <;> omega
      have w3 : IntKind.i64.wrap ((p.length : Int) - (i : Int)) = ((p.length - i : Nat) : Int) := by rw [i64_in] <;> omega
      by_cases cl : p.length - i ≤ 1
      · have e4 : decide (((p.length - i : Nat) : Int) ≤ 1) = true := decide_eq_true (by omega)
        simp -implicitDefEqProofs only [go_sem, Nat.reduceEqDiff, Nat.reduceLT, Nat.reduceAdd, Nat.reduceMul, Int.reduceEq, Int.reduceLT, Int.reduceLE, Int.reduceNe, Int.reduceBEq, Int.reduceToNat, ↓reduceIte, f0, f3, d1, d0, ba, e0, e1, e2, e3, w1, w2, w3, e4]
        rw [← hok, okZ_bad (short_1 (by omega) (by omega) (by omega))]
      · have e4 : decide (((p.length - i : Nat) : Int) ≤ 1) = false := decide_eq_false (by omega)
        simp -implicitDefEqProofs only [go_sem, Nat.reduceEqDiff, Nat.reduceLT, Nat.reduceAdd, Nat.reduceMul, Int.reduceEq, Int.reduceLT, Int.reduceLE, Int.reduceNe, Int.reduceBEq, Int.reduceToNat, ↓reduceIte, f0, f3, d1, d0, ba, e0, e1, e2, e3, w1, w2, w3, e4]
        refine AC.loop (RvJ p H2 i 1 128 (a.toNat - 192) l) (n := 1) ⟨0, by omega, by simp -implicitDefEqProofs only [go_sem, Nat.reduceEqDiff, Nat.reduceLT, Nat.reduceAdd, Nat.reduceMul, Int.reduceEq, Int.reduceLT, Int.reduceLE, Int.reduceNe, Int.reduceBEq, Int.reduceToNat, ↓reduceIte, f0], by simp -implicitDefEqProofs only [go_sem, Nat.reduceEqDiff, Nat.reduceLT, Nat.reduceAdd, Nat.reduceMul, Int.reduceEq, Int.reduceLT, Int.reduceLE, Int.reduceNe, Int.reduceBEq, Int.reduceToNat, ↓reduceIte, f3], rfl, rfl, rfl, rfl, rfl, fun c hc => by simp at hc⟩ ?_
        clear f0 f3
        rintro m2 F H3 ⟨k, hk, f0, f3, f5, f6, f7, f8, rfl, hcs⟩
        have hfb : foldC (a.toNat - 192) (l.take k) < 10000000 := by
          have hk3 : k ≤ 3 := by omega
          have := foldC_le (a.toNat - 192) (l.take k) (by rw [List.length_take]; omega) (by omega)
          omega
        by_cases ck : k < 1
        · have e5 : decide (((k + 1 : Nat) : Int) ≤ 1) = true := decide_eq_true (by omega)
          have e5' : decide (((k + 1 : Nat) : Int) ≤ ((1 : Nat) : Int)) = true := decide_eq_true (by omega)
          obtain ⟨c, hlc⟩ : ∃ c, l[k]? = some c := ⟨_, List.getElem?_eq_getElem (by omega)⟩
          have hpc : p[i + (k + 1)]? = some c := by
            have : (p.drop i)[k + 1]? = some c := by rw [hl, List.getElem?_cons_succ]; exact hlc
            rw [List.getElem?_drop] at this; exact this
          have bc : bt (str p) (i + (k + 1)) = c.toNat := bt_str hpc
          have hc8 := UInt8.toNat_lt c
          have w4 : IntKind.i64.wrap ((i : Int) + ((k + 1 : Nat) : Int)) = ((i + (k + 1) : Nat) : Int) := by rw [i64_in] <;> omega
          have g0 : decide ((0 : Int) ≤ ((i + (k + 1) : Nat) : Int)) = true := decide_eq_true (by omega)
          have g1 : decide (((i + (k + 1) : Nat) : Int) < (p.length : Int)) = true := decide_eq_true (by omega)
          by_cases t1 : c.toNat < 128
          · have e6 : decide ((c.toNat : Int) < 128) = true := decide_eq_true (by omega)
            simp -implicitDefEqProofs only [go_sem, Nat.reduceEqDiff, Nat.reduceLT, Nat.reduceAdd, Nat.reduceMul, Int.reduceEq, Int.reduceLT, Int.reduceLE, Int.reduceNe, Int.reduceBEq, Int.reduceToNat, ↓reduceIte, f0, f3, f5, f6, f7, f8, e5, e5', w4, g0, g1, bc, e6]
            rw [← hok, okZ_bad (nocont_1 (by omega) (by omega) (show k < 1 by omega) hlc (by unfold cont; simp; omega))]
          have e6 : decide ((c.toNat : Int) < 128) = false := decide_eq_false (by omega)
          by_cases t2 : 192 ≤ c.toNat
          · have e7 : decide ((192 : Int) ≤ (c.toNat : Int)) = true := decide_eq_true (by omega)
            simp -implicitDefEqProofs only [go_sem, Nat.reduceEqDiff, Nat.reduceLT, Nat.reduceAdd, Nat.reduceMul, Int.reduceEq, Int.reduceLT, Int.reduceLE, Int.reduceNe, Int.reduceBEq, Int.reduceToNat, ↓reduceIte, f0, f3, f5, f6, f7, f8, e5, e5', w4, g0, g1, bc, e6, e7]
            rw [← hok, okZ_bad (nocont_1 (by omega) (by omega) (show k < 1 by omega) hlc (by unfold cont; simp; omega))]
          have e7 : decide ((192 : Int) ≤ (c.toNat : Int)) = false := decide_eq_false (by omega)
          have w5 : IntKind.i32.wrap ((foldC (a.toNat - 192) (l.take k) : Int) * 64) = ((foldC (a.toNat - 192) (l.take k) * 64 : Nat) : Int) := by rw [i32_in] <;> omega
          have w6 : IntKind.u8.wrap ((c.toNat : Int) - 128) = ((c.toNat - 128 : Nat) : Int) := by rw [u8_in] <;> omega
          have w7 : IntKind.i32.wrap ((c.toNat - 128 : Nat) : Int) = ((c.toNat - 128 : Nat) : Int) := by rw [i32_in] <;> omega
          have w8 : IntKind.i32.wrap (((foldC (a.toNat - 192) (l.take k) * 64 : Nat) : Int) + ((c.toNat - 128 : Nat) : Int)) = ((foldC (a.toNat - 192) (l.take k) * 64 + (c.toNat - 128) : Nat) : Int) := by rw [i32_in] <;> omega
          have w9 : IntKind.i64.wrap (((k + 1 : Nat) : Int) + 1) = ((k + 1 + 1 : Nat) : Int) := by rw [i64_in] <;> omega
          simp -implicitDefEqProofs only [go_sem, Nat.reduceEqDiff, Nat.reduceLT, Nat.reduceAdd, Nat.reduceMul, Int.reduceEq, Int.reduceLT, Int.reduceLE, Int.reduceNe, Int.reduceBEq, Int.reduceToNat, ↓reduceIte, f0, f3, f5, f6, f7, f8, e5, e5', w4, g0, g1, bc, e6, e7, w5, w6, w7, w8, w9]
          have htk : l.take (k + 1) = l.take k ++ [c] := by rw [List.take_add_one, hlc]; rfl
          refine ⟨m2 - 1, by omega, k + 1, by omega, by simp -implicitDefEqProofs only [go_sem, Nat.reduceEqDiff, Nat.reduceLT, Nat.reduceAdd, Nat.reduceMul, Int.reduceEq, Int.reduceLT, Int.reduceLE, Int.reduceNe, Int.reduceBEq, Int.reduceToNat, ↓reduceIte, f0], by simp -implicitDefEqProofs only [go_sem, Nat.reduceEqDiff, Nat.reduceLT, Nat.reduceAdd, Nat.reduceMul, Int.reduceEq, Int.reduceLT, Int.reduceLE, Int.reduceNe, Int.reduceBEq, Int.reduceToNat, ↓reduceIte, f3], by simp -implicitDefEqProofs only [go_sem, Nat.reduceEqDiff, Nat.reduceLT, Nat.reduceAdd, Nat.reduceMul, Int.reduceEq, Int.reduceLT, Int.reduceLE, Int.reduceNe, Int.reduceBEq, Int.reduceToNat, ↓reduceIte, f5], by simp -implicitDefEqProofs only [go_sem, Nat.reduceEqDiff, Nat.reduceLT, Nat.reduceAdd, Nat.reduceMul, Int.reduceEq, Int.reduceLT, Int.reduceLE, Int.reduceNe, Int.reduceBEq, Int.reduceToNat, ↓reduceIte, f6], ?_, by simp -implicitDefEqProofs only [go_sem, Nat.reduceEqDiff, Nat.reduceLT, Nat.reduceAdd, Nat.reduceMul, Int.reduceEq, Int.reduceLT, Int.reduceLE, Int.reduceNe, Int.reduceBEq, Int.reduceToNat, ↓reduceIte], rfl, fun d hd => ?_⟩
          · rw [htk, foldC_push]; simp -implicitDefEqProofs only [go_sem, Nat.reduceEqDiff, Nat.reduceLT, Nat.reduceAdd, Nat.reduceMul, Int.reduceEq, Int.reduceLT, Int.reduceLE, Int.reduceNe, Int.reduceBEq, Int.reduceToNat, ↓reduceIte]
          · rw [htk, List.mem_append, List.mem_singleton] at hd
            rcases hd with hd | rfl
            · exact hcs d hd
            · unfold cont; rw [decide_eq_true (show 128 ≤ d.toNat by omega), decide_eq_true (show d.toNat < 192 by omega)]; rfl
        · have hkn : k = 1 := by omega
          subst hkn
          have e5 : decide (((1 + 1 : Nat) : Int) ≤ 1) = false := rfl
          have e5' : decide (((1 + 1 : Nat) : Int) ≤ ((1 : Nat) : Int)) = false := rfl
          obtain ⟨r, hr⟩ : ∃ r, r = foldC (a.toNat - 192) (l.take 1) := ⟨_, rfl⟩
          rw [← hr] at f7 hfb
          have key := fin_1 (a := a) (l := l) (r := r) (by omega) (by omega) (by omega) hcs hr
          by_cases t3 : r < 128
          · have e8 : decide ((r : Int) < 128) = true := decide_eq_true (by omega)
            have e8' : decide ((r : Int) < ((128 : Nat) : Int)) = true := decide_eq_true (by omega)
            simp -implicitDefEqProofs only [go_sem, Nat.reduceEqDiff, Nat.reduceLT, Nat.reduceAdd, Nat.reduceMul, Int.reduceEq, Int.reduceLT, Int.reduceLE, Int.reduceNe, Int.reduceBEq, Int.reduceToNat, ↓reduceIte, f0, f3, f5, f6, f7, f8, e5, e5', e8, e8']
            rw [← hok, key.1 (.inl t3)]
          have e8 : decide ((r : Int) < 128) = false := decide_eq_false (by omega)
          have e8' : decide ((r : Int) < ((128 : Nat) : Int)) = false := decide_eq_false (by omega)
          by_cases t4 : 1114111 < r
          · have e9 : decide ((1114111 : Int) < (r : Int)) = true := decide_eq_true (by omega)
            simp -implicitDefEqProofs only [go_sem, Nat.reduceEqDiff, Nat.reduceLT, Nat.reduceAdd, Nat.reduceMul, Int.reduceEq, Int.reduceLT, Int.reduceLE, Int.reduceNe, Int.reduceBEq, Int.reduceToNat, ↓reduceIte, f0, f3, f5, f6, f7, f8, e5, e5', e8, e8', e9]
            rw [← hok, key.1 (.inr (.inl t4))]
          have e9 : decide ((1114111 : Int) < (r : Int)) = false := decide_eq_false (by omega)
          by_cases t5 : 55296 ≤ r ∧ r < 57344
          · have e10 : decide ((55296 : Int) ≤ (r : Int)) = true := decide_eq_true (by omega)
            have e11 : decide ((r : Int) < 57344) = true := decide_eq_true (by omega)
            simp -implicitDefEqProofs only [go_sem, Nat.reduceEqDiff, Nat.reduceLT, Nat.reduceAdd, Nat.reduceMul, Int.reduceEq, Int.reduceLT, Int.reduceLE, Int.reduceNe, Int.reduceBEq, Int.reduceToNat, ↓reduceIte, f0, f3, f5, f6, f7, f8, e5, e5', e8, e8', e9, e10, e11]
            rw [← hok, key.1 (.inr (.inr t5))]
          have x1 : IntKind.i64.wrap ((1 : Int) + 1) = ((1 + 1 : Nat) : Int) := rfl
          have x1' : IntKind.i64.wrap (((1 : Nat) : Int) + 1) = ((1 + 1 : Nat) : Int) := rfl
          have x2 : IntKind.i64.wrap ((i : Int) + 2) = ((i + 2 : Nat) : Int) := by rw [i64_in] <;> omega
          have hnext : okZ (p.drop (i + 2)) = okZ p := by
            rw [← hok, key.2 t3 t4 t5, ← List.drop_drop, hl]; rfl
          by_cases t6 : 55296 ≤ r
          · have e10 : decide ((55296 : Int) ≤ (r : Int)) = true := decide_eq_true (by omega)
            have e11 : decide ((r : Int) < 57344) = false := decide_eq_false (by omega)
            simp -implicitDefEqProofs only [go_sem, Nat.reduceEqDiff, Nat.reduceLT, Nat.reduceAdd, Nat.reduceMul, Int.reduceEq, Int.reduceLT, Int.reduceLE, Int.reduceNe, Int.reduceBEq, Int.reduceToNat, ↓reduceIte, f0, f3, f5, f6, f7, f8, e5, e5', e8, e8', e9, e10, e11, x1, x1', x2]
            exact ⟨m - 2, by omega, i + 2, by omega, by simp -implicitDefEqProofs only [go_sem, Nat.reduceEqDiff, Nat.reduceLT, Nat.reduceAdd, Nat.reduceMul, Int.reduceEq, Int.reduceLT, Int.reduceLE, Int.reduceNe, Int.reduceBEq, Int.reduceToNat, ↓reduceIte, f0], by simp -implicitDefEqProofs only [go_sem, Nat.reduceEqDiff, Nat.reduceLT, Nat.reduceAdd, Nat.reduceMul, Int.reduceEq, Int.reduceLT, Int.reduceLE, Int.reduceNe, Int.reduceBEq, Int.reduceToNat, ↓reduceIte, x2], hnext, rfl⟩
          · have e10 : decide ((55296 : Int) ≤ (r : Int)) = false := decide_eq_false (by omega)
            simp -implicitDefEqProofs only [go_sem, Nat.reduceEqDiff, Nat.reduceLT, Nat.reduceAdd, Nat.reduceMul, Int.reduceEq, Int.reduceLT, Int.reduceLE, Int.reduceNe, Int.reduceBEq, Int.reduceToNat, ↓reduceIte, f0, f3, f5, f6, f7, f8, e5, e5', e8, e8', e9, e10, x1, x1', x2]
            exact ⟨m - 2, by omega, i + 2, by omega, by simp -implicitDefEqProofs only [go_sem, Nat.reduceEqDiff, Nat.reduceLT, Nat.reduceAdd, Nat.reduceMul, Int.reduceEq, Int.reduceLT, Int.reduceLE, Int.reduceNe, Int.reduceBEq, Int.reduceToNat, ↓reduceIte, f0], by simp -implicitDefEqProofs only [go_sem, Nat.reduceEqDiff, Nat.reduceLT, Nat.reduceAdd, Nat.reduceMul, Int.reduceEq, Int.reduceLT, Int.reduceLE, Int.reduceNe, Int.reduceBEq, Int.reduceToNat, ↓reduceIte, x2], hnext, rfl⟩
    have p2 : decide ((a.toNat : Int) < 224) = false := decide_eq_false (by omega)
    by_cases c4 : 224 ≤ a.toNat ∧ a.toNat < 240
    · have e2 : decide ((224 : Int) ≤ (a.toNat : Int)) = true := decide_eq_true (by omega)
      have e3 : decide ((a.toNat : Int) < 240) = true := decide_eq_true (by omega)
      have w1 : IntKind.u8.wrap ((a.toNat : Int) - 224) = ((a.toNat - 224 : Nat) : Int) := by rw [u8_in] <;> omega
      have w2 : IntKind.i32.wrap ((a.toNat - 224 : Nat) : Int) = ((a.toNat - 224 : Nat) : Int) := by rw [i32_in] <;> omega
      have w3 : IntKind.i64.wrap ((p.length : Int) - (i : Int)) = ((p.length - i : Nat) : Int) := by rw [i64_in] <;> omega
      by_cases cl : p.length - i ≤ 2
      · have e4 : decide (((p.length - i : Nat) : Int) ≤ 2) = true := decide_eq_true (by omega)
        simp -implicitDefEqProofs only [go_sem, Nat.reduceEqDiff, Nat.reduceLT, Nat.reduceAdd, Nat.reduceMul, Int.reduceEq, Int.reduceLT, Int.reduceLE, Int.reduceNe, Int.reduceBEq, Int.reduceToNat, ↓reduceIte, f0, f3, d1, d0, ba, e0, e1, p1, p2, e2, e3, w1, w2, w3, e4]
        rw [← hok, okZ_bad (short_2 (by omega) (by omega) (by omega))]
      · have e4 : decide (((p.length - i : Nat) : Int) ≤ 2) = false := decide_eq_false (by omega)
        simp -implicitDefEqProofs only [go_sem, Nat.reduceEqDiff, Nat.reduceLT, Nat.reduceAdd, Nat.reduceMul, Int.reduceEq, Int.reduceLT, Int.reduceLE, Int.reduceNe, Int.reduceBEq, Int.reduceToNat, ↓reduceIte, f0, f3, d1, d0, ba, e0, e1, p1, p2, e2, e3, w1, w2, w3, e4]
        refine AC.loop (RvJ p H2 i 2 2048 (a.toNat - 224) l) (n := 2) ⟨0, by omega, by simp -implicitDefEqProofs only [go_sem, Nat.reduceEqDiff, Nat.reduceLT, Nat.reduceAdd, Nat.reduceMul, Int.reduceEq, Int.reduceLT, Int.reduceLE, Int.reduceNe, Int.reduceBEq, Int.reduceToNat, ↓reduceIte, f0], by simp -implicitDefEqProofs only [go_sem, Nat.reduceEqDiff, Nat.reduceLT, Nat.reduceAdd, Nat.reduceMul, Int.reduceEq, Int.reduceLT, Int.reduceLE, Int.reduceNe, Int.reduceBEq, Int.reduceToNat, ↓reduceIte, f3], rfl, rfl, rfl, rfl, rfl, fun c hc => by simp at hc⟩ ?_
        clear f0 f3
        rintro m2 F H3 ⟨k, hk, f0, f3, f5, f6, f7, f8, rfl, hcs⟩
        have hfb : foldC (a.toNat - 224) (l.take k) < 10000000 := by
          have hk3 : k ≤ 3 := by omega
          have := foldC_le (a.toNat - 224) (l.take k) (by rw [List.length_take]; omega) (by omega)
          omega
        by_cases ck : k < 2
        · have e5 : decide (((k + 1 : Nat) : Int) ≤ 2) = true := decide_eq_true (by omega)
          have e5' : decide (((k + 1 : Nat) : Int) ≤ ((2 : Nat) : Int)) = true := decide_eq_true (by omega)
          obtain ⟨c, hlc⟩ : ∃ c, l[k]? = some c := ⟨_, List.getElem?_eq_getElem (by omega)⟩
          have hpc : p[i + (k + 1)]? = some c := by
            have : (p.drop i)[k + 1]? = some c := by rw [hl, List.getElem?_cons_succ]; exact hlc
            rw [List.getElem?_drop] at this; exact this
          have bc : bt (str p) (i + (k + 1)) = c.toNat := bt_str hpc
          have hc8 := UInt8.toNat_lt c
          have w4 : IntKind.i64.wrap ((i : Int) + ((k + 1 : Nat) : Int)) = ((i + (k + 1) : Nat) : Int) := by rw [i64_in] <;> omega
          have g0 : decide ((0 : Int) ≤ ((i + (k + 1) : Nat) : Int)) = true := decide_eq_true (by omega)
          have g1 : decide (((i + (k + 1) : Nat) : Int) < (p.length : Int)) = true := decide_eq_true (by omega)
          by_cases t1 : c.toNat < 128
          · have e6 : decide ((c.toNat : Int) < 128) = true := decide_eq_true (by omega)
            simp -implicitDefEqProofs only [go_sem, Nat.reduceEqDiff, Nat.reduceLT, Nat.reduceAdd, Nat.reduceMul, Int.reduceEq, Int.reduceLT, Int.reduceLE, Int.reduceNe, Int.reduceBEq, Int.reduceToNat, ↓reduceIte, f0, f3, f5, f6, f7, f8, e5, e5', w4, g0, g1, bc, e6]
            rw [← hok, okZ_bad (nocont_2 (by omega) (by omega) (show k < 2 by omega) hlc (by unfold cont; simp; omega))]
          have e6 : decide ((c.toNat : Int) < 128) = false := decide_eq_false (by omega)
          by_cases t2 : 192 ≤ c.toNat
          · have e7 : decide ((192 : Int) ≤ (c.toNat : Int)) = true := decide_eq_true (by omega)
            simp -implicitDefEqProofs only [go_sem, Nat.reduceEqDiff, Nat.reduceLT, Nat.reduceAdd, Nat.reduceMul, Int.reduceEq, Int.reduceLT, Int.reduceLE, Int.reduceNe, Int.reduceBEq, Int.reduceToNat, ↓reduceIte, f0, f3, f5, f6, f7, f8, e5, e5', w4, g0, g1, bc, e6, e7]
            rw [← hok, okZ_bad (nocont_2 (by omega) (by omega) (show k < 2 by omega) hlc (by unfold cont; simp; omega))]
          have e7 : decide ((192 : Int) ≤ (c.toNat : Int)) = false := decide_eq_false (by omega)
          have w5 : IntKind.i32.wrap ((foldC (a.toNat - 224) (l.take k) : Int) * 64) = ((foldC (a.toNat - 224) (l.take k) * 64 : Nat) : Int) := by rw [i32_in] <;> omega
          have w6 : IntKind.u8.wrap ((c.toNat : Int) - 128) = ((c.toNat - 128 : Nat) : Int) := by rw [u8_in] <;> omega
          have w7 : IntKind.i32.wrap ((c.toNat - 128 : Nat) : Int) = ((c.toNat - 128 : Nat) : Int) := by rw [i32_in] <;> omega
          have w8 : IntKind.i32.wrap (((foldC (a.toNat - 224) (l.take k) * 64 : Nat) : Int) + ((c.toNat - 128 : Nat) : Int)) = ((foldC (a.toNat - 224) (l.take k) * 64 + (c.toNat - 128) : Nat) : Int) := by rw [i32_in] <;> omega
          have w9 : IntKind.i64.wrap (((k + 1 : Nat) : Int) + 1) = ((k + 1 + 1 : Nat) : Int) := by rw [i64_in] <;> omega
          simp -implicitDefEqProofs only [go_sem, Nat.reduceEqDiff, Nat.reduceLT, Nat.reduceAdd, Nat.reduceMul, Int.reduceEq, Int.reduceLT, Int.reduceLE, Int.reduceNe, Int.reduceBEq, Int.reduceToNat, ↓reduceIte, f0, f3, f5, f6, f7, f8, e5, e5', w4, g0, g1, bc, e6, e7, w5, w6, w7, w8, w9]
          have htk : l.take (k + 1) = l.take k ++ [c] := by rw [List.take_add_one, hlc]; rfl
          refine ⟨m2 - 1, by omega, k + 1, by omega, by simp -implicitDefEqProofs only [go_sem, Nat.reduceEqDiff, Nat.reduceLT, Nat.reduceAdd, Nat.reduceMul, Int.reduceEq, Int.reduceLT, Int.reduceLE, Int.reduceNe, Int.reduceBEq, Int.reduceToNat, ↓reduceIte, f0], by simp -implicitDefEqProofs only [go_sem, Nat.reduceEqDiff, Nat.reduceLT, Nat.reduceAdd, Nat.reduceMul, Int.reduceEq, Int.reduceLT, Int.reduceLE, Int.reduceNe, Int.reduceBEq, Int.reduceToNat, ↓reduceIte, f3], by simp -implicitDefEqProofs only [go_sem, Nat.reduceEqDiff, Nat.reduceLT, Nat.reduceAdd, Nat.reduceMul, Int.reduceEq, Int.reduceLT, Int.reduceLE, Int.reduceNe, Int.reduceBEq, Int.reduceToNat, ↓reduceIte, f5], by simp -implicitDefEqProofs only [go_sem, Nat.reduceEqDiff, Nat.reduceLT, Nat.reduceAdd, Nat.reduceMul, Int.reduceEq, Int.reduceLT, Int.reduceLE, Int.reduceNe, Int.reduceBEq, Int.reduceToNat, ↓reduceIte, f6], ?_, by simp -implicitDefEqProofs only [go_sem, Nat.reduceEqDiff, Nat.reduceLT, Nat.reduceAdd, Nat.reduceMul, Int.reduceEq, Int.reduceLT, Int.reduceLE, Int.reduceNe, Int.reduceBEq, Int.reduceToNat, ↓reduceIte], rfl, fun d hd => ?_⟩
          · rw [htk, foldC_push]; simp -implicitDefEqProofs only [go_sem, Nat.reduceEqDiff, Nat.reduceLT, Nat.reduceAdd, Nat.reduceMul, Int.reduceEq, Int.reduceLT, Int.reduceLE, Int.reduceNe, Int.reduceBEq, Int.reduceToNat, ↓reduceIte]
          · rw [htk, List.mem_append, List.mem_singleton] at hd
            rcases hd with hd | rfl
            · exact hcs d hd
            · unfold cont; rw [decide_eq_true (show 128 ≤ d.toNat by omega), decide_eq_true (show d.toNat < 192 by omega)]; rfl
        · have hkn : k = 2 := by omega
          subst hkn
          have e5 : decide (((2 + 1 : Nat) : Int) ≤ 2) = false := rfl
          have e5' : decide (((2 + 1 : Nat) : Int) ≤ ((2 : Nat) : Int)) = false := rfl
          obtain ⟨r, hr⟩ : ∃ r, r = foldC (a.toNat - 224) (l.take 2) := ⟨_, rfl⟩
          rw [← hr] at f7 hfb
          have key := fin_2 (a := a) (l := l) (r := r) (by omega) (by omega) (by omega) hcs hr
          by_cases t3 : r < 2048
          · have e8 : decide ((r : Int) < 2048) = true := decide_eq_true (by omega)
            have e8' : decide ((r : Int) < ((2048 : Nat) : Int)) = true := decide_eq_true (by omega)
            simp -implicitDefEqProofs only [go_sem, Nat.reduceEqDiff, Nat.reduceLT, Nat.reduceAdd, Nat.reduceMul, Int.reduceEq, Int.reduceLT, Int.reduceLE, Int.reduceNe, Int.reduceBEq, Int.reduceToNat, ↓reduceIte, f0, f3, f5, f6, f7, f8, e5, e5', e8, e8']
            rw [← hok, key.1 (.inl t3)]
          have e8 : decide ((r : Int) < 2048) = false := decide_eq_false (by omega)
          have e8' : decide ((r : Int) < ((2048 : Nat) : Int)) = false := decide_eq_false (by omega)
          by_cases t4 : 1114111 < r
          · have e9 : decide ((1114111 : Int) < (r : Int)) = true := decide_eq_true (by omega)
            simp -implicitDefEqProofs only [go_sem, Nat.reduceEqDiff, Nat.reduceLT, Nat.reduceAdd, Nat.reduceMul, Int.reduceEq, Int.reduceLT, Int.reduceLE, Int.reduceNe, Int.reduceBEq, Int.reduceToNat, ↓reduceIte, f0, f3, f5, f6, f7, f8, e5, e5', e8, e8', e9]
            rw [← hok, key.1 (.inr (.inl t4))]
          have e9 : decide ((1114111 : Int) < (r : Int)) = false := decide_eq_false (by omega)
          by_cases t5 : 55296 ≤ r ∧ r < 57344
          · have e10 : decide ((55296 : Int) ≤ (r : Int)) = true := decide_eq_true (by omega)
            have e11 : decide ((r : Int) < 57344) = true := decide_eq_true (by omega)
            simp -implicitDefEqProofs only [go_sem, Nat.reduceEqDiff, Nat.reduceLT, Nat.reduceAdd, Nat.reduceMul, Int.reduceEq, Int.reduceLT, Int.reduceLE, Int.reduceNe, Int.reduceBEq, Int.reduceToNat, ↓reduceIte, f0, f3, f5, f6, f7, f8, e5, e5', e8, e8', e9, e10, e11]
            rw [← hok, key.1 (.inr (.inr t5))]
          have x1 : IntKind.i64.wrap ((2 : Int) + 1) = ((2 + 1 : Nat) : Int) := rfl
          have x1' : IntKind.i64.wrap (((2 : Nat) : Int) + 1) = ((2 + 1 : Nat) : Int) := rfl
          have x2 : IntKind.i64.wrap ((i : Int) + 3) = ((i + 3 : Nat) : Int) := by rw [i64_in] <;> omega
          have hnext : okZ (p.drop (i + 3)) = okZ p := by
            rw [← hok, key.2 t3 t4 t5, ← List.drop_drop, hl]; rfl
          by_cases t6 : 55296 ≤ r
          · have e10 : decide ((55296 : Int) ≤ (r : Int)) = true := decide_eq_true (by omega)
            have e11 : decide ((r : Int) < 57344) = false := decide_eq_false (by omega)
            simp -implicitDefEqProofs only [go_sem, Nat.reduceEqDiff, Nat.reduceLT, Nat.reduceAdd, Nat.reduceMul, Int.reduceEq, Int.reduceLT, Int.reduceLE, Int.reduceNe, Int.reduceBEq, Int.reduceToNat, ↓reduceIte, f0, f3, f5, f6, f7, f8, e5, e5', e8, e8', e9, e10, e11, x1, x1', x2]
            exact ⟨m - 3, by omega, i + 3, by omega, by simp -implicitDefEqProofs only [go_sem, Nat.reduceEqDiff, Nat.reduceLT, Nat.reduceAdd, Nat.reduceMul, Int.reduceEq, Int.reduceLT, Int.reduceLE, Int.reduceNe, Int.reduceBEq, Int.reduceToNat, ↓reduceIte, f0], by simp -implicitDefEqProofs only [go_sem, Nat.reduceEqDiff, Nat.reduceLT, Nat.reduceAdd, Nat.reduceMul, Int.reduceEq, Int.reduceLT, Int.reduceLE, Int.reduceNe, Int.reduceBEq, Int.reduceToNat, ↓reduceIte, x2], hnext, rfl⟩
          · have e10 : decide ((55296 : Int) ≤ (r : Int)) = false := decide_eq_false (by omega)
            simp -implicitDefEqProofs only [go_sem, Nat.reduceEqDiff, Nat.reduceLT, Nat.reduceAdd, Nat.reduceMul, Int.reduceEq, Int.reduceLT, Int.reduceLE, Int.reduceNe, Int.reduceBEq, Int.reduceToNat, ↓reduceIte, f0, f3, f5, f6, f7, f8, e5, e5', e8, e8', e9, e10, x1, x1', x2]
            exact ⟨m - 3, by omega, i + 3, by omega, by simp -implicitDefEqProofs only [go_sem, Nat.reduceEqDiff, Nat.reduceLT, Nat.reduceAdd, Nat.reduceMul, Int.reduceEq, Int.reduceLT, Int.reduceLE, Int.reduceNe, Int.reduceBEq, Int.reduceToNat, ↓reduceIte, f0], by simp -implicitDefEqProofs only [go_sem, Nat.reduceEqDiff, Nat.reduceLT, Nat.reduceAdd, Nat.reduceMul, Int.reduceEq, Int.reduceLT, Int.reduceLE, Int.reduceNe, Int.reduceBEq, Int.reduceToNat, ↓reduceIte, x2], hnext, rfl⟩
    have p3 : decide ((224 : Int) ≤ (a.toNat : Int)) = true := decide_eq_true (by omega)
    have p4 : decide ((a.toNat : Int) < 240) = false := decide_eq_false (by omega)
    by_cases c5 : 240 ≤ a.toNat ∧ a.toNat < 248
    · have e2 : decide ((240 : Int) ≤ (a.toNat : Int)) = true := decide_eq_true (by omega)
      have e3 : decide ((a.toNat : Int) < 248) = true := decide_eq_true (by omega)
      have w1 : IntKind.u8.wrap ((a.toNat : Int) - 240) = ((a.toNat - 240 : Nat) : Int) := by rw [u8_in] <;> omega
      have w2 : IntKind.i32.wrap ((a.toNat - 240 : Nat) : Int) = ((a.toNat - 240 : Nat) : Int) := by rw [i32_in] <;> omega
      have w3 : IntKind.i64.wrap ((p.length : Int) - (i : Int)) = ((p.length - i : Nat) : Int) := by rw [i64_in] <;> omega
      by_cases cl : p.length - i ≤ 3
      · have e4 : decide (((p.length - i : Nat) : Int) ≤ 3) = true := decide_eq_true (by omega)
        simp -implicitDefEqProofs only [go_sem, Nat.reduceEqDiff, Nat.reduceLT, Nat.reduceAdd, Nat.reduceMul, Int.reduceEq, Int.reduceLT, Int.reduceLE, Int.reduceNe, Int.reduceBEq, Int.reduceToNat, ↓reduceIte, f0, f3, d1, d0, ba, e0, e1, p1, p2, p3, p4, e2, e3, w1, w2, w3, e4]
        rw [← hok, okZ_bad (short_3 (by omega) (by omega) (by omega))]
      · have e4 : decide (((p.length - i : Nat) : Int) ≤ 3) = false := decide_eq_false (by omega)
        simp -implicitDefEqProofs only [go_sem, Nat.reduceEqDiff, Nat.reduceLT, Nat.reduceAdd, Nat.reduceMul, Int.reduceEq, Int.reduceLT, Int.reduceLE, Int.reduceNe, Int.reduceBEq, Int.reduceToNat, ↓reduceIte, f0, f3, d1, d0, ba, e0, e1, p1, p2, p3, p4, e2, e3, w1, w2, w3, e4]
        refine AC.loop (RvJ p H2 i 3 65536 (a.toNat - 240) l) (n := 3) ⟨0, by omega, by simp -implicitDefEqProofs only [go_sem, Nat.reduceEqDiff, Nat.reduceLT, Nat.reduceAdd, Nat.reduceMul, Int.reduceEq, Int.reduceLT, Int.reduceLE, Int.reduceNe, Int.reduceBEq, Int.reduceToNat, ↓reduceIte, f0], by simp -implicitDefEqProofs only [go_sem, Nat.reduceEqDiff, Nat.reduceLT, Nat.reduceAdd, Nat.reduceMul, Int.reduceEq, Int.reduceLT, Int.reduceLE, Int.reduceNe, Int.reduceBEq, Int.reduceToNat, ↓reduceIte, f3], rfl, rfl, rfl, rfl, rfl, fun c hc => by simp at hc⟩ ?_
        clear f0 f3
        rintro m2 F H3 ⟨k, hk, f0, f3, f5, f6, f7, f8, rfl, hcs⟩
        have hfb : foldC (a.toNat - 240) (l.take k) < 10000000 := by
          have hk3 : k ≤ 3 := by omega
          have := foldC_le (a.toNat - 240) (l.take k) (by rw [List.length_take]; omega) (by omega)
          omega
        by_cases ck : k < 3
        · have e5 : decide (((k + 1 : Nat) : Int) ≤ 3) = true := decide_eq_true (by omega)
          have e5' : decide (((k + 1 : Nat) : Int) ≤ ((3 : Nat) : Int)) = true := decide_eq_true (by omega)
          obtain ⟨c, hlc⟩ : ∃ c, l[k]? = some c := ⟨_, List.getElem?_eq_getElem (by omega)⟩
          have hpc : p[i + (k + 1)]? = some c := by
            have : (p.drop i)[k + 1]? = some c := by rw [hl, List.getElem?_cons_succ]; exact hlc
            rw [List.getElem?_drop] at this; exact this
          have bc : bt (str p) (i + (k + 1)) = c.toNat := bt_str hpc
          have hc8 := UInt8.toNat_lt c
          have w4 : IntKind.i64.wrap ((i : Int) + ((k + 1 : Nat) : Int)) = ((i + (k + 1) : Nat) : Int) := by rw [i64_in] <;> omega
          have g0 : decide ((0 : Int) ≤ ((i + (k + 1) : Nat) : Int)) = true := decide_eq_true (by omega)
          have g1 : decide (((i + (k + 1) : Nat) : Int) < (p.length : Int)) = true := decide_eq_true (by omega)
          by_cases t1 : c.toNat < 128
          · have e6 : decide ((c.toNat : Int) < 128) = true := decide_eq_true (by omega)
            simp -implicitDefEqProofs only [go_sem, Nat.reduceEqDiff, Nat.reduceLT, Nat.reduceAdd, Nat.reduceMul, Int.reduceEq, Int.reduceLT, Int.reduceLE, Int.reduceNe, Int.reduceBEq, Int.reduceToNat, ↓reduceIte, f0, f3, f5, f6, f7, f8, e5, e5', w4, g0, g1, bc, e6]
            rw [← hok, okZ_bad (nocont_3 (by omega) (by omega) (show k < 3 by omega) hlc (by unfold cont; simp; omega))]
          have e6 : decide ((c.toNat : Int) < 128) = false := decide_eq_false (by omega)
          by_cases t2 : 192 ≤ c.toNat
          · have e7 : decide ((192 : Int) ≤ (c.toNat : Int)) = true := decide_eq_true (by omega)
            simp -implicitDefEqProofs only [go_sem, Nat.reduceEqDiff, Nat.reduceLT, Nat.reduceAdd, Nat.reduceMul, Int.reduceEq, Int.reduceLT, Int.reduceLE, Int.reduceNe, Int.reduceBEq, Int.reduceToNat, ↓reduceIte, f0, f3, f5, f6, f7, f8, e5, e5', w4, g0, g1, bc, e6, e7]
            rw [← hok, okZ_bad (nocont_3 (by omega) (by omega) (show k < 3 by omega) hlc (by unfold cont; simp; omega))]
          have e7 : decide ((192 : Int) ≤ (c.toNat : Int)) = false := decide_eq_false (by omega)
          have w5 : IntKind.i32.wrap ((foldC (a.toNat - 240) (l.take k) : Int) * 64) = ((foldC (a.toNat - 240) (l.take k) * 64 : Nat) : Int) := by rw [i32_in] <;> omega
          have w6 : IntKind.u8.wrap ((c.toNat : Int) - 128) = ((c.toNat - 128 : Nat) : Int) := by rw [u8_in] <;> omega
          have w7 : IntKind.i32.wrap ((c.toNat - 128 : Nat) : Int) = ((c.toNat - 128 : Nat) : Int) := by rw [i32_in] <;> omega
          have w8 : IntKind.i32.wrap (((foldC (a.toNat - 240) (l.take k) * 64 : Nat) : Int) + ((c.toNat - 128 : Nat) : Int)) = ((foldC (a.toNat - 240) (l.take k) * 64 + (c.toNat - 128) : Nat) : Int) := by rw [i32_in] <;> omega
          have w9 : IntKind.i64.wrap (((k + 1 : Nat) : Int) + 1) = ((k + 1 + 1 : Nat) : Int) := by rw [i64_in] <;> omega
          simp -implicitDefEqProofs only [go_sem, Nat.reduceEqDiff, Nat.reduceLT, Nat.reduceAdd, Nat.reduceMul, Int.reduceEq, Int.reduceLT, Int.reduceLE, Int.reduceNe, Int.reduceBEq, Int.reduceToNat, ↓reduceIte, f0, f3, f5, f6, f7, f8, e5, e5', w4, g0, g1, bc, e6, e7, w5, w6, w7, w8, w9]
          have htk : l.take (k + 1) = l.take k ++ [c] := by rw [List.take_add_one, hlc]; rfl
          refine ⟨m2 - 1, by omega, k + 1, by omega, by simp -implicitDefEqProofs only [go_sem, Nat.reduceEqDiff, Nat.reduceLT, Nat.reduceAdd, Nat.reduceMul, Int.reduceEq, Int.reduceLT, Int.reduceLE, Int.reduceNe, Int.reduceBEq, Int.reduceToNat, ↓reduceIte, f0], by simp -implicitDefEqProofs only [go_sem, Nat.reduceEqDiff, Nat.reduceLT, Nat.reduceAdd, Nat.reduceMul, Int.reduceEq, Int.reduceLT, Int.reduceLE, Int.reduceNe, Int.reduceBEq, Int.reduceToNat, ↓reduceIte, f3], by simp -implicitDefEqProofs only [go_sem, Nat.reduceEqDiff, Nat.reduceLT, Nat.reduceAdd, Nat.reduceMul, Int.reduceEq, Int.reduceLT, Int.reduceLE, Int.reduceNe, Int.reduceBEq, Int.reduceToNat, ↓reduceIte, f5], by simp -implicitDefEqProofs only [go_sem, Nat.reduceEqDiff, Nat.reduceLT, Nat.reduceAdd, Nat.reduceMul, Int.reduceEq, Int.reduceLT, Int.reduceLE, Int.reduceNe, Int.reduceBEq, Int.reduceToNat, ↓reduceIte, f6], ?_, by simp -implicitDefEqProofs only [go_sem, Nat.reduceEqDiff, Nat.reduceLT, Nat.reduceAdd, Nat.reduceMul, Int.reduceEq, Int.reduceLT, Int.reduceLE, Int.reduceNe, Int.reduceBEq, Int.reduceToNat, ↓reduceIte], rfl, fun d hd => ?_⟩
          · rw [htk, foldC_push]; simp -implicitDefEqProofs only [go_sem, Nat.reduceEqDiff, Nat.reduceLT, Nat.reduceAdd, Nat.reduceMul, Int.reduceEq, Int.reduceLT, Int.reduceLE, Int.reduceNe, Int.reduceBEq, Int.reduceToNat, ↓reduceIte]
          · rw [htk, List.mem_append, List.mem_singleton] at hd
            rcases hd with hd | rfl
            · exact hcs d hd
            · unfold cont; rw [decide_eq_true (show 128 ≤ d.toNat by omega), decide_eq_true (show d.toNat < 192 by omega)]; rfl
        · have hkn : k = 3 := by omega
          subst hkn
          have e5 : decide (((3 + 1 : Nat) : Int) ≤ 3) = false := rfl
          have e5' : decide (((3 + 1 : Nat) : Int) ≤ ((3 : Nat) : Int)) = false := rfl
          obtain ⟨r, hr⟩ : ∃ r, r = foldC (a.toNat - 240) (l.take 3) := ⟨_, rfl⟩
          rw [← hr] at f7 hfb
          have key := fin_3 (a := a) (l := l) (r := r) (by omega) (by omega) (by omega) hcs hr
          by_cases t3 : r < 65536
          · have e8 : decide ((r : Int) < 65536) = true := decide_eq_true (by omega)
            have e8' : decide ((r : Int) < ((65536 : Nat) : Int)) = true := decide_eq_true (by omega)
            simp -implicitDefEqProofs only [go_sem, Nat.reduceEqDiff, Nat.reduceLT, Nat.reduceAdd, Nat.reduceMul, Int.reduceEq, Int.reduceLT, Int.reduceLE, Int.reduceNe, Int.reduceBEq, Int.reduceToNat, ↓reduceIte, f0, f3, f5, f6, f7, f8, e5, e5', e8, e8']
            rw [← hok, key.1 (.inl t3)]
          have e8 : decide ((r : Int) < 65536) = false := decide_eq_false (by omega)
          have e8' : decide ((r : Int) < ((65536 : Nat) : Int)) = false := decide_eq_false (by omega)
          by_cases t4 : 1114111 < r
          · have e9 : decide ((1114111 : Int) < (r : Int)) = true := decide_eq_true (by omega)
            simp -implicitDefEqProofs only [go_sem, Nat.reduceEqDiff, Nat.reduceLT, Nat.reduceAdd, Nat.reduceMul, Int.reduceEq, Int.reduceLT, Int.reduceLE, Int.reduceNe, Int.reduceBEq, Int.reduceToNat, ↓reduceIte, f0, f3, f5, f6, f7, f8, e5, e5', e8, e8', e9]
            rw [← hok, key.1 (.inr (.inl t4))]
          have e9 : decide ((1114111 : Int) < (r : Int)) = false := decide_eq_false (by omega)
          by_cases t5 : 55296 ≤ r ∧ r < 57344
          · have e10 : decide ((55296 : Int) ≤ (r : Int)) = true := decide_eq_true (by omega)
            have e11 : decide ((r : Int) < 57344) = true := decide_eq_true (by omega)
            simp -implicitDefEqProofs only [go_sem, Nat.reduceEqDiff, Nat.reduceLT, Nat.reduceAdd, Nat.reduceMul, Int.reduceEq, Int.reduceLT, Int.reduceLE, Int.reduceNe, Int.reduceBEq, Int.reduceToNat, ↓reduceIte, f0, f3, f5, f6, f7, f8, e5, e5', e8, e8', e9, e10, e11]
            rw [← hok, key.1 (.inr (.inr t5))]
          have x1 : IntKind.i64.wrap ((3 : Int) + 1) = ((3 + 1 : Nat) : Int) := rfl
          have x1' : IntKind.i64.wrap (((3 : Nat) : Int) + 1) = ((3 + 1 : Nat) : Int) := rfl
          have x2 : IntKind.i64.wrap ((i : Int) + 4) = ((i + 4 : Nat) : Int) := by rw [i64_in] <;> omega
          have hnext : okZ (p.drop (i + 4)) = okZ p := by
            rw [← hok, key.2 t3 t4 t5, ← List.drop_drop, hl]; rfl
          by_cases t6 : 55296 ≤ r
          · have e10 : decide ((55296 : Int) ≤ (r : Int)) = true := decide_eq_true (by omega)
            have e11 : decide ((r : Int) < 57344) = false := decide_eq_false (by omega)
            simp -implicitDefEqProofs only [go_sem, Nat.reduceEqDiff, Nat.reduceLT, Nat.reduceAdd, Nat.reduceMul, Int.reduceEq, Int.reduceLT, Int.reduceLE, Int.reduceNe, Int.reduceBEq, Int.reduceToNat, ↓reduceIte, f0, f3, f5, f6, f7, f8, e5, e5', e8, e8', e9, e10, e11, x1, x1', x2]
            exact ⟨m - 4, by omega, i + 4, by omega, by simp -implicitDefEqProofs only [go_sem, Nat.reduceEqDiff, Nat.reduceLT, Nat.reduceAdd, Nat.reduceMul, Int.reduceEq, Int.reduceLT, Int.reduceLE, Int.reduceNe, Int.reduceBEq, Int.reduceToNat, ↓reduceIte, f0], by simp -implicitDefEqProofs only [go_sem, Nat.reduceEqDiff, Nat.reduceLT, Nat.reduceAdd, Nat.reduceMul, Int.reduceEq, Int.reduceLT, Int.reduceLE, Int.reduceNe, Int.reduceBEq, Int.reduceToNat, ↓reduceIte, x2], hnext, rfl⟩
          · have e10 : decide ((55296 : Int) ≤ (r : Int)) = false := decide_eq_false (by omega)
            simp -implicitDefEqProofs only [go_sem, Nat.reduceEqDiff, Nat.reduceLT, Nat.reduceAdd, Nat.reduceMul, Int.reduceEq, Int.reduceLT, Int.reduceLE, Int.reduceNe, Int.reduceBEq, Int.reduceToNat, ↓reduceIte, f0, f3, f5, f6, f7, f8, e5, e5', e8, e8', e9, e10, x1, x1', x2]
            exact ⟨m - 4, by omega, i + 4, by omega, by simp -implicitDefEqProofs only [go_sem, Nat.reduceEqDiff, Nat.reduceLT, Nat.reduceAdd, Nat.reduceMul, Int.reduceEq, Int.reduceLT, Int.reduceLE, Int.reduceNe, Int.reduceBEq, Int.reduceToNat, ↓reduceIte, f0], by simp -implicitDefEqProofs only [go_sem, Nat.reduceEqDiff, Nat.reduceLT, Nat.reduceAdd, Nat.reduceMul, Int.reduceEq, Int.reduceLT, Int.reduceLE, Int.reduceNe, Int.reduceBEq, Int.reduceToNat, ↓reduceIte, x2], hnext, rfl⟩
    have p5 : decide ((240 : Int) ≤ (a.toNat : Int)) = true := decide_eq_true (by omega)
    have p6 : decide ((a.toNat : Int) < 248) = false := decide_eq_false (by omega)
    simp -implicitDefEqProofs only [go_sem, Nat.reduceEqDiff, Nat.reduceLT, Nat.reduceAdd, Nat.reduceMul, Int.reduceEq, Int.reduceLT, Int.reduceLE, Int.reduceNe, Int.reduceBEq, Int.reduceToNat, ↓reduceIte, f0, f3, d1, d0, ba, e0, e1, p1, p2, p3, p4, p5, p6]
    rw [← hok, okZ_bad (bad_1 (by omega) (.inr (by omega)))]
  · have d1 : decide ((i : Int) < (p.length : Int)) = false := decide_eq_false (by omega)
    simp -implicitDefEqProofs only [go_sem, Nat.reduceEqDiff, Nat.reduceLT, Nat.reduceAdd, Nat.reduceMul, Int.reduceEq, Int.reduceLT, Int.reduceLE, Int.reduceNe, Int.reduceBEq, Int.reduceToNat, ↓reduceIte, f0, f3, d1]
    rw [← hok, List.drop_eq_nil_of_le (by omega)]
    rfl
end Go.Proofs.YtoolnkemkhianaaDoor
