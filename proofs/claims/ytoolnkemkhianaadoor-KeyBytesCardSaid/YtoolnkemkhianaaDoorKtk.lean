/-
  key.take, walked.
  Conditions: as each theorem states them.
-/
import Derived.Test.YtoolnkemkhianaaDoorAw3
import Derived.Test.YtoolnkemkhianaaDoorRdp
namespace Go.Proofs.YtoolnkemkhianaaDoor
open Go Go.RowKit Go.Proofs.YtoolnkemkhianaaDoorW
set_option maxRecDepth 100000
set_option maxHeartbeats 1000000
set_option linter.unusedSimpArgs false
set_option linter.unusedVariables false
theorem upz_at : ∀ (l : List UInt8) (i : Nat), i < (upz l).length → ∃ b, l[i]? = some b ∧ b.toNat ≠ 0
  | [], i, h => by simp [upz] at h
  | a :: l, i, h => by
    by_cases c : a.toNat = 0
    · have : upz (a :: l) = [] := by unfold upz; rw [List.takeWhile_cons, if_neg (by simp [c])]
      rw [this] at h; simp at h
    · have e : upz (a :: l) = a :: upz l := by unfold upz; rw [List.takeWhile_cons, if_pos (by simp [c])]
      rw [e, List.length_cons] at h
      cases i with
      | zero => exact ⟨a, rfl, c⟩
      | succ i => exact upz_at l i (by omega)
theorem upz_end : ∀ (l : List UInt8), (upz l).length ≤ l.length ∧ l.take (upz l).length = upz l ∧ ((upz l).length < l.length → ∃ b, l[(upz l).length]? = some b ∧ b.toNat = 0)
  | [] => ⟨by simp [upz], by simp [upz], by simp [upz]⟩
  | a :: l => by
    by_cases c : a.toNat = 0
    · have : upz (a :: l) = [] := by unfold upz; rw [List.takeWhile_cons, if_neg (by simp [c])]
      rw [this]
      exact ⟨by simp, by simp, fun _ => ⟨a, rfl, c⟩⟩
    · have e : upz (a :: l) = a :: upz l := by unfold upz; rw [List.takeWhile_cons, if_pos (by simp [c])]
      obtain ⟨h1, h2, h3⟩ := upz_end l
      rw [e, List.length_cons, List.length_cons]
      refine ⟨by omega, by rw [List.take_succ_cons, h2], fun h => ?_⟩
      rw [List.getElem?_cons_succ]
      exact h3 (by omega)
theorem firstIdx_upz (l : List UInt8) : firstIdx (str l) 0 = if (upz l).length = l.length then -1 else ((upz l).length : Int) := by
  obtain ⟨h1, h2, h3⟩ := upz_end l
  unfold firstIdx
  rw [str_size]
  by_cases c : (upz l).length = l.length
  · rw [if_pos c]
    have : (List.range l.length).find? (fun i => (str l)[i]! == 0) = none := by
      rw [List.find?_eq_none]
      intro i hi
      rw [List.mem_range] at hi
      obtain ⟨b, hb, hn⟩ := upz_at l i (by omega)
      rw [ba_bang, hb]
      simp only [Option.getD_some, beq_iff_eq]
      intro e; rw [e] at hn; exact hn rfl
    rw [this]
  · rw [if_neg c]
    have : (List.range l.length).find? (fun i => (str l)[i]! == 0) = some (upz l).length := by
      rw [List.find?_range_eq_some]
      obtain ⟨b, hb, hz⟩ := h3 (by omega)
      refine ⟨?_, by rw [List.mem_range]; omega, fun j hj => ?_⟩
      · rw [ba_bang, hb]
        simp only [Option.getD_some, beq_iff_eq]
        exact UInt8.toNat_inj.1 hz
      · obtain ⟨b, hb, hn⟩ := upz_at l j hj
        rw [ba_bang, hb]
        simp only [Option.getD_some, Bool.not_eq_true', beq_eq_false_iff_ne, ne_eq]
        intro e; rw [e] at hn; exact hn rfl
    rw [this]
theorem u8s_get {p : List UInt8} {k : Nat} {b : UInt8} (h : p[k]? = some b) : (u8s p)[k]? = some (.int .u8 (b.toNat : Int)) := by unfold u8s; rw [List.getElem?_map, h]; rfl
theorem tk_cons (h : UInt8) (rest : List UInt8) : tk (h :: rest) = (if h.toNat = 1 then some (⟨0, 0, [], false⟩, rest)
    else if h.toNat = 2 then (match rest with | [] => none | b :: r => if b.toNat ≤ 1 then some (⟨3, 0, [], decide (b.toNat = 1)⟩, r) else none)
    else if h.toNat = 3 then (if rest.length < 8 then none else some (⟨1, (val8 (rest.take 8) : Int) - 9223372036854775808, [], false⟩, rest.drop 8))
    else if h.toNat = 4 then (if (upz rest).length = rest.length then none else if rightB ⟨2, 0, upz rest, false⟩ = true then some (⟨2, 0, upz rest, false⟩, rest.drop ((upz rest).length + 1)) else none)
    else none) := rfl
theorem tk1 {h : UInt8} {t : List UInt8} (k : h.toNat = 1) : tk (h :: t) = some (⟨0, 0, [], false⟩, t) := by rw [tk_cons, if_pos k]
theorem tk2n {h : UInt8} {t : List UInt8} (k : h.toNat = 2) (hz : t.length = 0) : tk (h :: t) = none := by
  rw [tk_cons, if_neg (by omega), if_pos k, List.eq_nil_of_length_eq_zero hz]
theorem tk2 {h b : UInt8} {t : List UInt8} (k : h.toNat = 2) (hb : t[0]? = some b) : tk (h :: t) = if b.toNat ≤ 1 then some (⟨3, 0, [], decide (b.toNat = 1)⟩, t.drop 1) else none := by
  rw [tk_cons, if_neg (by omega), if_pos k]
  cases t with
  | nil => cases hb
  | cons x r => cases hb; rfl
theorem tk3 {h : UInt8} {t : List UInt8} (k : h.toNat = 3) : tk (h :: t) = if t.length < 8 then none else some (⟨1, (val8 (t.take 8) : Int) - 9223372036854775808, [], false⟩, t.drop 8) := by
  rw [tk_cons, if_neg (by omega), if_neg (by omega), if_pos k]
theorem tk4 {h : UInt8} {t : List UInt8} (k : h.toNat = 4) : tk (h :: t) = if (upz t).length = t.length then none else if rightB ⟨2, 0, upz t, false⟩ = true then some (⟨2, 0, upz t, false⟩, t.drop ((upz t).length + 1)) else none := by
  rw [tk_cons, if_neg (by omega), if_neg (by omega), if_neg (by omega), if_pos k]
theorem tkn {h : UInt8} {t : List UInt8} (k1 : ¬ h.toNat = 1) (k2 : ¬ h.toNat = 2) (k3 : ¬ h.toNat = 3) (k4 : ¬ h.toNat = 4) : tk (h :: t) = none := by
  rw [tk_cons, if_neg k1, if_neg k2, if_neg k3, if_neg k4]
theorem xbidx_n : Extern.findNext Tryd.f57 = none := by kernel_rfl
theorem xbidx_f : Extern.find Tryd.f57 = some Extern.BytealgIndexByte.indexByte := by kernel_rfl
/-- What key.take gives. -/
def TkQ (w0 : World) (H : Hp) (p : List UInt8) (r : Value) : Prop :=
  match tk p with
  | some (x, q) => ∃ s, r = .tuple #[va x, s, .bool true] ∧ Bt w0 H s q
  | none => ∃ y s, r = .tuple #[va y, s, .bool false]
theorem TkQ.some {w0 : World} {H : Hp} {p q : List UInt8} {x : Va} {s : Value} (h : tk p = some (x, q)) (hb : Bt w0 H s q) : TkQ w0 H p (.tuple #[va x, s, .bool true]) := by unfold TkQ; rw [h]; exact ⟨s, rfl, hb⟩
theorem TkQ.none {w0 : World} {H : Hp} {p : List UInt8} {y : Va} {s : Value} (h : tk p = none) : TkQ w0 H p (.tuple #[va y, s, .bool false]) := by unfold TkQ; rw [h]; exact ⟨y, s, rfl⟩
theorem bdn : bdCells Tryd.prog 36 #[] = some #[.int .u8 0, .int .i64 0, .string ⟨#[]⟩, .bool false] := by kernel_rfl
theorem agg0 : Value.agg #[.int .u8 0, .int .i64 0, .string ⟨#[]⟩, .bool false] = va ⟨0, 0, [], false⟩ := rfl
theorem agg3 (b : Bool) : Value.agg #[.int .u8 3, .int .i64 0, .string ⟨#[]⟩, .bool b] = va ⟨3, 0, [], b⟩ := rfl
theorem agg1 (i : Int) : Value.agg #[.int .u8 1, .int .i64 i, .string ⟨#[]⟩, .bool false] = va ⟨1, i, [], false⟩ := rfl
theorem agg2 (s : List UInt8) : Value.agg #[.int .u8 2, .int .i64 0, .string (str s), .bool false] = va ⟨2, 0, s, false⟩ := rfl
attribute [go_sem] bdn agg0 agg1 agg2 agg3
section
variable {w0 : World} {H Hb : Hp}
theorem indexB_ok {v : Value} {p : List UInt8} (hp : Bt w0 H v p) : ACalls Tryd.prog w0 52 #[v, .int .u8 0] H fun r H' => r = .int .i64 (firstIdx (str p) 0) ∧ H' = H := by
  refine acalls_of Tryd.func52 rfl Tryd.ntmps52 r52 (by simp) ?_
  simp -implicitDefEqProofs only [go_sem, Nat.reduceEqDiff, Nat.reduceLT, Nat.reduceAdd, Nat.reduceMul, Int.reduceEq, Int.reduceLT, Int.reduceLE, Int.reduceNe, Int.reduceBEq, Int.reduceToNat, ↓reduceIte]
  refine aop_extern Tryd.func57 rfl rfl xbidx_n xbidx_f ?_
  simp -implicitDefEqProofs only [go_sem, Nat.reduceEqDiff, Nat.reduceLT, Nat.reduceAdd, Nat.reduceMul, Int.reduceEq, Int.reduceLT, Int.reduceLE, Int.reduceNe, Int.reduceBEq, Int.reduceToNat, ↓reduceIte]
  refine awp_indexByte hp ?_
  simp -implicitDefEqProofs only [go_sem, Nat.reduceEqDiff, Nat.reduceLT, Nat.reduceAdd, Nat.reduceMul, Int.reduceEq, Int.reduceLT, Int.reduceLE, Int.reduceNe, Int.reduceBEq, Int.reduceToNat, ↓reduceIte]
  first | rfl | exact ⟨rfl, rfl⟩
theorem Bt.lo {u : Value} {p : List UInt8} {k : Nat} (h : Bt w0 H u p) (hk : k ≤ p.length) : ∃ (a : Option Addr) (n c : Nat) (rs : Value), u = .slice a n c ∧ n = p.length ∧ k ≤ n ∧ n ≤ c ∧ (.slice (if c = k then a else a.map (·.add (k * 1))) (n - k) (c - k)) = rs ∧ Bt w0 H rs (p.drop k) := by
  obtain ⟨a, c, e, hc⟩ := Rd.slice h
  subst e
  exact ⟨a, p.length, c, _, rfl, rfl, hk, hc, rfl, h.back hk⟩
def TkI (H0 : Hp) (u rs : Value) (b2 : Nat) (n : Nat) (l : List UInt8) (m : Nat) (F : Fr) (H : Hp) : Prop :=
  ∃ k, k + m = 8 ∧ F 2 = .pointer (some ⟨b2, 0, none⟩) ∧ F 6 = rs ∧ F 7 = .int .u64 (val8 (l.take k) : Int) ∧ F 48 = u ∧ F 49 = .int .i64 8 ∧ F 50 = .int .i64 (k : Int) ∧ H = H0
theorem take_ok {u : Value} {h : UInt8} {t : List UInt8} (ht : Tbl w0) (hp : Bt w0 H u (h :: t)) (hn : t.length < 1000000000) : ACalls Tryd.prog w0 43 #[u] H fun r H' => TkQ w0 H (h :: t) r ∧ H' = H := by
  refine ACalls.forget (Q := fun r H' => TkQ w0 H (h :: t) r ∧ Sub H H') ?_ (fun r H' q => ⟨H, q.2, q.1, rfl⟩)
  refine acalls_hi fun hh => ?_
  refine acalls_of3 Tryd.func43 rfl Tryd.ntmps43 r43 (by simp) ?_
  simp -implicitDefEqProofs only [go_sem, Nat.reduceEqDiff, Nat.reduceLT, Nat.reduceAdd, Nat.reduceMul, Int.reduceEq, Int.reduceLT, Int.reduceLE, Int.reduceNe, Int.reduceBEq, Int.reduceToNat, ↓reduceIte]
  refine newK_of ?_
  intro b2 H1 hb2 hn2 h1 s1 g1
  have hh1 : Hi w0 H1 := Hi.ne hh hb2 g1
  simp -implicitDefEqProofs only [go_sem, Nat.reduceEqDiff, Nat.reduceLT, Nat.reduceAdd, Nat.reduceMul, Int.reduceEq, Int.reduceLT, Int.reduceLE, Int.reduceNe, Int.reduceBEq, Int.reduceToNat, ↓reduceIte]
  refine newK_of ?_
  intro bz H2 hb5 hn5 h5 u5 g5
  have hh2 : Hi w0 H2 := Hi.ne hh1 hb5 g5
  simp -implicitDefEqProofs only [go_sem, Nat.reduceEqDiff, Nat.reduceLT, Nat.reduceAdd, Nat.reduceMul, Int.reduceEq, Int.reduceLT, Int.reduceLE, Int.reduceNe, Int.reduceBEq, Int.reduceToNat, ↓reduceIte]
  refine store_all (cs := (vc ⟨0, 0, [], false⟩).toArray) h5 rfl rfl s36 ?_
  intro H3 h35 g3
  have hh3 : Hi w0 H3 := Hi.ne hh2 hb5 g3
  have n25 : b2 ≠ bz := fun e => by rw [e, hn5] at h1; cases h1
  have h32 : H3 b2 = some (.cells (vc ⟨0, 0, [], false⟩).toArray 36 (0, 0)) := (g3 b2 n25).trans (u5 _ _ h1)
  have s3 : Sub H H3 := fun i o hi => (g3 i fun e => by rw [e, s1.none hn5] at hi; cases hi).trans (u5 _ _ (s1 _ _ hi))
  have hp3 := hp.sub s3 hh3
  have l5 := ldc w0 (l := vc ⟨0, 0, [], false⟩) h35 4
  obtain ⟨a, n, c, rs, eu, en, hk1, hnc, ers, hrs0⟩ := Bt.lo hp (k := 1) (by simp)
  have hrs0 : Bt w0 H rs t := hrs0
  have hrs := hrs0.sub s3 hh3
  have fin : ∀ HF, (∀ i, i ≠ b2 → HF i = H3 i) → Sub H HF := fun HF gF i o hi => (gF i fun e => by rw [e, hn2] at hi; cases hi).trans (s3 _ _ hi)
  simp -implicitDefEqProofs only [go_sem, Nat.reduceEqDiff, Nat.reduceLT, Nat.reduceAdd, Nat.reduceMul, Int.reduceEq, Int.reduceLT, Int.reduceLE, Int.reduceNe, Int.reduceBEq, Int.reduceToNat, ↓reduceIte]
  subst eu
  refine slice_lo (dst := none) (ty := 0) (pos := "") (after := #[]) (g := none) (a := a) (n := n) (c := c) (l := 1) Tryd.underlying22 s5 (by simp -implicitDefEqProofs only [go_sem, Nat.reduceEqDiff, Nat.reduceLT, Nat.reduceAdd, Nat.reduceMul, Int.reduceEq, Int.reduceLT, Int.reduceLE, Int.reduceNe, Int.reduceBEq, Int.reduceToNat, ↓reduceIte]) (by simp -implicitDefEqProofs only [go_sem, Nat.reduceEqDiff, Nat.reduceLT, Nat.reduceAdd, Nat.reduceMul, Int.reduceEq, Int.reduceLT, Int.reduceLE, Int.reduceNe, Int.reduceBEq, Int.reduceToNat, ↓reduceIte]) (by omega) ?_
  rw [ers]
  obtain ⟨ra, rc, er, hrc⟩ := Rd.slice hrs
  subst er
  obtain ⟨pa, pc, ep, lp⟩ := Rd.at1 hp3 (k := 0) (show (u8s (h :: t))[0]? = some (.int .u8 (h.toNat : Int)) from rfl)
  have ea : a = some pa := by
    injection ep
  subst ea
  have lp : ld w0 H3 pa = some (.int .u8 (h.toNat : Int)) := lp
  have dn : decide ((0 : Int) < (n : Int)) = true := decide_eq_true (by omega)
  simp -implicitDefEqProofs only [go_sem, Nat.reduceEqDiff, Nat.reduceLT, Nat.reduceAdd, Nat.reduceMul, Int.reduceEq, Int.reduceLT, Int.reduceLE, Int.reduceNe, Int.reduceBEq, Int.reduceToNat, ↓reduceIte, dn, lp]
  by_cases k1 : h.toNat = 1
  · have d1 : decide ((h.toNat : Int) = 1) = true := decide_eq_true (by omega)
    simp -implicitDefEqProofs only [go_sem, Nat.reduceEqDiff, Nat.reduceLT, Nat.reduceAdd, Nat.reduceMul, Int.reduceEq, Int.reduceLT, Int.reduceLE, Int.reduceNe, Int.reduceBEq, Int.reduceToNat, ↓reduceIte, d1, l5]
    refine store_all (cs := (vc ⟨0, 0, [], false⟩).toArray) h32 rfl rfl s36 ?_
    intro HF hF gF
    have lF := ldc w0 (l := vc ⟨0, 0, [], false⟩) hF 4
    simp -implicitDefEqProofs only [go_sem, Nat.reduceEqDiff, Nat.reduceLT, Nat.reduceAdd, Nat.reduceMul, Int.reduceEq, Int.reduceLT, Int.reduceLE, Int.reduceNe, Int.reduceBEq, Int.reduceToNat, ↓reduceIte, lF]
    exact ⟨TkQ.some (tk1 k1) hrs0, fin HF gF⟩
  have d1 : decide ((h.toNat : Int) = 1) = false := decide_eq_false (by omega)
  by_cases k2 : h.toNat = 2
  · have d2 : decide ((h.toNat : Int) = 2) = true := decide_eq_true (by omega)
    rcases Nat.eq_zero_or_pos t.length with hz | hz
    · have hnil : t = [] := List.eq_nil_of_length_eq_zero hz
      have dz : decide ((t.length : Int) = 0) = true := decide_eq_true (by omega)
      simp -implicitDefEqProofs only [go_sem, Nat.reduceEqDiff, Nat.reduceLT, Nat.reduceAdd, Nat.reduceMul, Int.reduceEq, Int.reduceLT, Int.reduceLE, Int.reduceNe, Int.reduceBEq, Int.reduceToNat, ↓reduceIte, d1, d2, dz, l5]
      refine store_all (cs := (vc ⟨0, 0, [], false⟩).toArray) h32 rfl rfl s36 ?_
      intro HF hF gF
      have lF := ldc w0 (l := vc ⟨0, 0, [], false⟩) hF 4
      simp -implicitDefEqProofs only [go_sem, Nat.reduceEqDiff, Nat.reduceLT, Nat.reduceAdd, Nat.reduceMul, Int.reduceEq, Int.reduceLT, Int.reduceLE, Int.reduceNe, Int.reduceBEq, Int.reduceToNat, ↓reduceIte, lF]
      exact ⟨TkQ.none (tk2n k2 hz), fin HF gF⟩
    · have dz : decide ((t.length : Int) = 0) = false := decide_eq_false (by omega)
      have dz' : decide ((0 : Int) < (t.length : Int)) = true := decide_eq_true (by omega)
      obtain ⟨b, hb⟩ : ∃ b, t[0]? = some b := ⟨_, List.getElem?_eq_getElem hz⟩
      have e2' := tk2 k2 hb
      obtain ⟨qa, qc, eq, lq⟩ := Rd.at1 hrs (k := 0) (u8s_get hb)
      have eqa : ra = some qa := by injection eq
      subst eqa
      have lq : ld w0 H3 qa = some (.int .u8 (b.toNat : Int)) := lq
      by_cases c1 : b.toNat ≤ 1
      · have db : decide ((1 : Int) < (b.toNat : Int)) = false := decide_eq_false (by omega)
        have de : decide ((b.toNat : Int) = 1) = decide (b.toNat = 1) := by
          by_cases q : b.toNat = 1
          · rw [decide_eq_true q, decide_eq_true (by omega)]
          · rw [decide_eq_false q, decide_eq_false (by omega)]
        simp -implicitDefEqProofs only [go_sem, Nat.reduceEqDiff, Nat.reduceLT, Nat.reduceAdd, Nat.reduceMul, Int.reduceEq, Int.reduceLT, Int.reduceLE, Int.reduceNe, Int.reduceBEq, Int.reduceToNat, ↓reduceIte, d1, d2, dz, dz', lq, db]
        refine vdraw_t [⟨0, .p, [], []⟩, ⟨1, .p, [], []⟩, ⟨2, .n, [], []⟩, ⟨3, .p, [], []⟩, ⟨4, .p, [], []⟩, ⟨5, .p, [], []⟩, ⟨6, .n, [], []⟩, ⟨7, .c, [6], []⟩, ⟨8, .p, [], []⟩, ⟨9, .p, [], []⟩] [0, 1, 3, 7, 15, 0, 32, 31, 255, 511] mixed (by kernel_rfl) ?_
        simp -implicitDefEqProofs only [go_sem, Nat.reduceEqDiff, Nat.reduceLT, Nat.reduceAdd, Nat.reduceMul, Int.reduceEq, Int.reduceLT, Int.reduceLE, Int.reduceNe, Int.reduceBEq, Int.reduceToNat, ↓reduceIte, dz', lq, de]
        obtain ⟨a2, n2, c2, r2, e3, en2, hk2, hnc2, er2, hr2⟩ := Bt.lo hrs0 (k := 1) (by omega)
        cases e3
        refine ⟨r2, ?_, ?_⟩
        · refine slice_lo (dst := none) (ty := 0) (pos := "") (after := #[]) (g := none) (a := some qa) (n := t.length) (c := rc) (l := 1) Tryd.underlying22 s5 (by simp -implicitDefEqProofs only [go_sem, Nat.reduceEqDiff, Nat.reduceLT, Nat.reduceAdd, Nat.reduceMul, Int.reduceEq, Int.reduceLT, Int.reduceLE, Int.reduceNe, Int.reduceBEq, Int.reduceToNat, ↓reduceIte]) (by simp -implicitDefEqProofs only [go_sem, Nat.reduceEqDiff, Nat.reduceLT, Nat.reduceAdd, Nat.reduceMul, Int.reduceEq, Int.reduceLT, Int.reduceLE, Int.reduceNe, Int.reduceBEq, Int.reduceToNat, ↓reduceIte]) (by omega) ?_
          rw [er2]
          exact ⟨rfl, rfl⟩
        simp -implicitDefEqProofs only [go_sem, Nat.reduceEqDiff, Nat.reduceLT, Nat.reduceAdd, Nat.reduceMul, Int.reduceEq, Int.reduceLT, Int.reduceLE, Int.reduceNe, Int.reduceBEq, Int.reduceToNat, ↓reduceIte]
        refine store_all (cs := (vc ⟨3, 0, [], decide (b.toNat = 1)⟩).toArray) h32 rfl rfl s36 ?_
        intro HF hF gF
        have lF := ldc w0 (l := vc ⟨3, 0, [], decide (b.toNat = 1)⟩) hF 4
        simp -implicitDefEqProofs only [go_sem, Nat.reduceEqDiff, Nat.reduceLT, Nat.reduceAdd, Nat.reduceMul, Int.reduceEq, Int.reduceLT, Int.reduceLE, Int.reduceNe, Int.reduceBEq, Int.reduceToNat, ↓reduceIte, lF]
        refine ⟨?_, TkQ.some (by rw [e2', if_pos c1]) hr2, fin HF gF⟩
        refine slice_lo (dst := none) (ty := 0) (pos := "") (after := #[]) (g := none) (a := some qa) (n := t.length) (c := rc) (l := 1) Tryd.underlying22 s5 (by simp -implicitDefEqProofs only [go_sem, Nat.reduceEqDiff, Nat.reduceLT, Nat.reduceAdd, Nat.reduceMul, Int.reduceEq, Int.reduceLT, Int.reduceLE, Int.reduceNe, Int.reduceBEq, Int.reduceToNat, ↓reduceIte]) (by simp -implicitDefEqProofs only [go_sem, Nat.reduceEqDiff, Nat.reduceLT, Nat.reduceAdd, Nat.reduceMul, Int.reduceEq, Int.reduceLT, Int.reduceLE, Int.reduceNe, Int.reduceBEq, Int.reduceToNat, ↓reduceIte]) (by omega) ?_
        rw [er2]
        exact ⟨rfl, rfl⟩
      · have db : decide ((1 : Int) < (b.toNat : Int)) = true := decide_eq_true (by omega)
        simp -implicitDefEqProofs only [go_sem, Nat.reduceEqDiff, Nat.reduceLT, Nat.reduceAdd, Nat.reduceMul, Int.reduceEq, Int.reduceLT, Int.reduceLE, Int.reduceNe, Int.reduceBEq, Int.reduceToNat, ↓reduceIte, d1, d2, dz, dz', lq, db, l5]
        refine store_all (cs := (vc ⟨0, 0, [], false⟩).toArray) h32 rfl rfl s36 ?_
        intro HF hF gF
        have lF := ldc w0 (l := vc ⟨0, 0, [], false⟩) hF 4
        simp -implicitDefEqProofs only [go_sem, Nat.reduceEqDiff, Nat.reduceLT, Nat.reduceAdd, Nat.reduceMul, Int.reduceEq, Int.reduceLT, Int.reduceLE, Int.reduceNe, Int.reduceBEq, Int.reduceToNat, ↓reduceIte, lF]
        exact ⟨TkQ.none (by rw [e2', if_neg c1]), fin HF gF⟩
  have d2 : decide ((h.toNat : Int) = 2) = false := decide_eq_false (by omega)
  by_cases k3 : h.toNat = 3
  · have d3 : decide ((h.toNat : Int) = 3) = true := decide_eq_true (by omega)
    have e3 := tk3 (t := t) k3
    by_cases c8 : t.length < 8
    · have d8 : decide ((t.length : Int) < 8) = true := decide_eq_true (by omega)
      simp -implicitDefEqProofs only [go_sem, Nat.reduceEqDiff, Nat.reduceLT, Nat.reduceAdd, Nat.reduceMul, Int.reduceEq, Int.reduceLT, Int.reduceLE, Int.reduceNe, Int.reduceBEq, Int.reduceToNat, ↓reduceIte, d1, d2, d3, d8, l5]
      refine store_all (cs := (vc ⟨0, 0, [], false⟩).toArray) h32 rfl rfl s36 ?_
      intro HF hF gF
      have lF := ldc w0 (l := vc ⟨0, 0, [], false⟩) hF 4
      simp -implicitDefEqProofs only [go_sem, Nat.reduceEqDiff, Nat.reduceLT, Nat.reduceAdd, Nat.reduceMul, Int.reduceEq, Int.reduceLT, Int.reduceLE, Int.reduceNe, Int.reduceBEq, Int.reduceToNat, ↓reduceIte, lF]
      exact ⟨TkQ.none (by rw [e3, if_pos c8]), fin HF gF⟩
    · have d8 : decide ((t.length : Int) < 8) = false := decide_eq_false (by omega)
      have hfr := hrs.front (k := 8) (by omega)
      have hfl : (t.take 8).length = 8 := by rw [List.length_take]; omega
      simp -implicitDefEqProofs only [go_sem, Nat.reduceEqDiff, Nat.reduceLT, Nat.reduceAdd, Nat.reduceMul, Int.reduceEq, Int.reduceLT, Int.reduceLE, Int.reduceNe, Int.reduceBEq, Int.reduceToNat, ↓reduceIte, d1, d2, d3, d8]
      refine slice_hi (dst := none) (ty := 0) (pos := "") (after := #[]) (g := none) (a := ra) (n := t.length) (c := rc) (l := 8) Tryd.underlying22 s5 (by simp -implicitDefEqProofs only [go_sem, Nat.reduceEqDiff, Nat.reduceLT, Nat.reduceAdd, Nat.reduceMul, Int.reduceEq, Int.reduceLT, Int.reduceLE, Int.reduceNe, Int.reduceBEq, Int.reduceToNat, ↓reduceIte]) rfl (by omega) ?_
      simp -implicitDefEqProofs only [go_sem, Nat.reduceEqDiff, Nat.reduceLT, Nat.reduceAdd, Nat.reduceMul, Int.reduceEq, Int.reduceLT, Int.reduceLE, Int.reduceNe, Int.reduceBEq, Int.reduceToNat, ↓reduceIte]
      refine AC.loop (TkI H3 (.slice ra 8 rc) (.slice ra t.length rc) b2 n (t.take 8)) (n := 8) ⟨0, by omega, by simp -implicitDefEqProofs only [go_sem, Nat.reduceEqDiff, Nat.reduceLT, Nat.reduceAdd, Nat.reduceMul, Int.reduceEq, Int.reduceLT, Int.reduceLE, Int.reduceNe, Int.reduceBEq, Int.reduceToNat, ↓reduceIte], by simp -implicitDefEqProofs only [go_sem, Nat.reduceEqDiff, Nat.reduceLT, Nat.reduceAdd, Nat.reduceMul, Int.reduceEq, Int.reduceLT, Int.reduceLE, Int.reduceNe, Int.reduceBEq, Int.reduceToNat, ↓reduceIte], by simp -implicitDefEqProofs only [go_sem, Nat.reduceEqDiff, Nat.reduceLT, Nat.reduceAdd, Nat.reduceMul, Int.reduceEq, Int.reduceLT, Int.reduceLE, Int.reduceNe, Int.reduceBEq, Int.reduceToNat, ↓reduceIte] <;> rfl, by simp -implicitDefEqProofs only [go_sem, Nat.reduceEqDiff, Nat.reduceLT, Nat.reduceAdd, Nat.reduceMul, Int.reduceEq, Int.reduceLT, Int.reduceLE, Int.reduceNe, Int.reduceBEq, Int.reduceToNat, ↓reduceIte], by simp -implicitDefEqProofs only [go_sem, Nat.reduceEqDiff, Nat.reduceLT, Nat.reduceAdd, Nat.reduceMul, Int.reduceEq, Int.reduceLT, Int.reduceLE, Int.reduceNe, Int.reduceBEq, Int.reduceToNat, ↓reduceIte] <;> rfl, by simp -implicitDefEqProofs only [go_sem, Nat.reduceEqDiff, Nat.reduceLT, Nat.reduceAdd, Nat.reduceMul, Int.reduceEq, Int.reduceLT, Int.reduceLE, Int.reduceNe, Int.reduceBEq, Int.reduceToNat, ↓reduceIte] <;> rfl, rfl⟩ ?_
      rintro m F HL ⟨k, hk, f2, f6, f7, f48, f49, f50, rfl⟩
      have hv8 := val8_lt ((t.take 8).take k)
      by_cases ck : k < 8
      · have g1 : decide ((k : Int) < 8) = true := decide_eq_true (by omega)
        have g1' : decide ((k : Int) < ((8 : Nat) : Int)) = true := decide_eq_true (by omega)
        have g0 : decide ((0 : Int) ≤ (k : Int)) = true := decide_eq_true (by omega)
        have gw : IntKind.i64.wrap ((k : Int) + 1) = (k + 1 : Nat) := by rw [i64_in] <;> omega
        obtain ⟨b, hb⟩ : ∃ b, (t.take 8)[k]? = some b := ⟨_, List.getElem?_eq_getElem (by omega)⟩
        obtain ⟨qa, qc, eq, lq⟩ := Rd.at1 hfr (k := k) (u8s_get hb)
        have eqa : ra = some qa := by injection eq
        rw [eqa] at f48
        have hb8 := UInt8.toNat_lt b
        have hn7 : val8 ((t.take 8).take k) < 72057594037927936 := by
          have h1 : ((t.take 8).take k).length = k := by rw [List.length_take]; omega
          rw [h1] at hv8
          have h2 : 256 ^ k ≤ 256 ^ 7 := Nat.pow_le_pow_right (by decide) (by omega)
          have h3 : 256 ^ 7 = 72057594037927936 := by decide
          omega
        have hsn : val8 ((t.take 8).take (k + 1)) = val8 ((t.take 8).take k) * 256 + b.toNat := by rw [List.take_add_one, hb]; exact val8_snoc _ _
        have wc : IntKind.u64.wrap (b.toNat : Int) = (b.toNat : Int) := u64_in (by omega) (by omega)
        have wb : IntKind.u64.bits = 64 := rfl
        have ob : orI .u64 (IntKind.u64.wrap ((val8 ((t.take 8).take k) : Int) * 2 ^ min 8 64)) (b.toNat : Int) = ((val8 ((t.take 8).take k) * 256 + b.toNat : Nat) : Int) := or_byte hn7 (by omega)
        simp -implicitDefEqProofs only [go_sem, Nat.reduceEqDiff, Nat.reduceLT, Nat.reduceAdd, Nat.reduceMul, Int.reduceEq, Int.reduceLT, Int.reduceLE, Int.reduceNe, Int.reduceBEq, Int.reduceToNat, ↓reduceIte, f2, f6, f7, f48, f49, f50, g0, g1, g1', lq, wc, wb, ob, gw]
        exact ⟨m - 1, by omega, k + 1, by omega, by simp -implicitDefEqProofs only [go_sem, Nat.reduceEqDiff, Nat.reduceLT, Nat.reduceAdd, Nat.reduceMul, Int.reduceEq, Int.reduceLT, Int.reduceLE, Int.reduceNe, Int.reduceBEq, Int.reduceToNat, ↓reduceIte, f2], by simp -implicitDefEqProofs only [go_sem, Nat.reduceEqDiff, Nat.reduceLT, Nat.reduceAdd, Nat.reduceMul, Int.reduceEq, Int.reduceLT, Int.reduceLE, Int.reduceNe, Int.reduceBEq, Int.reduceToNat, ↓reduceIte, f6], by simp -implicitDefEqProofs only [go_sem, Nat.reduceEqDiff, Nat.reduceLT, Nat.reduceAdd, Nat.reduceMul, Int.reduceEq, Int.reduceLT, Int.reduceLE, Int.reduceNe, Int.reduceBEq, Int.reduceToNat, ↓reduceIte]; rw [hsn], by simp -implicitDefEqProofs only [go_sem, Nat.reduceEqDiff, Nat.reduceLT, Nat.reduceAdd, Nat.reduceMul, Int.reduceEq, Int.reduceLT, Int.reduceLE, Int.reduceNe, Int.reduceBEq, Int.reduceToNat, ↓reduceIte, f48]; rw [eqa], by simp -implicitDefEqProofs only [go_sem, Nat.reduceEqDiff, Nat.reduceLT, Nat.reduceAdd, Nat.reduceMul, Int.reduceEq, Int.reduceLT, Int.reduceLE, Int.reduceNe, Int.reduceBEq, Int.reduceToNat, ↓reduceIte, f49], by simp -implicitDefEqProofs only [go_sem, Nat.reduceEqDiff, Nat.reduceLT, Nat.reduceAdd, Nat.reduceMul, Int.reduceEq, Int.reduceLT, Int.reduceLE, Int.reduceNe, Int.reduceBEq, Int.reduceToNat, ↓reduceIte], rfl⟩
      · have hk8 : k = 8 := by omega
        subst hk8
        have g1 : decide (((8 : Nat) : Int) < 8) = false := rfl
        have g1' : decide ((8 : Int) < 8) = false := rfl
        have htt : (t.take 8).take 8 = t.take 8 := List.take_of_length_le (by omega)
        rw [htt] at f7 hv8
        have hlt : val8 (t.take 8) < 18446744073709551616 := by
          rw [hfl] at hv8
          have h3 : 256 ^ 8 = 18446744073709551616 := by decide
          omega
        have im := i64_mod hlt
        simp -implicitDefEqProofs only [go_sem, Nat.reduceEqDiff, Nat.reduceLT, Nat.reduceAdd, Nat.reduceMul, Int.reduceEq, Int.reduceLT, Int.reduceLE, Int.reduceNe, Int.reduceBEq, Int.reduceToNat, ↓reduceIte, f2, f6, f7, f48, f49, f50, g1, g1']
        refine vdraw_t [⟨0, .p, [], []⟩, ⟨1, .p, [], []⟩, ⟨2, .n, [], []⟩, ⟨3, .p, [], []⟩, ⟨4, .p, [], []⟩, ⟨5, .n, [], []⟩, ⟨6, .c, [5], []⟩, ⟨7, .p, [], []⟩, ⟨8, .p, [], []⟩] [0, 1, 3, 7, 0, 16, 15, 127, 255] mixed (by kernel_rfl) ?_
        simp -implicitDefEqProofs only [go_sem, Nat.reduceEqDiff, Nat.reduceLT, Nat.reduceAdd, Nat.reduceMul, Int.reduceEq, Int.reduceLT, Int.reduceLE, Int.reduceNe, Int.reduceBEq, Int.reduceToNat, ↓reduceIte, f2, f6, f7, im]
        obtain ⟨a2, n2, c2, r2, e4, en2, hk2, hnc2, er2, hr2⟩ := Bt.lo hrs0 (k := 8) (by omega)
        have ea2 : ra = a2 := by injection e4
        have ec2 : rc = c2 := by injection e4
        subst ea2 ec2 en2
        refine ⟨r2, ?_, ?_⟩
        · refine slice_lo (dst := none) (ty := 0) (pos := "") (after := #[]) (g := none) (a := ra) (n := t.length) (c := rc) (l := 8) Tryd.underlying22 s5 (by simp -implicitDefEqProofs only [go_sem, Nat.reduceEqDiff, Nat.reduceLT, Nat.reduceAdd, Nat.reduceMul, Int.reduceEq, Int.reduceLT, Int.reduceLE, Int.reduceNe, Int.reduceBEq, Int.reduceToNat, ↓reduceIte]) rfl (by omega) ?_
          rw [er2]
          exact ⟨rfl, rfl⟩
        simp -implicitDefEqProofs only [go_sem, Nat.reduceEqDiff, Nat.reduceLT, Nat.reduceAdd, Nat.reduceMul, Int.reduceEq, Int.reduceLT, Int.reduceLE, Int.reduceNe, Int.reduceBEq, Int.reduceToNat, ↓reduceIte, f2]
        refine store_all (cs := (vc ⟨1, (val8 (t.take 8) : Int) - 9223372036854775808, [], false⟩).toArray) h32 rfl rfl s36 ?_
        intro HF hF gF
        have lF := ldc w0 (l := vc ⟨1, (val8 (t.take 8) : Int) - 9223372036854775808, [], false⟩) hF 4
        simp -implicitDefEqProofs only [go_sem, Nat.reduceEqDiff, Nat.reduceLT, Nat.reduceAdd, Nat.reduceMul, Int.reduceEq, Int.reduceLT, Int.reduceLE, Int.reduceNe, Int.reduceBEq, Int.reduceToNat, ↓reduceIte, f2, lF]
        refine ⟨?_, TkQ.some (by rw [e3, if_neg c8]) hr2, fin HF gF⟩
        refine slice_lo (dst := none) (ty := 0) (pos := "") (after := #[]) (g := none) (a := ra) (n := t.length) (c := rc) (l := 8) Tryd.underlying22 s5 (by simp -implicitDefEqProofs only [go_sem, Nat.reduceEqDiff, Nat.reduceLT, Nat.reduceAdd, Nat.reduceMul, Int.reduceEq, Int.reduceLT, Int.reduceLE, Int.reduceNe, Int.reduceBEq, Int.reduceToNat, ↓reduceIte]) rfl (by omega) ?_
        rw [er2]
        exact ⟨rfl, rfl⟩
  have d3 : decide ((h.toNat : Int) = 3) = false := decide_eq_false (by omega)
  by_cases k4 : h.toNat = 4
  · have d4 : decide ((h.toNat : Int) = 4) = true := decide_eq_true (by omega)
    have e4 := tk4 (t := t) k4
    obtain ⟨ue1, ue2, ue3⟩ := upz_end t
    simp -implicitDefEqProofs only [go_sem, Nat.reduceEqDiff, Nat.reduceLT, Nat.reduceAdd, Nat.reduceMul, Int.reduceEq, Int.reduceLT, Int.reduceLE, Int.reduceNe, Int.reduceBEq, Int.reduceToNat, ↓reduceIte, d1, d2, d3, d4]
    refine (indexB_ok hrs).mono ?_
    rintro r HI ⟨rfl, rfl⟩
    rw [firstIdx_upz]
    by_cases cu : (upz t).length = t.length
    · have dneg : decide ((-1 : Int) < 0) = true := rfl
      rw [if_pos cu]
      simp -implicitDefEqProofs only [go_sem, Nat.reduceEqDiff, Nat.reduceLT, Nat.reduceAdd, Nat.reduceMul, Int.reduceEq, Int.reduceLT, Int.reduceLE, Int.reduceNe, Int.reduceBEq, Int.reduceToNat, ↓reduceIte, dneg, l5]
      refine store_all (cs := (vc ⟨0, 0, [], false⟩).toArray) h32 rfl rfl s36 ?_
      intro HF hF gF
      have lF := ldc w0 (l := vc ⟨0, 0, [], false⟩) hF 4
      simp -implicitDefEqProofs only [go_sem, Nat.reduceEqDiff, Nat.reduceLT, Nat.reduceAdd, Nat.reduceMul, Int.reduceEq, Int.reduceLT, Int.reduceLE, Int.reduceNe, Int.reduceBEq, Int.reduceToNat, ↓reduceIte, lF]
      exact ⟨TkQ.none (by rw [e4, if_pos cu]), fin HF gF⟩
    · have dneg : decide (((upz t).length : Int) < 0) = false := decide_eq_false (by omega)
      rw [if_neg cu] at e4 ⊢
      have hfr := hrs.front (k := (upz t).length) ue1
      rw [ue2] at hfr
      simp -implicitDefEqProofs only [go_sem, Nat.reduceEqDiff, Nat.reduceLT, Nat.reduceAdd, Nat.reduceMul, Int.reduceEq, Int.reduceLT, Int.reduceLE, Int.reduceNe, Int.reduceBEq, Int.reduceToNat, ↓reduceIte, dneg]
      refine slice_hi (dst := none) (ty := 0) (pos := "") (after := #[]) (g := none) (a := ra) (n := t.length) (c := rc) (l := (upz t).length) Tryd.underlying22 s5 (by simp -implicitDefEqProofs only [go_sem, Nat.reduceEqDiff, Nat.reduceLT, Nat.reduceAdd, Nat.reduceMul, Int.reduceEq, Int.reduceLT, Int.reduceLE, Int.reduceNe, Int.reduceBEq, Int.reduceToNat, ↓reduceIte]) (by simp -implicitDefEqProofs only [go_sem, Nat.reduceEqDiff, Nat.reduceLT, Nat.reduceAdd, Nat.reduceMul, Int.reduceEq, Int.reduceLT, Int.reduceLE, Int.reduceNe, Int.reduceBEq, Int.reduceToNat, ↓reduceIte]) (by omega) ?_
      simp -implicitDefEqProofs only [go_sem, Nat.reduceEqDiff, Nat.reduceLT, Nat.reduceAdd, Nat.reduceMul, Int.reduceEq, Int.reduceLT, Int.reduceLE, Int.reduceNe, Int.reduceBEq, Int.reduceToNat, ↓reduceIte]
      refine conv_bytes (dst := none) (ty := 0) (pos := "") (after := #[]) (g := none) Tryd.underlying22 Tryd.underlying5 Tryd.underlying9 (by simp -implicitDefEqProofs only [go_sem, Nat.reduceEqDiff, Nat.reduceLT, Nat.reduceAdd, Nat.reduceMul, Int.reduceEq, Int.reduceLT, Int.reduceLE, Int.reduceNe, Int.reduceBEq, Int.reduceToNat, ↓reduceIte]) hfr ?_
      simp -implicitDefEqProofs only [go_sem, Nat.reduceEqDiff, Nat.reduceLT, Nat.reduceAdd, Nat.reduceMul, Int.reduceEq, Int.reduceLT, Int.reduceLE, Int.reduceNe, Int.reduceBEq, Int.reduceToNat, ↓reduceIte]
      refine newK_of ?_
      intro bx H4 hbx hnx hx sx gx
      simp -implicitDefEqProofs only [go_sem, Nat.reduceEqDiff, Nat.reduceLT, Nat.reduceAdd, Nat.reduceMul, Int.reduceEq, Int.reduceLT, Int.reduceLE, Int.reduceNe, Int.reduceBEq, Int.reduceToNat, ↓reduceIte]
      refine store_all (cs := (vc ⟨2, 0, upz t, false⟩).toArray) hx rfl rfl s36 ?_
      intro H5 hx5 gx5
      have n2x : b2 ≠ bx := fun e => by rw [e, hnx] at h32; cases h32
      have h52 := (gx5 b2 n2x).trans (sx _ _ h32)
      have lx := ldc w0 (l := vc ⟨2, 0, upz t, false⟩) hx5 4
      have fin5 : ∀ HF, (∀ i, i ≠ b2 → HF i = H5 i) → Sub H HF := fun HF gF i o hi => (gF i fun e => by rw [e, hn2] at hi; cases hi).trans ((gx5 i fun e => by rw [e, s3.none hnx] at hi; cases hi).trans (sx _ _ (s3 _ _ hi)))
      have we : IntKind.i64.wrap (((upz t).length : Int) + 1) = ((upz t).length + 1 : Nat) := by rw [i64_in] <;> omega
      simp -implicitDefEqProofs only [go_sem, Nat.reduceEqDiff, Nat.reduceLT, Nat.reduceAdd, Nat.reduceMul, Int.reduceEq, Int.reduceLT, Int.reduceLE, Int.reduceNe, Int.reduceBEq, Int.reduceToNat, ↓reduceIte]
      refine vdraw_t [⟨0, .n, [], []⟩, ⟨1, .p, [], []⟩, ⟨2, .p, [], []⟩, ⟨3, .p, [], []⟩, ⟨4, .n, [], []⟩, ⟨5, .n, [], []⟩, ⟨6, .c, [0, 4], []⟩, ⟨7, .c, [4], []⟩, ⟨8, .p, [], []⟩, ⟨9, .p, [], []⟩] [0, 0, 0, 4, 14, 0, 32, 97, 255, 511] mixed (by kernel_rfl) ?_
      obtain ⟨a2, n2, c2, r2, e5, en2, hk2, hnc2, er2, hr2⟩ := Bt.lo hrs0 (k := (upz t).length + 1) (by omega)
      have ea2 : ra = a2 := by injection e5
      have ec2 : rc = c2 := by injection e5
      subst ea2 ec2 en2
      simp -implicitDefEqProofs only [go_sem, Nat.reduceEqDiff, Nat.reduceLT, Nat.reduceAdd, Nat.reduceMul, Int.reduceEq, Int.reduceLT, Int.reduceLE, Int.reduceNe, Int.reduceBEq, Int.reduceToNat, ↓reduceIte, lx, we]
      refine ⟨r2, ?_, ?_⟩
      · refine slice_lo (dst := none) (ty := 0) (pos := "") (after := #[]) (g := none) (a := ra) (n := t.length) (c := rc) (l := (upz t).length + 1) Tryd.underlying22 s5 (by simp -implicitDefEqProofs only [go_sem, Nat.reduceEqDiff, Nat.reduceLT, Nat.reduceAdd, Nat.reduceMul, Int.reduceEq, Int.reduceLT, Int.reduceLE, Int.reduceNe, Int.reduceBEq, Int.reduceToNat, ↓reduceIte]) (by simp -implicitDefEqProofs only [go_sem, Nat.reduceEqDiff, Nat.reduceLT, Nat.reduceAdd, Nat.reduceMul, Int.reduceEq, Int.reduceLT, Int.reduceLE, Int.reduceNe, Int.reduceBEq, Int.reduceToNat, ↓reduceIte]) (by omega) ?_
        rw [er2]
        exact ⟨rfl, rfl⟩
      simp -implicitDefEqProofs only [go_sem, Nat.reduceEqDiff, Nat.reduceLT, Nat.reduceAdd, Nat.reduceMul, Int.reduceEq, Int.reduceLT, Int.reduceLE, Int.reduceNe, Int.reduceBEq, Int.reduceToNat, ↓reduceIte, lx]
      refine (cright_ok ht).mono ?_
      rintro r H6 ⟨rfl, rfl⟩
      simp -implicitDefEqProofs only [go_sem, Nat.reduceEqDiff, Nat.reduceLT, Nat.reduceAdd, Nat.reduceMul, Int.reduceEq, Int.reduceLT, Int.reduceLE, Int.reduceNe, Int.reduceBEq, Int.reduceToNat, ↓reduceIte, lx]
      refine ⟨?_, ?_⟩
      · refine slice_lo (dst := none) (ty := 0) (pos := "") (after := #[]) (g := none) (a := ra) (n := t.length) (c := rc) (l := (upz t).length + 1) Tryd.underlying22 s5 (by simp -implicitDefEqProofs only [go_sem, Nat.reduceEqDiff, Nat.reduceLT, Nat.reduceAdd, Nat.reduceMul, Int.reduceEq, Int.reduceLT, Int.reduceLE, Int.reduceNe, Int.reduceBEq, Int.reduceToNat, ↓reduceIte]) (by simp -implicitDefEqProofs only [go_sem, Nat.reduceEqDiff, Nat.reduceLT, Nat.reduceAdd, Nat.reduceMul, Int.reduceEq, Int.reduceLT, Int.reduceLE, Int.reduceNe, Int.reduceBEq, Int.reduceToNat, ↓reduceIte]) (by omega) ?_
        rw [er2]
        exact ⟨rfl, rfl⟩
      refine store_all (cs := (vc ⟨2, 0, upz t, false⟩).toArray) h52 rfl rfl s36 ?_
      intro HF hF gF
      have lF := ldc w0 (l := vc ⟨2, 0, upz t, false⟩) hF 4
      simp -implicitDefEqProofs only [go_sem, Nat.reduceEqDiff, Nat.reduceLT, Nat.reduceAdd, Nat.reduceMul, Int.reduceEq, Int.reduceLT, Int.reduceLE, Int.reduceNe, Int.reduceBEq, Int.reduceToNat, ↓reduceIte, lF]
      refine ⟨?_, ?_, fin5 HF gF⟩
      · refine slice_lo (dst := none) (ty := 0) (pos := "") (after := #[]) (g := none) (a := ra) (n := t.length) (c := rc) (l := (upz t).length + 1) Tryd.underlying22 s5 (by simp -implicitDefEqProofs only [go_sem, Nat.reduceEqDiff, Nat.reduceLT, Nat.reduceAdd, Nat.reduceMul, Int.reduceEq, Int.reduceLT, Int.reduceLE, Int.reduceNe, Int.reduceBEq, Int.reduceToNat, ↓reduceIte]) (by simp -implicitDefEqProofs only [go_sem, Nat.reduceEqDiff, Nat.reduceLT, Nat.reduceAdd, Nat.reduceMul, Int.reduceEq, Int.reduceLT, Int.reduceLE, Int.reduceNe, Int.reduceBEq, Int.reduceToNat, ↓reduceIte]) (by omega) ?_
        rw [er2]
        exact ⟨rfl, rfl⟩
      · cases hrb : rightB ⟨2, 0, upz t, false⟩ with
        | true => exact TkQ.some (by rw [e4, if_pos hrb]) hr2
        | false => exact TkQ.none (by rw [e4, if_neg (by rw [hrb]; simp)])
  have d4 : decide ((h.toNat : Int) = 4) = false := decide_eq_false (by omega)
  simp -implicitDefEqProofs only [go_sem, Nat.reduceEqDiff, Nat.reduceLT, Nat.reduceAdd, Nat.reduceMul, Int.reduceEq, Int.reduceLT, Int.reduceLE, Int.reduceNe, Int.reduceBEq, Int.reduceToNat, ↓reduceIte, d1, d2, d3, d4, l5]
  refine store_all (cs := (vc ⟨0, 0, [], false⟩).toArray) h32 rfl rfl s36 ?_
  intro HF hF gF
  have lF := ldc w0 (l := vc ⟨0, 0, [], false⟩) hF 4
  simp -implicitDefEqProofs only [go_sem, Nat.reduceEqDiff, Nat.reduceLT, Nat.reduceAdd, Nat.reduceMul, Int.reduceEq, Int.reduceLT, Int.reduceLE, Int.reduceNe, Int.reduceBEq, Int.reduceToNat, ↓reduceIte, lF]
  exact ⟨TkQ.none (tkn k1 k2 k3 k4), fin HF gF⟩
end
end Go.Proofs.YtoolnkemkhianaaDoor
