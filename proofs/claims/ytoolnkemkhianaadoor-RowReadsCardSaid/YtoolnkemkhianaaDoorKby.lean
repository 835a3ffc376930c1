/-
  key.Bytes, walked.
  Conditions: as each theorem states them.
-/
import Derived.Test.YtoolnkemkhianaaDoorEnc
namespace Go.Proofs.YtoolnkemkhianaaDoor
open Go Go.RowKit Go.Proofs.YtoolnkemkhianaaDoorW
set_option maxRecDepth 100000
set_option maxHeartbeats 1000000
set_option linter.unusedSimpArgs false
set_option linter.unusedVariables false

theorem bs1 (x : Int) : bsCells Tryd.prog 5 1 #[(0, .int .u8 x)] = some #[.int .u8 x] := by kernel_rfl
theorem bs2 (x y : Int) : bsCells Tryd.prog 5 2 #[(0, .int .u8 x), (1, .int .u8 y)] = some #[.int .u8 x, .int .u8 y] := by kernel_rfl
attribute [go_sem] bs1 bs2
/-- v is a slice of these values, to be read. -/
def Vs (w0 : World) (H : Hp) (v : Value) (l : List Va) : Prop := Rd w0 H 4 v l.length (l.flatMap vc)
theorem vc_len4 (l : List Va) : ∀ z ∈ l, (vc z).length = 4 := fun _ _ => rfl
section
variable {w0 : World} {H Hb : Hp}
theorem Vs.at {v : Value} {l : List Va} (h : Vs w0 H v l) {k : Nat} {x : Va} (hk : l[k]? = some x) : ∃ a c, v = .slice (some a) l.length c ∧ ldCells w0 H (a.add (k * 4)) 0 4 = some (vc x) := by
  obtain ⟨a, c, h1, h2⟩ := Rd.cells h (List.getElem?_eq_some_iff.1 hk).1
  exact ⟨a, c, h1, by rw [h2, flat_at vc 4 l (vc_len4 l) k x hk]⟩
theorem Vs.sub {H' : Hp} {v : Value} {l : List Va} (h : Vs w0 H v l) (hs : Sub H H') (hh : Hi w0 H') : Vs w0 H' v l := Rd.sub h hs hh
theorem Own.lit {b : Nat} {p : List UInt8} {n : Nat} (h : H b = some (.cells (u8s p).toArray 5 (0, 0))) (hn : p.length = n) : Own H (.slice (some ⟨b, 0, none⟩) n n) p := by
  subst hn
  refine ⟨by rw [u8s_len, Nat.mul_one], .inr ⟨b, p.length, (u8s p).toArray, rfl, h, Nat.le_refl _, by simp [u8s_len], ?_⟩⟩
  simp only [Nat.mul_one]
  rw [List.take_of_length_le (by rw [u8s_len]; exact Nat.le_refl _)]
variable {F : Fr} {K : Value → Hp → Prop} {dst : Option Tmp} {ty : TypeId} {pos : String} {after : Array Edge} {g : Option (Nat × Bool)}
/-- append, to bytes of its own, of bytes. -/
theorem app_b {x y : Operand} {v u : Value} {p q : List UInt8} (hx : evF F x = v) (hown : Own H v p) (hy : evF F y = u) (hq : Bt w0 H u q) (hb : p.length + q.length < 1000000000) (hf : Fsh w0 Hb v) (hs : Sub Hb H)
    (hK : ∀ r H', Own H' r (p ++ q) → Fsh w0 Hb r → Sub Hb H' → App w0 H v r H' → K r H') :
    AOp Tryd.prog w0 F ⟨dst, .call { callee := .builtin .append, args := #[x, y], argTypes := #[22, 22] }, ty, pos, after, g⟩ K H := by
  refine aop_app Tryd.underlying22 s5 b5 z5 rfl hx hown hy hq (u8s_cell q) (by simp; omega) (by omega) ?_
  intro r H' hrow happ
  obtain ⟨s2, f2⟩ := App.fresh happ hs hf
  refine hK r H' ?_ f2 s2 happ
  unfold Own
  rw [u8s_app, List.length_append]
  exact hrow
/-- append, to bytes of its own, of a string. -/
theorem app_s {x y : Operand} {v : Value} {p q : List UInt8} (hx : evF F x = v) (hown : Own H v p) (hy : evF F y = .string (str q)) (hb : p.length + q.length < 1000000000) (hf : Fsh w0 Hb v) (hs : Sub Hb H)
    (hK : ∀ r H', Own H' r (p ++ q) → Fsh w0 Hb r → Sub Hb H' → App w0 H v r H' → K r H') :
    AOp Tryd.prog w0 F ⟨dst, .call { callee := .builtin .append, args := #[x, y], argTypes := #[22, 9] }, ty, pos, after, g⟩ K H := by
  refine aop_app_str Tryd.underlying22 Tryd.underlying9 s5 b5 z5 rfl hx hown hy (by rw [str_size]; simp; omega) (by rw [str_size]; omega) ?_
  intro r H' hrow happ
  obtain ⟨s2, f2⟩ := App.fresh happ hs hf
  refine hK r H' ?_ f2 s2 happ
  unfold Own
  rw [u8s_app, List.length_append]
  rw [str_size] at hrow
  exact hrow
theorem Sub.new {A B C : Hp} {b : Nat} (hs : Sub A B) (hn : B b = none) (hg : ∀ i, i ≠ b → C i = B i) : Sub A C := fun i o hi => by
  rw [hg i (fun e => by rw [e, hs.none hn] at hi; cases hi)]; exact hs i o hi
theorem Own.ne {H : Hp} {v : Value} {p : List UInt8} {b : Nat} (h : Own H v p) (hb : H b = none) : blk v ≠ some b := fun e => by
  obtain ⟨o, ho⟩ := Row.own h e
  rw [hb] at ho; cases ho
theorem App.keep {w0 : World} {H1 H2 : Hp} {v r : Value} {b : Nat} {o : Obj} (ha : App w0 H1 v r H2) (hb : H1 b = some o) (hn : blk v ≠ some b) : H2 b = some o ∧ blk r ≠ some b := by
  have h2 : blk r ≠ some b := fun e => by
    rcases ha.1 b e with q | q
    · exact hn q.symm
    · rw [hb] at q; cases q.1
  exact ⟨(ha.2 b h2).trans hb, h2⟩
/-- What key.Bytes gives. -/
def KbQ (w0 : World) (H : Hp) (l : List Va) (r : Value) (H' : Hp) : Prop :=
  Sub H H' ∧ ((l.all rightB = true ∧ ∃ s, r = .tuple #[s, .int .i64 0] ∧ Own H' s (encR l) ∧ Fsh w0 H s) ∨ (l.all rightB = false ∧ r = .tuple #[.slice none 0 0, .int .i64 3]))
def KbI (w0 : World) (H0 : Hp) (v : Value) (l : List Va) (m : Nat) (F : Fr) (H : Hp) : Prop :=
  ∃ k, k + m = l.length ∧ F 10 = v ∧ F 11 = .int .i64 (l.length : Int) ∧ F 12 = .int .i64 (k : Int) ∧ (l.take k).all rightB = true ∧ ∃ s, F 4 = s ∧ Own H s (encR (l.take k)) ∧ Fsh w0 H0 s ∧ Sub H0 H
def KbJ (w0 : World) (H0 : Hp) (v : Value) (l : List Va) (k n : Nat) (p : List UInt8) (m : Nat) (F : Fr) (H : Hp) : Prop :=
  ∃ d, d + m = 8 ∧ F 10 = v ∧ F 11 = .int .i64 (l.length : Int) ∧ F 12 = .int .i64 (k : Int) ∧ F 8 = .int .u64 (n : Int) ∧ F 9 = .int .i64 ((7 : Int) - (d : Int)) ∧ ∃ s, F 4 = s ∧ Own H s (p ++ (be8 n).take d) ∧ Fsh w0 H0 s ∧ Sub H0 H
theorem kbytes_ok {v : Value} {l : List Va} (ht : Tbl w0) (hv : Vs w0 H v l) (hn : l.length < 1000000) (hw : ∀ x ∈ l, x.wf) : ACalls Tryd.prog w0 22 #[v] H (KbQ w0 H l) := by
  obtain ⟨va, vcap, ev, _⟩ := Rd.slice hv
  refine acalls_of Tryd.func22 rfl Tryd.ntmps22 r22 (by simp) ?_
  simp -implicitDefEqProofs only [go_sem, Nat.reduceEqDiff, Nat.reduceLT, Nat.reduceAdd, Nat.reduceMul, Int.reduceEq, Int.reduceLT, Int.reduceLE, Int.reduceNe, Int.reduceBEq, Int.reduceToNat, ↓reduceIte, ev]
  refine AC.loopH (KbI w0 H v l) (n := l.length) ⟨0, by omega, by simp -implicitDefEqProofs only [go_sem, Nat.reduceEqDiff, Nat.reduceLT, Nat.reduceAdd, Nat.reduceMul, Int.reduceEq, Int.reduceLT, Int.reduceLE, Int.reduceNe, Int.reduceBEq, Int.reduceToNat, ↓reduceIte, ev], by simp -implicitDefEqProofs only [go_sem, Nat.reduceEqDiff, Nat.reduceLT, Nat.reduceAdd, Nat.reduceMul, Int.reduceEq, Int.reduceLT, Int.reduceLE, Int.reduceNe, Int.reduceBEq, Int.reduceToNat, ↓reduceIte], by simp -implicitDefEqProofs only [go_sem, Nat.reduceEqDiff, Nat.reduceLT, Nat.reduceAdd, Nat.reduceMul, Int.reduceEq, Int.reduceLT, Int.reduceLE, Int.reduceNe, Int.reduceBEq, Int.reduceToNat, ↓reduceIte], rfl, .slice none 0 0, by simp -implicitDefEqProofs only [go_sem, Nat.reduceEqDiff, Nat.reduceLT, Nat.reduceAdd, Nat.reduceMul, Int.reduceEq, Int.reduceLT, Int.reduceLE, Int.reduceNe, Int.reduceBEq, Int.reduceToNat, ↓reduceIte], Own.nil _, fun b hb => (by simp [blk] at hb), Sub.refl _⟩ ?_
  rintro m F H1 ⟨k, hk, f10, f11, f12, hall, s, f4, hown, hf, hs⟩ hh
  by_cases ck : k < l.length
  · have d1 : decide ((k : Int) < (l.length : Int)) = true := decide_eq_true (by omega)
    have d0 : decide ((0 : Int) ≤ (k : Int)) = true := decide_eq_true (by omega)
    obtain ⟨x, hx⟩ : ∃ x, l[k]? = some x := ⟨_, List.getElem?_eq_getElem ck⟩
    obtain ⟨a, c, e1, l1⟩ := (hv.sub hs hh).at hx
    rw [e1] at f10
    simp -implicitDefEqProofs only [go_sem, Nat.reduceEqDiff, Nat.reduceLT, Nat.reduceAdd, Nat.reduceMul, Int.reduceEq, Int.reduceLT, Int.reduceLE, Int.reduceNe, Int.reduceBEq, Int.reduceToNat, ↓reduceIte, f10, f11, f12, d1, d0, l1]
    refine newK_of ?_
    intro b2 H2 hb2 hn2 h2 s2 g2
    simp -implicitDefEqProofs only [go_sem, Nat.reduceEqDiff, Nat.reduceLT, Nat.reduceAdd, Nat.reduceMul, Int.reduceEq, Int.reduceLT, Int.reduceLE, Int.reduceNe, Int.reduceBEq, Int.reduceToNat, ↓reduceIte]
    refine store_all (cs := (vc x).toArray) h2 rfl rfl s36 ?_
    intro H3 h3 g3
    have l3 := ldc w0 (l := vc x) h3 4
    have q3 := ld_own w0 h3
    have s3 : Sub H1 H3 := Sub.ne2 hn2 g2 g3
    simp -implicitDefEqProofs only [go_sem, Nat.reduceEqDiff, Nat.reduceLT, Nat.reduceAdd, Nat.reduceMul, Int.reduceEq, Int.reduceLT, Int.reduceLE, Int.reduceNe, Int.reduceBEq, Int.reduceToNat, ↓reduceIte, l3]
    refine (cright_ok ht).mono ?_
    rintro r H4 ⟨rfl, rfl⟩
    cases hr : rightB x with
    | false =>
      simp -implicitDefEqProofs only [go_sem, Nat.reduceEqDiff, Nat.reduceLT, Nat.reduceAdd, Nat.reduceMul, Int.reduceEq, Int.reduceLT, Int.reduceLE, Int.reduceNe, Int.reduceBEq, Int.reduceToNat, ↓reduceIte]
      refine ⟨hs.trans s3, .inr ⟨?_, rfl⟩⟩
      rw [List.all_eq_false]
      exact ⟨x, List.mem_of_getElem? hx, by rw [hr]; simp⟩
    | true =>
      have hall' : (l.take (k + 1)).all rightB = true := by rw [List.take_add_one, hx, List.all_append, hall]; simp [hr]
      have d2 : IntKind.i64.wrap ((k : Int) + 1) = (k + 1 : Nat) := by rw [i64_in] <;> omega
      have hlen : (encR (l.take k)).length ≤ 62 * k := by have := encR_len hall; rw [List.length_take] at this; omega
      have hxw := hw x (List.mem_of_getElem? hx)
      have hown3 := hown.sub s3
      have hs3 := hs.trans s3
      by_cases k0 : x.k = 0
      · have e0 : decide ((x.k : Int) = 0) = true := decide_eq_true (by omega)
        have he : enc x = [1] := by unfold enc; rw [if_pos k0]
        simp -implicitDefEqProofs only [go_sem, Nat.reduceEqDiff, Nat.reduceLT, Nat.reduceAdd, Nat.reduceMul, Int.reduceEq, Int.reduceLT, Int.reduceLE, Int.reduceNe, Int.reduceBEq, Int.reduceToNat, ↓reduceIte, q3, e0]
        refine newK_of ?_
        intro b5 H5 hb5 hn5 h5 s5 g5
        simp -implicitDefEqProofs only [go_sem, Nat.reduceEqDiff, Nat.reduceLT, Nat.reduceAdd, Nat.reduceMul, Int.reduceEq, Int.reduceLT, Int.reduceLE, Int.reduceNe, Int.reduceBEq, Int.reduceToNat, ↓reduceIte, f4]
        refine app_b (Hb := H) (by simp -implicitDefEqProofs only [go_sem, Nat.reduceEqDiff, Nat.reduceLT, Nat.reduceAdd, Nat.reduceMul, Int.reduceEq, Int.reduceLT, Int.reduceLE, Int.reduceNe, Int.reduceBEq, Int.reduceToNat, ↓reduceIte, f4]) (hown3.sub s5) (by simp -implicitDefEqProofs only [go_sem, Nat.reduceEqDiff, Nat.reduceLT, Nat.reduceAdd, Nat.reduceMul, Int.reduceEq, Int.reduceLT, Int.reduceLE, Int.reduceNe, Int.reduceBEq, Int.reduceToNat, ↓reduceIte]) (Own.lit (p := [1]) h5 rfl).bt (by simp; omega) hf (hs3.trans s5) ?_
        intro rr H6 ho hf' hs' _
        simp -implicitDefEqProofs only [go_sem, Nat.reduceEqDiff, Nat.reduceLT, Nat.reduceAdd, Nat.reduceMul, Int.reduceEq, Int.reduceLT, Int.reduceLE, Int.reduceNe, Int.reduceBEq, Int.reduceToNat, ↓reduceIte, f12, d2]
        rw [← he, ← encR_snoc hx] at ho
        refine ⟨m - 1, by omega, k + 1, by omega, by simp -implicitDefEqProofs only [go_sem, Nat.reduceEqDiff, Nat.reduceLT, Nat.reduceAdd, Nat.reduceMul, Int.reduceEq, Int.reduceLT, Int.reduceLE, Int.reduceNe, Int.reduceBEq, Int.reduceToNat, ↓reduceIte, f10]; exact e1.symm, by simp -implicitDefEqProofs only [go_sem, Nat.reduceEqDiff, Nat.reduceLT, Nat.reduceAdd, Nat.reduceMul, Int.reduceEq, Int.reduceLT, Int.reduceLE, Int.reduceNe, Int.reduceBEq, Int.reduceToNat, ↓reduceIte, f11], by simp -implicitDefEqProofs only [go_sem, Nat.reduceEqDiff, Nat.reduceLT, Nat.reduceAdd, Nat.reduceMul, Int.reduceEq, Int.reduceLT, Int.reduceLE, Int.reduceNe, Int.reduceBEq, Int.reduceToNat, ↓reduceIte], hall', rr, by simp -implicitDefEqProofs only [go_sem, Nat.reduceEqDiff, Nat.reduceLT, Nat.reduceAdd, Nat.reduceMul, Int.reduceEq, Int.reduceLT, Int.reduceLE, Int.reduceNe, Int.reduceBEq, Int.reduceToNat, ↓reduceIte], ho, hf', hs'⟩
      have e0 : decide ((x.k : Int) = 0) = false := decide_eq_false (by omega)
      by_cases k3 : x.k = 3
      · have e3 : decide ((x.k : Int) = 3) = true := decide_eq_true (by omega)
        cases eb : x.b with
        | true =>
          have he : enc x = [2, 1] := by unfold enc; rw [if_neg k0, if_pos k3, if_pos eb]
          simp -implicitDefEqProofs only [go_sem, Nat.reduceEqDiff, Nat.reduceLT, Nat.reduceAdd, Nat.reduceMul, Int.reduceEq, Int.reduceLT, Int.reduceLE, Int.reduceNe, Int.reduceBEq, Int.reduceToNat, ↓reduceIte, q3, e0, e3, eb]
          refine newK_of ?_
          intro b5 H5 hb5 hn5 h5 s5 g5
          simp -implicitDefEqProofs only [go_sem, Nat.reduceEqDiff, Nat.reduceLT, Nat.reduceAdd, Nat.reduceMul, Int.reduceEq, Int.reduceLT, Int.reduceLE, Int.reduceNe, Int.reduceBEq, Int.reduceToNat, ↓reduceIte, f4]
          refine app_b (Hb := H) (by simp -implicitDefEqProofs only [go_sem, Nat.reduceEqDiff, Nat.reduceLT, Nat.reduceAdd, Nat.reduceMul, Int.reduceEq, Int.reduceLT, Int.reduceLE, Int.reduceNe, Int.reduceBEq, Int.reduceToNat, ↓reduceIte, f4]) (hown3.sub s5) (by simp -implicitDefEqProofs only [go_sem, Nat.reduceEqDiff, Nat.reduceLT, Nat.reduceAdd, Nat.reduceMul, Int.reduceEq, Int.reduceLT, Int.reduceLE, Int.reduceNe, Int.reduceBEq, Int.reduceToNat, ↓reduceIte]) (Own.lit (p := [2, 1]) h5 rfl).bt (by simp; omega) hf (hs3.trans s5) ?_
          intro rr H6 ho hf' hs' _
          simp -implicitDefEqProofs only [go_sem, Nat.reduceEqDiff, Nat.reduceLT, Nat.reduceAdd, Nat.reduceMul, Int.reduceEq, Int.reduceLT, Int.reduceLE, Int.reduceNe, Int.reduceBEq, Int.reduceToNat, ↓reduceIte, f12, d2]
          rw [← he, ← encR_snoc hx] at ho
          refine ⟨m - 1, by omega, k + 1, by omega, by simp -implicitDefEqProofs only [go_sem, Nat.reduceEqDiff, Nat.reduceLT, Nat.reduceAdd, Nat.reduceMul, Int.reduceEq, Int.reduceLT, Int.reduceLE, Int.reduceNe, Int.reduceBEq, Int.reduceToNat, ↓reduceIte, f10]; exact e1.symm, by simp -implicitDefEqProofs only [go_sem, Nat.reduceEqDiff, Nat.reduceLT, Nat.reduceAdd, Nat.reduceMul, Int.reduceEq, Int.reduceLT, Int.reduceLE, Int.reduceNe, Int.reduceBEq, Int.reduceToNat, ↓reduceIte, f11], by simp -implicitDefEqProofs only [go_sem, Nat.reduceEqDiff, Nat.reduceLT, Nat.reduceAdd, Nat.reduceMul, Int.reduceEq, Int.reduceLT, Int.reduceLE, Int.reduceNe, Int.reduceBEq, Int.reduceToNat, ↓reduceIte], hall', rr, by simp -implicitDefEqProofs only [go_sem, Nat.reduceEqDiff, Nat.reduceLT, Nat.reduceAdd, Nat.reduceMul, Int.reduceEq, Int.reduceLT, Int.reduceLE, Int.reduceNe, Int.reduceBEq, Int.reduceToNat, ↓reduceIte], ho, hf', hs'⟩
        | false =>
          have he : enc x = [2, 0] := by unfold enc; rw [if_neg k0, if_pos k3, if_neg (by rw [eb]; simp)]
          simp -implicitDefEqProofs only [go_sem, Nat.reduceEqDiff, Nat.reduceLT, Nat.reduceAdd, Nat.reduceMul, Int.reduceEq, Int.reduceLT, Int.reduceLE, Int.reduceNe, Int.reduceBEq, Int.reduceToNat, ↓reduceIte, q3, e0, e3, eb]
          refine newK_of ?_
          intro b5 H5 hb5 hn5 h5 s5 g5
          simp -implicitDefEqProofs only [go_sem, Nat.reduceEqDiff, Nat.reduceLT, Nat.reduceAdd, Nat.reduceMul, Int.reduceEq, Int.reduceLT, Int.reduceLE, Int.reduceNe, Int.reduceBEq, Int.reduceToNat, ↓reduceIte, f4]
          refine app_b (Hb := H) (by simp -implicitDefEqProofs only [go_sem, Nat.reduceEqDiff, Nat.reduceLT, Nat.reduceAdd, Nat.reduceMul, Int.reduceEq, Int.reduceLT, Int.reduceLE, Int.reduceNe, Int.reduceBEq, Int.reduceToNat, ↓reduceIte, f4]) (hown3.sub s5) (by simp -implicitDefEqProofs only [go_sem, Nat.reduceEqDiff, Nat.reduceLT, Nat.reduceAdd, Nat.reduceMul, Int.reduceEq, Int.reduceLT, Int.reduceLE, Int.reduceNe, Int.reduceBEq, Int.reduceToNat, ↓reduceIte]) (Own.lit (p := [2, 0]) h5 rfl).bt (by simp; omega) hf (hs3.trans s5) ?_
          intro rr H6 ho hf' hs' _
          simp -implicitDefEqProofs only [go_sem, Nat.reduceEqDiff, Nat.reduceLT, Nat.reduceAdd, Nat.reduceMul, Int.reduceEq, Int.reduceLT, Int.reduceLE, Int.reduceNe, Int.reduceBEq, Int.reduceToNat, ↓reduceIte, f12, d2]
          rw [← he, ← encR_snoc hx] at ho
          refine ⟨m - 1, by omega, k + 1, by omega, by simp -implicitDefEqProofs only [go_sem, Nat.reduceEqDiff, Nat.reduceLT, Nat.reduceAdd, Nat.reduceMul, Int.reduceEq, Int.reduceLT, Int.reduceLE, Int.reduceNe, Int.reduceBEq, Int.reduceToNat, ↓reduceIte, f10]; exact e1.symm, by simp -implicitDefEqProofs only [go_sem, Nat.reduceEqDiff, Nat.reduceLT, Nat.reduceAdd, Nat.reduceMul, Int.reduceEq, Int.reduceLT, Int.reduceLE, Int.reduceNe, Int.reduceBEq, Int.reduceToNat, ↓reduceIte, f11], by simp -implicitDefEqProofs only [go_sem, Nat.reduceEqDiff, Nat.reduceLT, Nat.reduceAdd, Nat.reduceMul, Int.reduceEq, Int.reduceLT, Int.reduceLE, Int.reduceNe, Int.reduceBEq, Int.reduceToNat, ↓reduceIte], hall', rr, by simp -implicitDefEqProofs only [go_sem, Nat.reduceEqDiff, Nat.reduceLT, Nat.reduceAdd, Nat.reduceMul, Int.reduceEq, Int.reduceLT, Int.reduceLE, Int.reduceNe, Int.reduceBEq, Int.reduceToNat, ↓reduceIte], ho, hf', hs'⟩
      have e3 : decide ((x.k : Int) = 3) = false := decide_eq_false (by omega)
      by_cases k1 : x.k = 1
      · have e1' : decide ((x.k : Int) = 1) = true := decide_eq_true (by omega)
        have he : enc x = 3 :: be8 (kn x.i) := by unfold enc; rw [if_neg k0, if_neg k3, if_pos k1]
        have hx1 := xor_law hxw.2.1 hxw.2.2
        simp -implicitDefEqProofs only [go_sem, Nat.reduceEqDiff, Nat.reduceLT, Nat.reduceAdd, Nat.reduceMul, Int.reduceEq, Int.reduceLT, Int.reduceLE, Int.reduceNe, Int.reduceBEq, Int.reduceToNat, ↓reduceIte, q3, e0, e3, e1']
        refine newK_of ?_
        intro b5 H5 hb5 hn5 h5 s5 g5
        have q5 := ld_own w0 (s5 _ _ h3)
        simp -implicitDefEqProofs only [go_sem, Nat.reduceEqDiff, Nat.reduceLT, Nat.reduceAdd, Nat.reduceMul, Int.reduceEq, Int.reduceLT, Int.reduceLE, Int.reduceNe, Int.reduceBEq, Int.reduceToNat, ↓reduceIte, f4]
        refine app_b (Hb := H) (by simp -implicitDefEqProofs only [go_sem, Nat.reduceEqDiff, Nat.reduceLT, Nat.reduceAdd, Nat.reduceMul, Int.reduceEq, Int.reduceLT, Int.reduceLE, Int.reduceNe, Int.reduceBEq, Int.reduceToNat, ↓reduceIte, f4]) (hown3.sub s5) (by simp -implicitDefEqProofs only [go_sem, Nat.reduceEqDiff, Nat.reduceLT, Nat.reduceAdd, Nat.reduceMul, Int.reduceEq, Int.reduceLT, Int.reduceLE, Int.reduceNe, Int.reduceBEq, Int.reduceToNat, ↓reduceIte]) (Own.lit (p := [3]) h5 rfl).bt (by simp; omega) hf (hs3.trans s5) ?_
        intro rr H6 ho hf' hs' ha'
        obtain ⟨h36, _⟩ := App.keep ha' (s5 _ _ h3) (hown.ne hn2)
        have q6 := ld_own w0 h36
        simp -implicitDefEqProofs only [go_sem, Nat.reduceEqDiff, Nat.reduceLT, Nat.reduceAdd, Nat.reduceMul, Int.reduceEq, Int.reduceLT, Int.reduceLE, Int.reduceNe, Int.reduceBEq, Int.reduceToNat, ↓reduceIte, q6, hx1]
        refine AC.loop (KbJ w0 H v l k (kn x.i) (encR (l.take k) ++ [3])) (n := 8) ⟨0, by omega, by simp -implicitDefEqProofs only [go_sem, Nat.reduceEqDiff, Nat.reduceLT, Nat.reduceAdd, Nat.reduceMul, Int.reduceEq, Int.reduceLT, Int.reduceLE, Int.reduceNe, Int.reduceBEq, Int.reduceToNat, ↓reduceIte, f10]; exact e1.symm, by simp -implicitDefEqProofs only [go_sem, Nat.reduceEqDiff, Nat.reduceLT, Nat.reduceAdd, Nat.reduceMul, Int.reduceEq, Int.reduceLT, Int.reduceLE, Int.reduceNe, Int.reduceBEq, Int.reduceToNat, ↓reduceIte, f11], by simp -implicitDefEqProofs only [go_sem, Nat.reduceEqDiff, Nat.reduceLT, Nat.reduceAdd, Nat.reduceMul, Int.reduceEq, Int.reduceLT, Int.reduceLE, Int.reduceNe, Int.reduceBEq, Int.reduceToNat, ↓reduceIte, f12], by simp -implicitDefEqProofs only [go_sem, Nat.reduceEqDiff, Nat.reduceLT, Nat.reduceAdd, Nat.reduceMul, Int.reduceEq, Int.reduceLT, Int.reduceLE, Int.reduceNe, Int.reduceBEq, Int.reduceToNat, ↓reduceIte], by simp -implicitDefEqProofs only [go_sem, Nat.reduceEqDiff, Nat.reduceLT, Nat.reduceAdd, Nat.reduceMul, Int.reduceEq, Int.reduceLT, Int.reduceLE, Int.reduceNe, Int.reduceBEq, Int.reduceToNat, ↓reduceIte]; rfl, rr, by simp -implicitDefEqProofs only [go_sem, Nat.reduceEqDiff, Nat.reduceLT, Nat.reduceAdd, Nat.reduceMul, Int.reduceEq, Int.reduceLT, Int.reduceLE, Int.reduceNe, Int.reduceBEq, Int.reduceToNat, ↓reduceIte], by simpa using ho, hf', hs'⟩ ?_
        clear f4 f10 f11 f12 ho hf' hs'
        rintro m2 F H7 ⟨d, hd, f10, f11, f12, f8, f9, s7, f4, hown7, hf7, hs7⟩
        by_cases cd : d < 8
        · have c1 : decide ((0 : Int) ≤ (7 : Int) - (d : Int)) = true := decide_eq_true (by omega)
          have w8 : IntKind.i64.wrap (8 * ((7 : Int) - (d : Int))) = ((8 * (7 - d) : Nat) : Int) := by rw [i64_in] <;> omega
          have c2 : decide ((0 : Int) ≤ ((8 * (7 - d) : Nat) : Int)) = true := decide_eq_true (by omega)
          have w9 : IntKind.i64.wrap ((7 : Int) - (d : Int) - 1) = (7 : Int) - ((d + 1 : Nat) : Int) := by rw [i64_in] <;> omega
          have wb : IntKind.u64.bits = 64 := rfl
          have ws := shr_law (kn x.i) (7 - d) (by omega)
          simp -implicitDefEqProofs only [go_sem, Nat.reduceEqDiff, Nat.reduceLT, Nat.reduceAdd, Nat.reduceMul, Int.reduceEq, Int.reduceLT, Int.reduceLE, Int.reduceNe, Int.reduceBEq, Int.reduceToNat, ↓reduceIte, f4, f8, f9, f10, f11, f12, c1, w8, c2, wb, ws]
          refine newK_of ?_
          intro b8 H8 hb8 hn8 h8 s8 g8
          simp -implicitDefEqProofs only [go_sem, Nat.reduceEqDiff, Nat.reduceLT, Nat.reduceAdd, Nat.reduceMul, Int.reduceEq, Int.reduceLT, Int.reduceLE, Int.reduceNe, Int.reduceBEq, Int.reduceToNat, ↓reduceIte]
          have hl8 : ((be8 (kn x.i)).take d).length ≤ 8 := by rw [List.length_take, be8_len]; omega
          refine app_b (Hb := H) (by simp -implicitDefEqProofs only [go_sem, Nat.reduceEqDiff, Nat.reduceLT, Nat.reduceAdd, Nat.reduceMul, Int.reduceEq, Int.reduceLT, Int.reduceLE, Int.reduceNe, Int.reduceBEq, Int.reduceToNat, ↓reduceIte, f4]) (hown7.sub s8) (by simp -implicitDefEqProofs only [go_sem, Nat.reduceEqDiff, Nat.reduceLT, Nat.reduceAdd, Nat.reduceMul, Int.reduceEq, Int.reduceLT, Int.reduceLE, Int.reduceNe, Int.reduceBEq, Int.reduceToNat, ↓reduceIte]) (Own.lit (p := [UInt8.ofNat (kn x.i / 256 ^ (7 - d))]) h8 rfl).bt (by simp only [List.length_append, List.length_singleton]; omega) hf7 (hs7.trans s8) ?_
          intro r9 H9 ho9 hf9 hs9 _
          have h9 : (be8 (kn x.i)).take (d + 1) = (be8 (kn x.i)).take d ++ [UInt8.ofNat (kn x.i / 256 ^ (7 - d))] := by rw [List.take_add_one, be8_at _ _ cd]; rfl
          rw [List.append_assoc, ← h9] at ho9
          simp -implicitDefEqProofs only [go_sem, Nat.reduceEqDiff, Nat.reduceLT, Nat.reduceAdd, Nat.reduceMul, Int.reduceEq, Int.reduceLT, Int.reduceLE, Int.reduceNe, Int.reduceBEq, Int.reduceToNat, ↓reduceIte, f4, f8, f9, f10, f11, f12, w9]
          exact ⟨m2 - 1, by omega, d + 1, by omega, by simp -implicitDefEqProofs only [go_sem, Nat.reduceEqDiff, Nat.reduceLT, Nat.reduceAdd, Nat.reduceMul, Int.reduceEq, Int.reduceLT, Int.reduceLE, Int.reduceNe, Int.reduceBEq, Int.reduceToNat, ↓reduceIte, f10], by simp -implicitDefEqProofs only [go_sem, Nat.reduceEqDiff, Nat.reduceLT, Nat.reduceAdd, Nat.reduceMul, Int.reduceEq, Int.reduceLT, Int.reduceLE, Int.reduceNe, Int.reduceBEq, Int.reduceToNat, ↓reduceIte, f11], by simp -implicitDefEqProofs only [go_sem, Nat.reduceEqDiff, Nat.reduceLT, Nat.reduceAdd, Nat.reduceMul, Int.reduceEq, Int.reduceLT, Int.reduceLE, Int.reduceNe, Int.reduceBEq, Int.reduceToNat, ↓reduceIte, f12], by simp -implicitDefEqProofs only [go_sem, Nat.reduceEqDiff, Nat.reduceLT, Nat.reduceAdd, Nat.reduceMul, Int.reduceEq, Int.reduceLT, Int.reduceLE, Int.reduceNe, Int.reduceBEq, Int.reduceToNat, ↓reduceIte, f8], by simp -implicitDefEqProofs only [go_sem, Nat.reduceEqDiff, Nat.reduceLT, Nat.reduceAdd, Nat.reduceMul, Int.reduceEq, Int.reduceLT, Int.reduceLE, Int.reduceNe, Int.reduceBEq, Int.reduceToNat, ↓reduceIte], r9, by simp -implicitDefEqProofs only [go_sem, Nat.reduceEqDiff, Nat.reduceLT, Nat.reduceAdd, Nat.reduceMul, Int.reduceEq, Int.reduceLT, Int.reduceLE, Int.reduceNe, Int.reduceBEq, Int.reduceToNat, ↓reduceIte], ho9, hf9, hs9⟩
        · have c1 : decide ((0 : Int) ≤ (7 : Int) - (d : Int)) = false := decide_eq_false (by omega)
          simp -implicitDefEqProofs only [go_sem, Nat.reduceEqDiff, Nat.reduceLT, Nat.reduceAdd, Nat.reduceMul, Int.reduceEq, Int.reduceLT, Int.reduceLE, Int.reduceNe, Int.reduceBEq, Int.reduceToNat, ↓reduceIte, f4, f8, f9, f10, f11, f12, c1, d2]
          have h8 : (be8 (kn x.i)).take d = be8 (kn x.i) := List.take_of_length_le (by rw [be8_len]; omega)
          rw [h8, List.append_assoc] at hown7
          have ho : Own H7 s7 (encR (l.take k) ++ enc x) := by rw [he]; exact hown7
          have hf' := hf7
          have hs' := hs7
          rw [← encR_snoc hx] at ho
          exact ⟨m - 1, by omega, k + 1, by omega, by simp -implicitDefEqProofs only [go_sem, Nat.reduceEqDiff, Nat.reduceLT, Nat.reduceAdd, Nat.reduceMul, Int.reduceEq, Int.reduceLT, Int.reduceLE, Int.reduceNe, Int.reduceBEq, Int.reduceToNat, ↓reduceIte, f10], by simp -implicitDefEqProofs only [go_sem, Nat.reduceEqDiff, Nat.reduceLT, Nat.reduceAdd, Nat.reduceMul, Int.reduceEq, Int.reduceLT, Int.reduceLE, Int.reduceNe, Int.reduceBEq, Int.reduceToNat, ↓reduceIte, f11], by simp -implicitDefEqProofs only [go_sem, Nat.reduceEqDiff, Nat.reduceLT, Nat.reduceAdd, Nat.reduceMul, Int.reduceEq, Int.reduceLT, Int.reduceLE, Int.reduceNe, Int.reduceBEq, Int.reduceToNat, ↓reduceIte], hall', s7, by simp -implicitDefEqProofs only [go_sem, Nat.reduceEqDiff, Nat.reduceLT, Nat.reduceAdd, Nat.reduceMul, Int.reduceEq, Int.reduceLT, Int.reduceLE, Int.reduceNe, Int.reduceBEq, Int.reduceToNat, ↓reduceIte, f4], ho, hf', hs'⟩
      have e1' : decide ((x.k : Int) = 1) = false := decide_eq_false (by omega)
      have he : enc x = 4 :: (x.s ++ [0]) := by unfold enc; rw [if_neg k0, if_neg k3, if_neg k1]
      simp -implicitDefEqProofs only [go_sem, Nat.reduceEqDiff, Nat.reduceLT, Nat.reduceAdd, Nat.reduceMul, Int.reduceEq, Int.reduceLT, Int.reduceLE, Int.reduceNe, Int.reduceBEq, Int.reduceToNat, ↓reduceIte, q3, e0, e3, e1']
      refine vdraw_t [⟨0, .p, [], []⟩, ⟨3, .p, [], []⟩, ⟨4, .n, [], []⟩, ⟨1, .c, [4], []⟩, ⟨2, .c, [4], []⟩, ⟨5, .c, [], []⟩, ⟨6, .a, [], []⟩, ⟨7, .c, [], []⟩, ⟨8, .p, [], []⟩] [0, 0, 3, 0, 8, 31, 0, 127, 255] mixed (by kernel_rfl) ?_
      simp -implicitDefEqProofs only [go_sem, Nat.reduceEqDiff, Nat.reduceLT, Nat.reduceAdd, Nat.reduceMul, Int.reduceEq, Int.reduceLT, Int.reduceLE, Int.reduceNe, Int.reduceBEq, Int.reduceToNat, ↓reduceIte, q3, f4]
      refine newK_of ?_
      intro b5 H5 hb5 hn5 h5 s5 g5
      have q5 := ld_own w0 (s5 _ _ h3)
      simp -implicitDefEqProofs only [go_sem, Nat.reduceEqDiff, Nat.reduceLT, Nat.reduceAdd, Nat.reduceMul, Int.reduceEq, Int.reduceLT, Int.reduceLE, Int.reduceNe, Int.reduceBEq, Int.reduceToNat, ↓reduceIte, q5]
      refine app_b (Hb := H) (by simp -implicitDefEqProofs only [go_sem, Nat.reduceEqDiff, Nat.reduceLT, Nat.reduceAdd, Nat.reduceMul, Int.reduceEq, Int.reduceLT, Int.reduceLE, Int.reduceNe, Int.reduceBEq, Int.reduceToNat, ↓reduceIte, f4]) (hown3.sub s5) (by simp -implicitDefEqProofs only [go_sem, Nat.reduceEqDiff, Nat.reduceLT, Nat.reduceAdd, Nat.reduceMul, Int.reduceEq, Int.reduceLT, Int.reduceLE, Int.reduceNe, Int.reduceBEq, Int.reduceToNat, ↓reduceIte]) (Own.lit (p := [4]) h5 rfl).bt (by simp; omega) hf (hs3.trans s5) ?_
      intro r6 H6 ho6 hf6 hs6 ha6
      obtain ⟨h36, n36⟩ := App.keep ha6 (s5 _ _ h3) (hown.ne hn2)
      have q6 := ld_own w0 h36
      simp -implicitDefEqProofs only [go_sem, Nat.reduceEqDiff, Nat.reduceLT, Nat.reduceAdd, Nat.reduceMul, Int.reduceEq, Int.reduceLT, Int.reduceLE, Int.reduceNe, Int.reduceBEq, Int.reduceToNat, ↓reduceIte, q5, q6]
      have h60 : x.s.length ≤ 60 := by
        unfold rightB at hr
        simp only [Bool.and_eq_true, decide_eq_true_eq] at hr
        exact hr.2.2.1
      refine app_s (Hb := H) (q := x.s) (by simp -implicitDefEqProofs only [go_sem, Nat.reduceEqDiff, Nat.reduceLT, Nat.reduceAdd, Nat.reduceMul, Int.reduceEq, Int.reduceLT, Int.reduceLE, Int.reduceNe, Int.reduceBEq, Int.reduceToNat, ↓reduceIte]) ho6 (by simp -implicitDefEqProofs only [go_sem, Nat.reduceEqDiff, Nat.reduceLT, Nat.reduceAdd, Nat.reduceMul, Int.reduceEq, Int.reduceLT, Int.reduceLE, Int.reduceNe, Int.reduceBEq, Int.reduceToNat, ↓reduceIte]) (by simp only [List.length_append, List.length_singleton]; omega) hf6 hs6 ?_
      intro r7 H7 ho7 hf7 hs7 ha7
      simp -implicitDefEqProofs only [go_sem, Nat.reduceEqDiff, Nat.reduceLT, Nat.reduceAdd, Nat.reduceMul, Int.reduceEq, Int.reduceLT, Int.reduceLE, Int.reduceNe, Int.reduceBEq, Int.reduceToNat, ↓reduceIte]
      refine newK_of ?_
      intro b8 H8 hb8 hn8 h8 s8 g8
      simp -implicitDefEqProofs only [go_sem, Nat.reduceEqDiff, Nat.reduceLT, Nat.reduceAdd, Nat.reduceMul, Int.reduceEq, Int.reduceLT, Int.reduceLE, Int.reduceNe, Int.reduceBEq, Int.reduceToNat, ↓reduceIte]
      refine app_b (Hb := H) (by simp -implicitDefEqProofs only [go_sem, Nat.reduceEqDiff, Nat.reduceLT, Nat.reduceAdd, Nat.reduceMul, Int.reduceEq, Int.reduceLT, Int.reduceLE, Int.reduceNe, Int.reduceBEq, Int.reduceToNat, ↓reduceIte]) (ho7.sub s8) (by simp -implicitDefEqProofs only [go_sem, Nat.reduceEqDiff, Nat.reduceLT, Nat.reduceAdd, Nat.reduceMul, Int.reduceEq, Int.reduceLT, Int.reduceLE, Int.reduceNe, Int.reduceBEq, Int.reduceToNat, ↓reduceIte]) (Own.lit (p := [0]) h8 rfl).bt (by simp only [List.length_append, List.length_singleton]; omega) hf7 (hs7.trans s8) ?_
      intro rr H9 ho hf' hs' _
      have e9 : encR (l.take k) ++ [4] ++ x.s ++ [0] = encR (l.take k) ++ (4 :: (x.s ++ [0])) := by simp
      rw [e9] at ho
      simp -implicitDefEqProofs only [go_sem, Nat.reduceEqDiff, Nat.reduceLT, Nat.reduceAdd, Nat.reduceMul, Int.reduceEq, Int.reduceLT, Int.reduceLE, Int.reduceNe, Int.reduceBEq, Int.reduceToNat, ↓reduceIte, f12, d2]
      rw [← he, ← encR_snoc hx] at ho
      refine ⟨m - 1, by omega, k + 1, by omega, by simp -implicitDefEqProofs only [go_sem, Nat.reduceEqDiff, Nat.reduceLT, Nat.reduceAdd, Nat.reduceMul, Int.reduceEq, Int.reduceLT, Int.reduceLE, Int.reduceNe, Int.reduceBEq, Int.reduceToNat, ↓reduceIte, f10]; exact e1.symm, by simp -implicitDefEqProofs only [go_sem, Nat.reduceEqDiff, Nat.reduceLT, Nat.reduceAdd, Nat.reduceMul, Int.reduceEq, Int.reduceLT, Int.reduceLE, Int.reduceNe, Int.reduceBEq, Int.reduceToNat, ↓reduceIte, f11], by simp -implicitDefEqProofs only [go_sem, Nat.reduceEqDiff, Nat.reduceLT, Nat.reduceAdd, Nat.reduceMul, Int.reduceEq, Int.reduceLT, Int.reduceLE, Int.reduceNe, Int.reduceBEq, Int.reduceToNat, ↓reduceIte], hall', rr, by simp -implicitDefEqProofs only [go_sem, Nat.reduceEqDiff, Nat.reduceLT, Nat.reduceAdd, Nat.reduceMul, Int.reduceEq, Int.reduceLT, Int.reduceLE, Int.reduceNe, Int.reduceBEq, Int.reduceToNat, ↓reduceIte], ho, hf', hs'⟩
  · have d1 : decide ((k : Int) < (l.length : Int)) = false := decide_eq_false (by omega)
    simp -implicitDefEqProofs only [go_sem, Nat.reduceEqDiff, Nat.reduceLT, Nat.reduceAdd, Nat.reduceMul, Int.reduceEq, Int.reduceLT, Int.reduceLE, Int.reduceNe, Int.reduceBEq, Int.reduceToNat, ↓reduceIte, f11, f12, d1, f4]
    have : l.take k = l := List.take_of_length_le (by omega)
    rw [this] at hall hown
    exact ⟨hs, .inl ⟨hall, s, rfl, hown, hf⟩⟩
end
end Go.Proofs.YtoolnkemkhianaaDoor
