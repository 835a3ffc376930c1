/-
  Kinds; what fits: the program's and the document's, walked.
  Conditions: as each theorem states them.
-/
import Derived.Test.YtoolnkemkhianaaDoorRwp
import Derived.Test.YtoolnkemkhianaaDoorAw3
namespace Go.Proofs.YtoolnkemkhianaaDoor
open Go Go.RowKit Go.Proofs.YtoolnkemkhianaaDoorW
set_option maxRecDepth 100000
set_option maxHeartbeats 1000000
set_option linter.unusedSimpArgs false
set_option linter.unusedVariables false
theorem u8s_ix {p : List UInt8} {k : Nat} {b : UInt8} (h : p[k]? = some b) : (u8s p)[k]? = some (.int .u8 (b.toNat : Int)) := by unfold u8s; rw [List.getElem?_map, h]; rfl
theorem bsk1 (x : Int) : bsCells Tryd.prog 34 1 #[(0, .int .u8 x)] = some #[.int .u8 x] := by kernel_rfl
theorem bsk2 (x y : Int) : bsCells Tryd.prog 34 2 #[(0, .int .u8 x), (1, .int .u8 y)] = some #[.int .u8 x, .int .u8 y] := by kernel_rfl
attribute [go_sem] bsk1 bsk2
def OwnK (H : Hp) (v : Value) (p : List UInt8) : Prop := Row H 34 1 v p.length (u8s p)
section
variable {w0 : World} {H Hb : Hp}
theorem OwnK.bt {v : Value} {p : List UInt8} (h : OwnK H v p) : Bt w0 H v p := Row.rd h
theorem OwnK.sub {H' : Hp} {v : Value} {p : List UInt8} (h : OwnK H v p) (hs : Sub H H') : OwnK H' v p := Row.keep h fun b o _ hb => hs b o hb
theorem OwnK.lit {b : Nat} {p : List UInt8} {n : Nat} (h : H b = some (.cells (u8s p).toArray 34 (0, 0))) (hn : p.length = n) : OwnK H (.slice (some ⟨b, 0, none⟩) n n) p := by
  subst hn
  refine ⟨by rw [u8s_len, Nat.mul_one], .inr ⟨b, p.length, (u8s p).toArray, rfl, h, Nat.le_refl _, by simp [u8s_len], ?_⟩⟩
  simp only [Nat.mul_one]
  rw [List.take_of_length_le (by rw [u8s_len]; exact Nat.le_refl _)]
variable {F : Fr} {K : Value → Hp → Prop} {dst : Option Tmp} {ty : TypeId} {pos : String} {after : Array Edge} {g : Option (Nat × Bool)}
theorem app_k {x y : Operand} {v u : Value} {p q : List UInt8} (hx : evF F x = v) (hown : OwnK H v p) (hy : evF F y = u) (hq : Bt w0 H u q) (hb : p.length + q.length < 1000000000) (hf : Fsh w0 Hb v) (hs : Sub Hb H)
    (hK : ∀ r H', OwnK H' r (p ++ q) → Fsh w0 Hb r → Sub Hb H' → App w0 H v r H' → K r H') :
    AOp Tryd.prog w0 F ⟨dst, .call { callee := .builtin .append, args := #[x, y], argTypes := #[49, 49] }, ty, pos, after, g⟩ K H := by
  refine aop_app Tryd.underlying49 s34 b34 z34 rfl hx hown hy hq (u8s_cell q) (by omega) (by omega) ?_
  intro r H' hrow happ
  obtain ⟨s2, f2⟩ := App.fresh happ hs hf
  refine hK r H' ?_ f2 s2 happ
  unfold OwnK
  rw [u8s_app, List.length_append]
  exact hrow
/-! ### kinds -/
def KdI (w0 : World) (H0 : Hp) (v : Value) (l : List UInt8) (m : Nat) (F : Fr) (H : Hp) : Prop :=
  ∃ k, k + m = l.length ∧ F 6 = v ∧ F 7 = .int .i64 (l.length : Int) ∧ F 8 = .int .i64 (k : Int) ∧ ∃ s, F 3 = s ∧ OwnK H s ((l.take k).take 12) ∧ Fsh w0 H0 s ∧ Sub H0 H
theorem kinds_ok {v : Value} {l : List UInt8} (hv : Bt w0 H v l) (hn : l.length ≤ 9223372036854775807) : ACalls Tryd.prog w0 33 #[v] H fun r H' => OwnK H' r (l.take 12) ∧ Fsh w0 H r ∧ Sub H H' := by
  obtain ⟨va', vcap, ev, _⟩ := Rd.slice hv
  subst ev
  refine acalls_of Tryd.func33 rfl Tryd.ntmps33 r33 (by simp) ?_
  simp -implicitDefEqProofs only [go_sem, Nat.reduceEqDiff, Nat.reduceLT, Nat.reduceAdd, Nat.reduceMul, Int.reduceEq, Int.reduceLT, Int.reduceLE, Int.reduceNe, Int.reduceBEq, Int.reduceToNat, ↓reduceIte]
  refine AC.loopH (KdI w0 H (.slice va' l.length vcap) l) (n := l.length) ⟨0, by omega, by simp -implicitDefEqProofs only [go_sem, Nat.reduceEqDiff, Nat.reduceLT, Nat.reduceAdd, Nat.reduceMul, Int.reduceEq, Int.reduceLT, Int.reduceLE, Int.reduceNe, Int.reduceBEq, Int.reduceToNat, ↓reduceIte], by simp -implicitDefEqProofs only [go_sem, Nat.reduceEqDiff, Nat.reduceLT, Nat.reduceAdd, Nat.reduceMul, Int.reduceEq, Int.reduceLT, Int.reduceLE, Int.reduceNe, Int.reduceBEq, Int.reduceToNat, ↓reduceIte], by simp -implicitDefEqProofs only [go_sem, Nat.reduceEqDiff, Nat.reduceLT, Nat.reduceAdd, Nat.reduceMul, Int.reduceEq, Int.reduceLT, Int.reduceLE, Int.reduceNe, Int.reduceBEq, Int.reduceToNat, ↓reduceIte] <;> rfl, .slice none 0 0, by simp -implicitDefEqProofs only [go_sem, Nat.reduceEqDiff, Nat.reduceLT, Nat.reduceAdd, Nat.reduceMul, Int.reduceEq, Int.reduceLT, Int.reduceLE, Int.reduceNe, Int.reduceBEq, Int.reduceToNat, ↓reduceIte], Row.nil _ _ _, fun b hb => (by simp [blk] at hb), Sub.refl _⟩ ?_
  rintro m F H1 ⟨k, hk, f6, f7, f8, s, f3, hown, hf, hs⟩ hh
  by_cases ck : k < l.length
  · have d1 : decide ((k : Int) < (l.length : Int)) = true := decide_eq_true (by omega)
    have d0 : decide ((0 : Int) ≤ (k : Int)) = true := decide_eq_true (by omega)
    have d2 : IntKind.i64.wrap ((k : Int) + 1) = (k + 1 : Nat) := by rw [i64_in] <;> omega
    obtain ⟨b, hb⟩ : ∃ b, l[k]? = some b := ⟨_, List.getElem?_eq_getElem ck⟩
    obtain ⟨a, c, ea, la⟩ := Rd.at1 (hv.sub hs hh) (u8s_ix hb)
    have ea' : va' = some a := by injection ea
    rw [ea'] at f6
    by_cases c12 : k < 12
    · have d12 : decide ((k : Int) < 12) = true := decide_eq_true (by omega)
      simp -implicitDefEqProofs only [go_sem, Nat.reduceEqDiff, Nat.reduceLT, Nat.reduceAdd, Nat.reduceMul, Int.reduceEq, Int.reduceLT, Int.reduceLE, Int.reduceNe, Int.reduceBEq, Int.reduceToNat, ↓reduceIte, f3, f6, f7, f8, d0, d1, la, d12]
      refine newK_of ?_
      intro bx H2 hbx hnx hx sx gx
      simp -implicitDefEqProofs only [go_sem, Nat.reduceEqDiff, Nat.reduceLT, Nat.reduceAdd, Nat.reduceMul, Int.reduceEq, Int.reduceLT, Int.reduceLE, Int.reduceNe, Int.reduceBEq, Int.reduceToNat, ↓reduceIte, f3]
      refine app_k (Hb := H) (by simp -implicitDefEqProofs only [go_sem, Nat.reduceEqDiff, Nat.reduceLT, Nat.reduceAdd, Nat.reduceMul, Int.reduceEq, Int.reduceLT, Int.reduceLE, Int.reduceNe, Int.reduceBEq, Int.reduceToNat, ↓reduceIte, f3]) (hown.sub sx) (by simp -implicitDefEqProofs only [go_sem, Nat.reduceEqDiff, Nat.reduceLT, Nat.reduceAdd, Nat.reduceMul, Int.reduceEq, Int.reduceLT, Int.reduceLE, Int.reduceNe, Int.reduceBEq, Int.reduceToNat, ↓reduceIte]) (OwnK.lit (p := [b]) hx rfl).bt (by simp only [List.length_take, List.length_singleton]; omega) hf (hs.trans sx) ?_
      intro r3 H3 o3 f3' s3 _
      have e : (l.take k).take 12 ++ [b] = (l.take (k + 1)).take 12 := by
        rw [List.take_take, List.take_take, Nat.min_eq_right (by omega), Nat.min_eq_right (by omega), List.take_add_one, hb]; rfl
      rw [e] at o3
      simp -implicitDefEqProofs only [go_sem, Nat.reduceEqDiff, Nat.reduceLT, Nat.reduceAdd, Nat.reduceMul, Int.reduceEq, Int.reduceLT, Int.reduceLE, Int.reduceNe, Int.reduceBEq, Int.reduceToNat, ↓reduceIte, f8, d2]
      exact ⟨m - 1, by omega, k + 1, by omega, by simp -implicitDefEqProofs only [go_sem, Nat.reduceEqDiff, Nat.reduceLT, Nat.reduceAdd, Nat.reduceMul, Int.reduceEq, Int.reduceLT, Int.reduceLE, Int.reduceNe, Int.reduceBEq, Int.reduceToNat, ↓reduceIte, f6]; rw [ea'], by simp -implicitDefEqProofs only [go_sem, Nat.reduceEqDiff, Nat.reduceLT, Nat.reduceAdd, Nat.reduceMul, Int.reduceEq, Int.reduceLT, Int.reduceLE, Int.reduceNe, Int.reduceBEq, Int.reduceToNat, ↓reduceIte, f7], by simp -implicitDefEqProofs only [go_sem, Nat.reduceEqDiff, Nat.reduceLT, Nat.reduceAdd, Nat.reduceMul, Int.reduceEq, Int.reduceLT, Int.reduceLE, Int.reduceNe, Int.reduceBEq, Int.reduceToNat, ↓reduceIte], r3, by simp -implicitDefEqProofs only [go_sem, Nat.reduceEqDiff, Nat.reduceLT, Nat.reduceAdd, Nat.reduceMul, Int.reduceEq, Int.reduceLT, Int.reduceLE, Int.reduceNe, Int.reduceBEq, Int.reduceToNat, ↓reduceIte], o3, f3', s3⟩
    · have d12 : decide ((k : Int) < 12) = false := decide_eq_false (by omega)
      have e : (l.take k).take 12 = (l.take (k + 1)).take 12 := by
        rw [List.take_take, List.take_take, Nat.min_eq_left (by omega), Nat.min_eq_left (by omega)]
      rw [e] at hown
      simp -implicitDefEqProofs only [go_sem, Nat.reduceEqDiff, Nat.reduceLT, Nat.reduceAdd, Nat.reduceMul, Int.reduceEq, Int.reduceLT, Int.reduceLE, Int.reduceNe, Int.reduceBEq, Int.reduceToNat, ↓reduceIte, f3, f6, f7, f8, d0, d1, la, d12, d2]
      exact ⟨m - 1, by omega, k + 1, by omega, by simp -implicitDefEqProofs only [go_sem, Nat.reduceEqDiff, Nat.reduceLT, Nat.reduceAdd, Nat.reduceMul, Int.reduceEq, Int.reduceLT, Int.reduceLE, Int.reduceNe, Int.reduceBEq, Int.reduceToNat, ↓reduceIte, f6]; rw [ea'], by simp -implicitDefEqProofs only [go_sem, Nat.reduceEqDiff, Nat.reduceLT, Nat.reduceAdd, Nat.reduceMul, Int.reduceEq, Int.reduceLT, Int.reduceLE, Int.reduceNe, Int.reduceBEq, Int.reduceToNat, ↓reduceIte, f7], by simp -implicitDefEqProofs only [go_sem, Nat.reduceEqDiff, Nat.reduceLT, Nat.reduceAdd, Nat.reduceMul, Int.reduceEq, Int.reduceLT, Int.reduceLE, Int.reduceNe, Int.reduceBEq, Int.reduceToNat, ↓reduceIte], s, by simp -implicitDefEqProofs only [go_sem, Nat.reduceEqDiff, Nat.reduceLT, Nat.reduceAdd, Nat.reduceMul, Int.reduceEq, Int.reduceLT, Int.reduceLE, Int.reduceNe, Int.reduceBEq, Int.reduceToNat, ↓reduceIte, f3], hown, hf, hs⟩
  · have d1 : decide ((k : Int) < (l.length : Int)) = false := decide_eq_false (by omega)
    simp -implicitDefEqProofs only [go_sem, Nat.reduceEqDiff, Nat.reduceLT, Nat.reduceAdd, Nat.reduceMul, Int.reduceEq, Int.reduceLT, Int.reduceLE, Int.reduceNe, Int.reduceBEq, Int.reduceToNat, ↓reduceIte, f3, f7, f8, d1]
    have e : (l.take k).take 12 = l.take 12 := by rw [List.take_of_length_le (show l.length ≤ k by omega)]
    rw [e] at hown
    exact ⟨hown, hf, hs⟩
/-! ### May these be kinds? -/
theorem bad_ok {k : UInt8} : ACalls Tryd.prog w0 54 #[.int .u8 (k.toNat : Int)] H fun r H' => r = .bool (!kindOk k) ∧ H' = H := by
  refine acalls_of Tryd.func54 rfl Tryd.ntmps54 r54 (by simp) ?_
  unfold kindOk
  by_cases k0 : k.toNat = 0
  · have d0 : decide ((k.toNat : Int) = 0) = true := decide_eq_true (by omega)
    rw [decide_eq_false (show ¬ 1 ≤ k.toNat by omega)]
    simp -implicitDefEqProofs only [go_sem, Nat.reduceEqDiff, Nat.reduceLT, Nat.reduceAdd, Nat.reduceMul, Int.reduceEq, Int.reduceLT, Int.reduceLE, Int.reduceNe, Int.reduceBEq, Int.reduceToNat, ↓reduceIte, d0]
  · have d0 : decide ((k.toNat : Int) = 0) = false := decide_eq_false (by omega)
    rw [decide_eq_true (show 1 ≤ k.toNat by omega)]
    by_cases k3 : k.toNat ≤ 3
    · have d3 : decide ((3 : Int) < (k.toNat : Int)) = false := decide_eq_false (by omega)
      rw [decide_eq_true k3]
      simp -implicitDefEqProofs only [go_sem, Nat.reduceEqDiff, Nat.reduceLT, Nat.reduceAdd, Nat.reduceMul, Int.reduceEq, Int.reduceLT, Int.reduceLE, Int.reduceNe, Int.reduceBEq, Int.reduceToNat, ↓reduceIte, d0, d3]
    · have d3 : decide ((3 : Int) < (k.toNat : Int)) = true := decide_eq_true (by omega)
      rw [decide_eq_false k3]
      simp -implicitDefEqProofs only [go_sem, Nat.reduceEqDiff, Nat.reduceLT, Nat.reduceAdd, Nat.reduceMul, Int.reduceEq, Int.reduceLT, Int.reduceLE, Int.reduceNe, Int.reduceBEq, Int.reduceToNat, ↓reduceIte, d0, d3]
def IfI (H0 : Hp) (v : Value) (l : List UInt8) (m : Nat) (F : Fr) (H : Hp) : Prop :=
  ∃ k, k + m = l.length ∧ F 0 = v ∧ F 1 = .func (.func 54) #[] #[] ∧ F 7 = .int .i64 (l.length : Int) ∧ F 8 = .int .i64 (k : Int) ∧ (l.take k).all kindOk = true ∧ H = H0
theorem contains_ok {v : Value} {l : List UInt8} (hv : Bt w0 H v l) (hn : l.length < 1000000000) : ACalls Tryd.prog w0 53 #[v, .func (.func 54) #[] #[]] H fun r H' => r = .bool (!l.all kindOk) ∧ H' = H := by
  refine acalls_of Tryd.func53 rfl Tryd.ntmps53 r53 (by simp) ?_
  simp -implicitDefEqProofs only [go_sem, Nat.reduceEqDiff, Nat.reduceLT, Nat.reduceAdd, Nat.reduceMul, Int.reduceEq, Int.reduceLT, Int.reduceLE, Int.reduceNe, Int.reduceBEq, Int.reduceToNat, ↓reduceIte]
  refine ACalls.mono (Q := fun r H' => (∃ i : Int, r = .int .i64 i ∧ decide (0 ≤ i) = !l.all kindOk) ∧ H' = H) ?_ ?_
  · obtain ⟨va', vcap, ev, _⟩ := Rd.slice hv
    subst ev
    refine acalls_of Tryd.func58 rfl Tryd.ntmps58 r58 (by simp) ?_
    simp -implicitDefEqProofs only [go_sem, Nat.reduceEqDiff, Nat.reduceLT, Nat.reduceAdd, Nat.reduceMul, Int.reduceEq, Int.reduceLT, Int.reduceLE, Int.reduceNe, Int.reduceBEq, Int.reduceToNat, ↓reduceIte]
    refine AC.loop (IfI H (.slice va' l.length vcap) l) (n := l.length) ⟨0, by omega, by simp -implicitDefEqProofs only [go_sem, Nat.reduceEqDiff, Nat.reduceLT, Nat.reduceAdd, Nat.reduceMul, Int.reduceEq, Int.reduceLT, Int.reduceLE, Int.reduceNe, Int.reduceBEq, Int.reduceToNat, ↓reduceIte], by simp -implicitDefEqProofs only [go_sem, Nat.reduceEqDiff, Nat.reduceLT, Nat.reduceAdd, Nat.reduceMul, Int.reduceEq, Int.reduceLT, Int.reduceLE, Int.reduceNe, Int.reduceBEq, Int.reduceToNat, ↓reduceIte], by simp -implicitDefEqProofs only [go_sem, Nat.reduceEqDiff, Nat.reduceLT, Nat.reduceAdd, Nat.reduceMul, Int.reduceEq, Int.reduceLT, Int.reduceLE, Int.reduceNe, Int.reduceBEq, Int.reduceToNat, ↓reduceIte], by simp -implicitDefEqProofs only [go_sem, Nat.reduceEqDiff, Nat.reduceLT, Nat.reduceAdd, Nat.reduceMul, Int.reduceEq, Int.reduceLT, Int.reduceLE, Int.reduceNe, Int.reduceBEq, Int.reduceToNat, ↓reduceIte] <;> rfl, rfl, rfl⟩ ?_
    rintro m F H1 ⟨k, hk, f0, f1, f7, f8, hall, rfl⟩
    by_cases ck : k < l.length
    · have d1 : decide ((k : Int) < (l.length : Int)) = true := decide_eq_true (by omega)
      have d0 : decide ((0 : Int) ≤ (k : Int)) = true := decide_eq_true (by omega)
      have d2 : IntKind.i64.wrap ((k : Int) + 1) = (k + 1 : Nat) := by rw [i64_in] <;> omega
      obtain ⟨b, hb⟩ : ∃ b, l[k]? = some b := ⟨_, List.getElem?_eq_getElem ck⟩
      obtain ⟨a, c, ea, la⟩ := Rd.at1 hv (u8s_ix hb)
      have ea' : va' = some a := by injection ea
      rw [ea'] at f0
      simp -implicitDefEqProofs only [go_sem, Nat.reduceEqDiff, Nat.reduceLT, Nat.reduceAdd, Nat.reduceMul, Int.reduceEq, Int.reduceLT, Int.reduceLE, Int.reduceNe, Int.reduceBEq, Int.reduceToNat, ↓reduceIte, f0, f1, f7, f8, d0, d1, la]
      rw [aop_call]
      simp -implicitDefEqProofs only [go_sem, Nat.reduceEqDiff, Nat.reduceLT, Nat.reduceAdd, Nat.reduceMul, Int.reduceEq, Int.reduceLT, Int.reduceLE, Int.reduceNe, Int.reduceBEq, Int.reduceToNat, ↓reduceIte, callK_fn (orig := _) ok54, Array.empty_append, Array.append_empty]
      refine bad_ok.mono ?_
      rintro r H2 ⟨rfl, rfl⟩
      cases hkb : kindOk b with
      | false =>
        have hbad : l.all kindOk = false := by rw [List.all_eq_false]; exact ⟨b, List.mem_of_getElem? hb, by rw [hkb]; simp⟩
        simp -implicitDefEqProofs only [go_sem, Nat.reduceEqDiff, Nat.reduceLT, Nat.reduceAdd, Nat.reduceMul, Int.reduceEq, Int.reduceLT, Int.reduceLE, Int.reduceNe, Int.reduceBEq, Int.reduceToNat, ↓reduceIte]
        exact ⟨(k : Int), rfl, by rw [hbad, d0]; rfl⟩
      | true =>
        have hall' : (l.take (k + 1)).all kindOk = true := by rw [List.take_add_one, hb, List.all_append, hall]; simp [hkb]
        simp -implicitDefEqProofs only [go_sem, Nat.reduceEqDiff, Nat.reduceLT, Nat.reduceAdd, Nat.reduceMul, Int.reduceEq, Int.reduceLT, Int.reduceLE, Int.reduceNe, Int.reduceBEq, Int.reduceToNat, ↓reduceIte, f8, d2]
        exact ⟨m - 1, by omega, k + 1, by omega, by simp -implicitDefEqProofs only [go_sem, Nat.reduceEqDiff, Nat.reduceLT, Nat.reduceAdd, Nat.reduceMul, Int.reduceEq, Int.reduceLT, Int.reduceLE, Int.reduceNe, Int.reduceBEq, Int.reduceToNat, ↓reduceIte, f0]; rw [ea'], by simp -implicitDefEqProofs only [go_sem, Nat.reduceEqDiff, Nat.reduceLT, Nat.reduceAdd, Nat.reduceMul, Int.reduceEq, Int.reduceLT, Int.reduceLE, Int.reduceNe, Int.reduceBEq, Int.reduceToNat, ↓reduceIte, f1], by simp -implicitDefEqProofs only [go_sem, Nat.reduceEqDiff, Nat.reduceLT, Nat.reduceAdd, Nat.reduceMul, Int.reduceEq, Int.reduceLT, Int.reduceLE, Int.reduceNe, Int.reduceBEq, Int.reduceToNat, ↓reduceIte, f7], by simp -implicitDefEqProofs only [go_sem, Nat.reduceEqDiff, Nat.reduceLT, Nat.reduceAdd, Nat.reduceMul, Int.reduceEq, Int.reduceLT, Int.reduceLE, Int.reduceNe, Int.reduceBEq, Int.reduceToNat, ↓reduceIte], hall', rfl⟩
    · have d1 : decide ((k : Int) < (l.length : Int)) = false := decide_eq_false (by omega)
      have : l.take k = l := List.take_of_length_le (by omega)
      rw [this] at hall
      simp -implicitDefEqProofs only [go_sem, Nat.reduceEqDiff, Nat.reduceLT, Nat.reduceAdd, Nat.reduceMul, Int.reduceEq, Int.reduceLT, Int.reduceLE, Int.reduceNe, Int.reduceBEq, Int.reduceToNat, ↓reduceIte, f0, f1, f7, f8, d1]
      exact ⟨-1, rfl, by rw [hall]; rfl⟩
  · rintro r H' ⟨⟨i, rfl, hi⟩, rfl⟩
    simp -implicitDefEqProofs only [go_sem, Nat.reduceEqDiff, Nat.reduceLT, Nat.reduceAdd, Nat.reduceMul, Int.reduceEq, Int.reduceLT, Int.reduceLE, Int.reduceNe, Int.reduceBEq, Int.reduceToNat, ↓reduceIte, hi]
theorem kright_ok {v : Value} {l : List UInt8} (hv : Bt w0 H v l) (hn : l.length < 1000000000) : ACalls Tryd.prog w0 45 #[v] H fun r H' => r = .bool (rightK l) ∧ H' = H := by
  obtain ⟨va', vcap, ev, _⟩ := Rd.slice hv
  subst ev
  refine acalls_of Tryd.func45 rfl Tryd.ntmps45 r45 (by simp) ?_
  unfold rightK
  by_cases c1 : 1 ≤ l.length
  · have d1 : decide ((0 : Int) < (l.length : Int)) = true := decide_eq_true (by omega)
    rw [decide_eq_true c1]
    by_cases c8 : l.length ≤ 8
    · have d8 : decide ((l.length : Int) ≤ 8) = true := decide_eq_true (by omega)
      rw [decide_eq_true c8]
      simp -implicitDefEqProofs only [go_sem, Nat.reduceEqDiff, Nat.reduceLT, Nat.reduceAdd, Nat.reduceMul, Int.reduceEq, Int.reduceLT, Int.reduceLE, Int.reduceNe, Int.reduceBEq, Int.reduceToNat, ↓reduceIte, d1, d8]
      refine (contains_ok hv hn).mono ?_
      rintro r H' ⟨rfl, rfl⟩
      simp -implicitDefEqProofs only [go_sem, Nat.reduceEqDiff, Nat.reduceLT, Nat.reduceAdd, Nat.reduceMul, Int.reduceEq, Int.reduceLT, Int.reduceLE, Int.reduceNe, Int.reduceBEq, Int.reduceToNat, ↓reduceIte, Bool.not_not]
    · have d8 : decide ((l.length : Int) ≤ 8) = false := decide_eq_false (by omega)
      rw [decide_eq_false c8]
      simp -implicitDefEqProofs only [go_sem, Nat.reduceEqDiff, Nat.reduceLT, Nat.reduceAdd, Nat.reduceMul, Int.reduceEq, Int.reduceLT, Int.reduceLE, Int.reduceNe, Int.reduceBEq, Int.reduceToNat, ↓reduceIte, d1, d8]
  · have d1 : decide ((0 : Int) < (l.length : Int)) = false := decide_eq_false (by omega)
    rw [decide_eq_false c1]
    simp -implicitDefEqProofs only [go_sem, Nat.reduceEqDiff, Nat.reduceLT, Nat.reduceAdd, Nat.reduceMul, Int.reduceEq, Int.reduceLT, Int.reduceLE, Int.reduceNe, Int.reduceBEq, Int.reduceToNat, ↓reduceIte, d1]
def RkI (H0 : Hp) (v : Value) (l : List UInt8) (m : Nat) (F : Fr) (H : Hp) : Prop :=
  ∃ k, k + m = l.length ∧ F 0 = v ∧ F 5 = v ∧ F 6 = .int .i64 (l.length : Int) ∧ F 7 = .int .i64 (k : Int) ∧ (l.take k).all kindOk = true ∧ H = H0
theorem krright_ok {v : Value} {l : List UInt8} (hv : Bt w0 H v l) (hn : l.length < 1000000000) : ACalls Tryd.prog w0 47 #[v] H fun r H' => r = .bool (rightK l) ∧ H' = H := by
  obtain ⟨va', vcap, ev, _⟩ := Rd.slice hv
  subst ev
  refine acalls_of Tryd.func47 rfl Tryd.ntmps47 r47 (by simp) ?_
  simp -implicitDefEqProofs only [go_sem, Nat.reduceEqDiff, Nat.reduceLT, Nat.reduceAdd, Nat.reduceMul, Int.reduceEq, Int.reduceLT, Int.reduceLE, Int.reduceNe, Int.reduceBEq, Int.reduceToNat, ↓reduceIte]
  refine AC.loop (RkI H (.slice va' l.length vcap) l) (n := l.length) ⟨0, by omega, by simp -implicitDefEqProofs only [go_sem, Nat.reduceEqDiff, Nat.reduceLT, Nat.reduceAdd, Nat.reduceMul, Int.reduceEq, Int.reduceLT, Int.reduceLE, Int.reduceNe, Int.reduceBEq, Int.reduceToNat, ↓reduceIte], by simp -implicitDefEqProofs only [go_sem, Nat.reduceEqDiff, Nat.reduceLT, Nat.reduceAdd, Nat.reduceMul, Int.reduceEq, Int.reduceLT, Int.reduceLE, Int.reduceNe, Int.reduceBEq, Int.reduceToNat, ↓reduceIte], by simp -implicitDefEqProofs only [go_sem, Nat.reduceEqDiff, Nat.reduceLT, Nat.reduceAdd, Nat.reduceMul, Int.reduceEq, Int.reduceLT, Int.reduceLE, Int.reduceNe, Int.reduceBEq, Int.reduceToNat, ↓reduceIte], by simp -implicitDefEqProofs only [go_sem, Nat.reduceEqDiff, Nat.reduceLT, Nat.reduceAdd, Nat.reduceMul, Int.reduceEq, Int.reduceLT, Int.reduceLE, Int.reduceNe, Int.reduceBEq, Int.reduceToNat, ↓reduceIte] <;> rfl, rfl, rfl⟩ ?_
  rintro m F H1 ⟨k, hk, f0, f5, f6, f7, hall, rfl⟩
  by_cases ck : k < l.length
  · have d1 : decide ((k : Int) < (l.length : Int)) = true := decide_eq_true (by omega)
    have d0 : decide ((0 : Int) ≤ (k : Int)) = true := decide_eq_true (by omega)
    have d2 : IntKind.i64.wrap ((k : Int) + 1) = (k + 1 : Nat) := by rw [i64_in] <;> omega
    obtain ⟨b, hb⟩ : ∃ b, l[k]? = some b := ⟨_, List.getElem?_eq_getElem ck⟩
    obtain ⟨a, c, ea, la⟩ := Rd.at1 hv (u8s_ix hb)
    have ea' : va' = some a := by injection ea
    have f0' := f0
    rw [ea'] at f5
    have bad : kindOk b = false → rightK l = false := fun h => by
      unfold rightK
      have : l.all kindOk = false := by rw [List.all_eq_false]; exact ⟨b, List.mem_of_getElem? hb, by rw [h]; simp⟩
      rw [this]; simp
    by_cases k0 : b.toNat < 1
    · have dd : decide ((b.toNat : Int) < 1) = true := decide_eq_true (by omega)
      rw [bad (by unfold kindOk; rw [decide_eq_false (by omega)]; rfl)]
      simp -implicitDefEqProofs only [go_sem, Nat.reduceEqDiff, Nat.reduceLT, Nat.reduceAdd, Nat.reduceMul, Int.reduceEq, Int.reduceLT, Int.reduceLE, Int.reduceNe, Int.reduceBEq, Int.reduceToNat, ↓reduceIte, f0, f5, f6, f7, d0, d1, la, dd]
    · have dd : decide ((b.toNat : Int) < 1) = false := decide_eq_false (by omega)
      by_cases k3 : b.toNat ≤ 3
      · have d3 : decide ((3 : Int) < (b.toNat : Int)) = false := decide_eq_false (by omega)
        have hall' : (l.take (k + 1)).all kindOk = true := by
          rw [List.take_add_one, hb, List.all_append, hall]
          simp [kindOk, k3]; omega
        simp -implicitDefEqProofs only [go_sem, Nat.reduceEqDiff, Nat.reduceLT, Nat.reduceAdd, Nat.reduceMul, Int.reduceEq, Int.reduceLT, Int.reduceLE, Int.reduceNe, Int.reduceBEq, Int.reduceToNat, ↓reduceIte, f0, f5, f6, f7, d0, d1, la, dd, d3, d2]
        exact ⟨m - 1, by omega, k + 1, by omega, by simp -implicitDefEqProofs only [go_sem, Nat.reduceEqDiff, Nat.reduceLT, Nat.reduceAdd, Nat.reduceMul, Int.reduceEq, Int.reduceLT, Int.reduceLE, Int.reduceNe, Int.reduceBEq, Int.reduceToNat, ↓reduceIte, f0], by simp -implicitDefEqProofs only [go_sem, Nat.reduceEqDiff, Nat.reduceLT, Nat.reduceAdd, Nat.reduceMul, Int.reduceEq, Int.reduceLT, Int.reduceLE, Int.reduceNe, Int.reduceBEq, Int.reduceToNat, ↓reduceIte, f5]; rw [ea'], by simp -implicitDefEqProofs only [go_sem, Nat.reduceEqDiff, Nat.reduceLT, Nat.reduceAdd, Nat.reduceMul, Int.reduceEq, Int.reduceLT, Int.reduceLE, Int.reduceNe, Int.reduceBEq, Int.reduceToNat, ↓reduceIte, f6], by simp -implicitDefEqProofs only [go_sem, Nat.reduceEqDiff, Nat.reduceLT, Nat.reduceAdd, Nat.reduceMul, Int.reduceEq, Int.reduceLT, Int.reduceLE, Int.reduceNe, Int.reduceBEq, Int.reduceToNat, ↓reduceIte], hall', rfl⟩
      · have d3 : decide ((3 : Int) < (b.toNat : Int)) = true := decide_eq_true (by omega)
        rw [bad (by unfold kindOk; rw [decide_eq_false k3]; simp)]
        simp -implicitDefEqProofs only [go_sem, Nat.reduceEqDiff, Nat.reduceLT, Nat.reduceAdd, Nat.reduceMul, Int.reduceEq, Int.reduceLT, Int.reduceLE, Int.reduceNe, Int.reduceBEq, Int.reduceToNat, ↓reduceIte, f0, f5, f6, f7, d0, d1, la, dd, d3]
  · have d1 : decide ((k : Int) < (l.length : Int)) = false := decide_eq_false (by omega)
    have : l.take k = l := List.take_of_length_le (by omega)
    rw [this] at hall
    unfold rightK
    rw [hall]
    by_cases c1 : 1 ≤ l.length
    · have e1 : decide ((1 : Int) ≤ (l.length : Int)) = true := decide_eq_true (by omega)
      rw [decide_eq_true c1]
      by_cases c8 : l.length ≤ 8
      · have d8 : decide ((l.length : Int) ≤ 8) = true := decide_eq_true (by omega)
        rw [decide_eq_true c8]
        simp -implicitDefEqProofs only [go_sem, Nat.reduceEqDiff, Nat.reduceLT, Nat.reduceAdd, Nat.reduceMul, Int.reduceEq, Int.reduceLT, Int.reduceLE, Int.reduceNe, Int.reduceBEq, Int.reduceToNat, ↓reduceIte, f0, f6, f7, d1, e1, d8]
      · have d8 : decide ((l.length : Int) ≤ 8) = false := decide_eq_false (by omega)
        rw [decide_eq_false c8]
        simp -implicitDefEqProofs only [go_sem, Nat.reduceEqDiff, Nat.reduceLT, Nat.reduceAdd, Nat.reduceMul, Int.reduceEq, Int.reduceLT, Int.reduceLE, Int.reduceNe, Int.reduceBEq, Int.reduceToNat, ↓reduceIte, f0, f6, f7, d1, e1, d8]
    · have e1 : decide ((1 : Int) ≤ (l.length : Int)) = false := decide_eq_false (by omega)
      rw [decide_eq_false c1]
      simp -implicitDefEqProofs only [go_sem, Nat.reduceEqDiff, Nat.reduceLT, Nat.reduceAdd, Nat.reduceMul, Int.reduceEq, Int.reduceLT, Int.reduceLE, Int.reduceNe, Int.reduceBEq, Int.reduceToNat, ↓reduceIte, f0, f6, f7, d1, e1]
/-! ### What fits -/
theorem size_ok {v : Va} (hr : rightB v = true) : ACalls Tryd.prog w0 46 #[va v] H fun r H' => r = .int .i64 ((encv v).length : Int) ∧ H' = H := by
  refine ACalls.quiet ?_
  refine acalls_of Tryd.func46 rfl Tryd.ntmps46 r46 (by simp) ?_
  simp -implicitDefEqProofs only [go_sem, Nat.reduceEqDiff, Nat.reduceLT, Nat.reduceAdd, Nat.reduceMul, Int.reduceEq, Int.reduceLT, Int.reduceLE, Int.reduceNe, Int.reduceBEq, Int.reduceToNat, ↓reduceIte]
  refine newK_of ?_
  intro bx H1 hbx hnx h1 s1 g1
  have q1 := ld_own w0 (c := (vc v).toArray) h1
  rcases right_cases hr with rfl | ⟨i, rfl⟩ | ⟨s, rfl, s60, sz⟩ | ⟨b, rfl⟩
  · simp -implicitDefEqProofs only [go_sem, Nat.reduceEqDiff, Nat.reduceLT, Nat.reduceAdd, Nat.reduceMul, Int.reduceEq, Int.reduceLT, Int.reduceLE, Int.reduceNe, Int.reduceBEq, Int.reduceToNat, ↓reduceIte, q1]
    exact ⟨rfl, s1⟩
  · simp -implicitDefEqProofs only [go_sem, Nat.reduceEqDiff, Nat.reduceLT, Nat.reduceAdd, Nat.reduceMul, Int.reduceEq, Int.reduceLT, Int.reduceLE, Int.reduceNe, Int.reduceBEq, Int.reduceToNat, ↓reduceIte, q1]
    exact ⟨rfl, s1⟩
  · have w1 : IntKind.i64.wrap (1 + (s.length : Int)) = ((s.length + 1 : Nat) : Int) := by rw [i64_in] <;> omega
    simp -implicitDefEqProofs only [go_sem, Nat.reduceEqDiff, Nat.reduceLT, Nat.reduceAdd, Nat.reduceMul, Int.reduceEq, Int.reduceLT, Int.reduceLE, Int.reduceNe, Int.reduceBEq, Int.reduceToNat, ↓reduceIte, q1, str_size, w1]
    exact ⟨rfl, s1⟩
  · simp -implicitDefEqProofs only [go_sem, Nat.reduceEqDiff, Nat.reduceLT, Nat.reduceAdd, Nat.reduceMul, Int.reduceEq, Int.reduceLT, Int.reduceLE, Int.reduceNe, Int.reduceBEq, Int.reduceToNat, ↓reduceIte, q1]
    exact ⟨rfl, s1⟩
def FtI (H0 : Hp) (kv lv : Value) (l : List Va) (m : Nat) (F : Fr) (H : Hp) : Prop :=
  ∃ k, k + m = l.length ∧ F 0 = kv ∧ F 1 = lv ∧ F 20 = lv ∧ F 21 = .int .i64 (l.length : Int) ∧ F 22 = .int .i64 (k : Int) ∧ (l.take k).all rightB = true ∧ Sub H0 H
def FtJ (H0 : Hp) (kv lv : Value) (ks : List UInt8) (l : List Va) (m : Nat) (F : Fr) (H : Hp) : Prop :=
  ∃ k, k + m = l.length ∧ F 0 = kv ∧ F 30 = lv ∧ F 31 = .int .i64 (l.length : Int) ∧ F 32 = .int .i64 (k : Int) ∧ F 7 = .int .i64 ((1 + (encB (l.take k)).length : Nat) : Int) ∧ typesOk (ks.drop k) (l.drop k) = typesOk ks l ∧ Sub H0 H
theorem fits_ok {kv lv : Value} {ks : List UInt8} {l : List Va} (ht : Tbl w0) (hkv : Bt w0 H kv ks) (hlv : Vs w0 H lv l) (hn : ks.length < 1000000000) (hn2 : l.length < 1000000) : ACalls Tryd.prog w0 34 #[kv, lv] H fun r H' => r = .int .i64 (fitN ks l : Int) ∧ H' = H := by
  refine ACalls.quiet ?_
  obtain ⟨ka, kc, ek, _⟩ := Rd.slice hkv
  obtain ⟨la', lc, el, _⟩ := Rd.slice hlv
  subst ek el
  refine acalls_of Tryd.func34 rfl Tryd.ntmps34 r34 (by simp) ?_
  simp -implicitDefEqProofs only [go_sem, Nat.reduceEqDiff, Nat.reduceLT, Nat.reduceAdd, Nat.reduceMul, Int.reduceEq, Int.reduceLT, Int.reduceLE, Int.reduceNe, Int.reduceBEq, Int.reduceToNat, ↓reduceIte]
  refine (kright_ok hkv hn).mono ?_
  rintro r H1 ⟨rfl, rfl⟩
  unfold fitN
  cases hrk : rightK ks with
  | false =>
    simp -implicitDefEqProofs only [go_sem, Nat.reduceEqDiff, Nat.reduceLT, Nat.reduceAdd, Nat.reduceMul, Int.reduceEq, Int.reduceLT, Int.reduceLE, Int.reduceNe, Int.reduceBEq, Int.reduceToNat, ↓reduceIte]
    first | exact Sub.refl _ | exact ⟨by simp, Sub.refl _⟩
  | true =>
    by_cases hlen : l.length = ks.length
    · have d1 : decide ((l.length : Int) = (ks.length : Int)) = true := decide_eq_true (by omega)
      rw [decide_eq_true hlen]
      simp -implicitDefEqProofs only [go_sem, Nat.reduceEqDiff, Nat.reduceLT, Nat.reduceAdd, Nat.reduceMul, Int.reduceEq, Int.reduceLT, Int.reduceLE, Int.reduceNe, Int.reduceBEq, Int.reduceToNat, ↓reduceIte, d1]
      refine AC.loopH (FtI H1 (.slice ka ks.length kc) (.slice la' l.length lc) l) (n := l.length) ⟨0, by omega, by simp -implicitDefEqProofs only [go_sem, Nat.reduceEqDiff, Nat.reduceLT, Nat.reduceAdd, Nat.reduceMul, Int.reduceEq, Int.reduceLT, Int.reduceLE, Int.reduceNe, Int.reduceBEq, Int.reduceToNat, ↓reduceIte], by simp -implicitDefEqProofs only [go_sem, Nat.reduceEqDiff, Nat.reduceLT, Nat.reduceAdd, Nat.reduceMul, Int.reduceEq, Int.reduceLT, Int.reduceLE, Int.reduceNe, Int.reduceBEq, Int.reduceToNat, ↓reduceIte], by simp -implicitDefEqProofs only [go_sem, Nat.reduceEqDiff, Nat.reduceLT, Nat.reduceAdd, Nat.reduceMul, Int.reduceEq, Int.reduceLT, Int.reduceLE, Int.reduceNe, Int.reduceBEq, Int.reduceToNat, ↓reduceIte], by simp -implicitDefEqProofs only [go_sem, Nat.reduceEqDiff, Nat.reduceLT, Nat.reduceAdd, Nat.reduceMul, Int.reduceEq, Int.reduceLT, Int.reduceLE, Int.reduceNe, Int.reduceBEq, Int.reduceToNat, ↓reduceIte], by simp -implicitDefEqProofs only [go_sem, Nat.reduceEqDiff, Nat.reduceLT, Nat.reduceAdd, Nat.reduceMul, Int.reduceEq, Int.reduceLT, Int.reduceLE, Int.reduceNe, Int.reduceBEq, Int.reduceToNat, ↓reduceIte] <;> rfl, rfl, Sub.refl _⟩ ?_
      rintro m F H2 ⟨k, hk, f0, f1, f20, f21, f22, hall, hs⟩ hh
      by_cases ck : k < l.length
      · have d1 : decide ((k : Int) < (l.length : Int)) = true := decide_eq_true (by omega)
        have d0 : decide ((0 : Int) ≤ (k : Int)) = true := decide_eq_true (by omega)
        have d2 : IntKind.i64.wrap ((k : Int) + 1) = (k + 1 : Nat) := by rw [i64_in] <;> omega
        obtain ⟨x, hx⟩ : ∃ x, l[k]? = some x := ⟨_, List.getElem?_eq_getElem ck⟩
        obtain ⟨a, c, ea, l1⟩ := (hlv.sub hs hh).at hx
        have ea' : la' = some a := by injection ea
        rw [ea'] at f20
        simp -implicitDefEqProofs only [go_sem, Nat.reduceEqDiff, Nat.reduceLT, Nat.reduceAdd, Nat.reduceMul, Int.reduceEq, Int.reduceLT, Int.reduceLE, Int.reduceNe, Int.reduceBEq, Int.reduceToNat, ↓reduceIte, f0, f1, f20, f21, f22, d1, d0, l1]
        refine newK_of ?_
        intro b2 H3 hb2 hn2' h2 s2 g2
        simp -implicitDefEqProofs only [go_sem, Nat.reduceEqDiff, Nat.reduceLT, Nat.reduceAdd, Nat.reduceMul, Int.reduceEq, Int.reduceLT, Int.reduceLE, Int.reduceNe, Int.reduceBEq, Int.reduceToNat, ↓reduceIte]
        refine store_all (cs := (vc x).toArray) h2 rfl rfl s36 ?_
        intro H4 h4 g4
        have l4 := ldc w0 (l := vc x) h4 4
        have s4' : Sub H2 H4 := Sub.ne2 hn2' g2 g4
        simp -implicitDefEqProofs only [go_sem, Nat.reduceEqDiff, Nat.reduceLT, Nat.reduceAdd, Nat.reduceMul, Int.reduceEq, Int.reduceLT, Int.reduceLE, Int.reduceNe, Int.reduceBEq, Int.reduceToNat, ↓reduceIte, l4]
        refine (cright_ok ht).mono ?_
        rintro r H5 ⟨rfl, rfl⟩
        cases hr : rightB x with
        | false =>
          have hall0 : l.all rightB = false := by rw [List.all_eq_false]; exact ⟨x, List.mem_of_getElem? hx, by rw [hr]; simp⟩
          rw [hall0]
          simp -implicitDefEqProofs only [go_sem, Nat.reduceEqDiff, Nat.reduceLT, Nat.reduceAdd, Nat.reduceMul, Int.reduceEq, Int.reduceLT, Int.reduceLE, Int.reduceNe, Int.reduceBEq, Int.reduceToNat, ↓reduceIte]
          first | exact hs.trans s4' | exact ⟨by simp, hs.trans s4'⟩
        | true =>
          have hall' : (l.take (k + 1)).all rightB = true := by rw [List.take_add_one, hx, List.all_append, hall]; simp [hr]
          simp -implicitDefEqProofs only [go_sem, Nat.reduceEqDiff, Nat.reduceLT, Nat.reduceAdd, Nat.reduceMul, Int.reduceEq, Int.reduceLT, Int.reduceLE, Int.reduceNe, Int.reduceBEq, Int.reduceToNat, ↓reduceIte, f22, d2]
          exact ⟨m - 1, by omega, k + 1, by omega, by simp -implicitDefEqProofs only [go_sem, Nat.reduceEqDiff, Nat.reduceLT, Nat.reduceAdd, Nat.reduceMul, Int.reduceEq, Int.reduceLT, Int.reduceLE, Int.reduceNe, Int.reduceBEq, Int.reduceToNat, ↓reduceIte, f0], by simp -implicitDefEqProofs only [go_sem, Nat.reduceEqDiff, Nat.reduceLT, Nat.reduceAdd, Nat.reduceMul, Int.reduceEq, Int.reduceLT, Int.reduceLE, Int.reduceNe, Int.reduceBEq, Int.reduceToNat, ↓reduceIte, f1], by simp -implicitDefEqProofs only [go_sem, Nat.reduceEqDiff, Nat.reduceLT, Nat.reduceAdd, Nat.reduceMul, Int.reduceEq, Int.reduceLT, Int.reduceLE, Int.reduceNe, Int.reduceBEq, Int.reduceToNat, ↓reduceIte, f20]; rw [ea'], by simp -implicitDefEqProofs only [go_sem, Nat.reduceEqDiff, Nat.reduceLT, Nat.reduceAdd, Nat.reduceMul, Int.reduceEq, Int.reduceLT, Int.reduceLE, Int.reduceNe, Int.reduceBEq, Int.reduceToNat, ↓reduceIte, f21], by simp -implicitDefEqProofs only [go_sem, Nat.reduceEqDiff, Nat.reduceLT, Nat.reduceAdd, Nat.reduceMul, Int.reduceEq, Int.reduceLT, Int.reduceLE, Int.reduceNe, Int.reduceBEq, Int.reduceToNat, ↓reduceIte], hall', hs.trans s4'⟩
      · have d1 : decide ((k : Int) < (l.length : Int)) = false := decide_eq_false (by omega)
        have htk : l.take k = l := List.take_of_length_le (by omega)
        rw [htk] at hall
        rw [hall]
        simp -implicitDefEqProofs only [go_sem, Nat.reduceEqDiff, Nat.reduceLT, Nat.reduceAdd, Nat.reduceMul, Int.reduceEq, Int.reduceLT, Int.reduceLE, Int.reduceNe, Int.reduceBEq, Int.reduceToNat, ↓reduceIte, f0, f1, f20, f21, f22, d1]
        refine AC.loopH (FtJ H1 (.slice ka ks.length kc) (.slice la' l.length lc) ks l) (n := l.length) ⟨0, by omega, by simp -implicitDefEqProofs only [go_sem, Nat.reduceEqDiff, Nat.reduceLT, Nat.reduceAdd, Nat.reduceMul, Int.reduceEq, Int.reduceLT, Int.reduceLE, Int.reduceNe, Int.reduceBEq, Int.reduceToNat, ↓reduceIte, f0], by simp -implicitDefEqProofs only [go_sem, Nat.reduceEqDiff, Nat.reduceLT, Nat.reduceAdd, Nat.reduceMul, Int.reduceEq, Int.reduceLT, Int.reduceLE, Int.reduceNe, Int.reduceBEq, Int.reduceToNat, ↓reduceIte, f1], by simp -implicitDefEqProofs only [go_sem, Nat.reduceEqDiff, Nat.reduceLT, Nat.reduceAdd, Nat.reduceMul, Int.reduceEq, Int.reduceLT, Int.reduceLE, Int.reduceNe, Int.reduceBEq, Int.reduceToNat, ↓reduceIte], by simp -implicitDefEqProofs only [go_sem, Nat.reduceEqDiff, Nat.reduceLT, Nat.reduceAdd, Nat.reduceMul, Int.reduceEq, Int.reduceLT, Int.reduceLE, Int.reduceNe, Int.reduceBEq, Int.reduceToNat, ↓reduceIte] <;> rfl, by simp -implicitDefEqProofs only [go_sem, Nat.reduceEqDiff, Nat.reduceLT, Nat.reduceAdd, Nat.reduceMul, Int.reduceEq, Int.reduceLT, Int.reduceLE, Int.reduceNe, Int.reduceBEq, Int.reduceToNat, ↓reduceIte] <;> rfl, rfl, hs⟩ ?_
        clear f0 f1 f20 f21 f22 hk ck d1 htk hs hh
        rintro m F H2 ⟨k, hk, f0, f30, f31, f32, f7, hty, hs⟩ hh
        have hlb : (encB (l.take k)).length ≤ 61 * l.length := by
          have h1 : (l.take k).all rightB = true := by rw [List.all_eq_true] at *; exact fun x hx => hall x (List.mem_of_mem_take hx)
          have h2 := encB_len h1
          have h3 : (l.take k).length ≤ l.length := by rw [List.length_take]; omega
          omega
        by_cases ck : k < l.length
        · have d1 : decide ((k : Int) < (l.length : Int)) = true := decide_eq_true (by omega)
          have dk1 : decide ((k : Int) < (ks.length : Int)) = true := decide_eq_true (by omega)
          have d0 : decide ((0 : Int) ≤ (k : Int)) = true := decide_eq_true (by omega)
          have d2 : IntKind.i64.wrap ((k : Int) + 1) = (k + 1 : Nat) := by rw [i64_in] <;> omega
          obtain ⟨x, hx⟩ : ∃ x, l[k]? = some x := ⟨_, List.getElem?_eq_getElem ck⟩
          obtain ⟨kb, hkb⟩ : ∃ x, ks[k]? = some x := ⟨_, List.getElem?_eq_getElem (by omega)⟩
          have hr := List.all_eq_true.1 hall x (List.mem_of_getElem? hx)
          rw [typesOk_at hkb hx] at hty
          obtain ⟨a, c, ea, l1⟩ := (hlv.sub hs hh).at hx
          have ea' : la' = some a := by injection ea
          rw [ea'] at f30
          simp -implicitDefEqProofs only [go_sem, Nat.reduceEqDiff, Nat.reduceLT, Nat.reduceAdd, Nat.reduceMul, Int.reduceEq, Int.reduceLT, Int.reduceLE, Int.reduceNe, Int.reduceBEq, Int.reduceToNat, ↓reduceIte, f0, f30, f31, f32, f7, d1, d0, l1]
          refine newK_of ?_
          intro b2 H3 hb2 hn2' h2 s2 g2
          simp -implicitDefEqProofs only [go_sem, Nat.reduceEqDiff, Nat.reduceLT, Nat.reduceAdd, Nat.reduceMul, Int.reduceEq, Int.reduceLT, Int.reduceLE, Int.reduceNe, Int.reduceBEq, Int.reduceToNat, ↓reduceIte]
          refine store_all (cs := (vc x).toArray) h2 rfl rfl s36 ?_
          intro H4 h4 g4
          have l4 := ldc w0 (l := vc x) h4 4
          have q4 := ld_own w0 (c := (vc x).toArray) h4
          have s4' : Sub H2 H4 := Sub.ne2 hn2' g2 g4
          have hh4 : Hi w0 H4 := Hi.ne (Hi.ne hh hb2 g2) hb2 g4
          obtain ⟨ka1, c', ek, lk⟩ := Rd.at1 (hkv.sub (hs.trans s4') hh4) (u8s_ix hkb)
          have ek' : ka = some ka1 := by injection ek
          rw [ek'] at f0
          have hsz := encv_len hr
          have w7 : IntKind.i64.wrap (((1 + (encB (l.take k)).length : Nat) : Int) + ((encv x).length : Int)) = ((1 + (encB (l.take (k + 1))).length : Nat) : Int) := by
            rw [encB_snoc hx, List.length_append, i64_in] <;> omega
          simp -implicitDefEqProofs only [go_sem, Nat.reduceEqDiff, Nat.reduceLT, Nat.reduceAdd, Nat.reduceMul, Int.reduceEq, Int.reduceLT, Int.reduceLE, Int.reduceNe, Int.reduceBEq, Int.reduceToNat, ↓reduceIte]
          refine vdraw_t [⟨0, .p, [], []⟩, ⟨1, .n, [], []⟩, ⟨2, .p, [], []⟩, ⟨3, .p, [], []⟩, ⟨4, .p, [], []⟩, ⟨5, .n, [], []⟩, ⟨6, .p, [], []⟩, ⟨7, .p, [], []⟩, ⟨8, .p, [], []⟩, ⟨9, .n, [], []⟩, ⟨10, .p, [], []⟩, ⟨11, .p, [], []⟩] [0, 1, 3, 7, 15, 31, 15, 15, 207, 463, 1023, 2047] mixed (by kernel_rfl) ?_
          by_cases k0 : x.k = 0
          · have dx : decide ((x.k : Int) = 0) = true := decide_eq_true (by omega)
            have dm : True := trivial
            have htok : typeOk kb x = true := by unfold typeOk; rw [decide_eq_true k0]; rfl
            simp -implicitDefEqProofs only [go_sem, Nat.reduceEqDiff, Nat.reduceLT, Nat.reduceAdd, Nat.reduceMul, Int.reduceEq, Int.reduceLT, Int.reduceLE, Int.reduceNe, Int.reduceBEq, Int.reduceToNat, ↓reduceIte, q4, l4, f0, f7, f32, dx, dk1, d0, lk, dm]
            refine (size_ok hr).mono ?_
            rintro r H5 ⟨rfl, rfl⟩
            simp -implicitDefEqProofs only [go_sem, Nat.reduceEqDiff, Nat.reduceLT, Nat.reduceAdd, Nat.reduceMul, Int.reduceEq, Int.reduceLT, Int.reduceLE, Int.reduceNe, Int.reduceBEq, Int.reduceToNat, ↓reduceIte, f7, f32, w7, d2]
            exact ⟨m - 1, by omega, k + 1, by omega, by simp -implicitDefEqProofs only [go_sem, Nat.reduceEqDiff, Nat.reduceLT, Nat.reduceAdd, Nat.reduceMul, Int.reduceEq, Int.reduceLT, Int.reduceLE, Int.reduceNe, Int.reduceBEq, Int.reduceToNat, ↓reduceIte, f0]; rw [ek'], by simp -implicitDefEqProofs only [go_sem, Nat.reduceEqDiff, Nat.reduceLT, Nat.reduceAdd, Nat.reduceMul, Int.reduceEq, Int.reduceLT, Int.reduceLE, Int.reduceNe, Int.reduceBEq, Int.reduceToNat, ↓reduceIte, f30]; rw [ea'], by simp -implicitDefEqProofs only [go_sem, Nat.reduceEqDiff, Nat.reduceLT, Nat.reduceAdd, Nat.reduceMul, Int.reduceEq, Int.reduceLT, Int.reduceLE, Int.reduceNe, Int.reduceBEq, Int.reduceToNat, ↓reduceIte, f31], by simp -implicitDefEqProofs only [go_sem, Nat.reduceEqDiff, Nat.reduceLT, Nat.reduceAdd, Nat.reduceMul, Int.reduceEq, Int.reduceLT, Int.reduceLE, Int.reduceNe, Int.reduceBEq, Int.reduceToNat, ↓reduceIte], by simp -implicitDefEqProofs only [go_sem, Nat.reduceEqDiff, Nat.reduceLT, Nat.reduceAdd, Nat.reduceMul, Int.reduceEq, Int.reduceLT, Int.reduceLE, Int.reduceNe, Int.reduceBEq, Int.reduceToNat, ↓reduceIte], by rw [← hty, htok]; rfl, hs.trans s4'⟩
          · have dx : decide ((x.k : Int) = 0) = false := decide_eq_false (by omega)
            by_cases km : x.k = kb.toNat
            · have dm : decide ((x.k : Int) = (kb.toNat : Int)) = true := decide_eq_true (by omega)
              have htok : typeOk kb x = true := by unfold typeOk; rw [decide_eq_true km]; simp
              simp -implicitDefEqProofs only [go_sem, Nat.reduceEqDiff, Nat.reduceLT, Nat.reduceAdd, Nat.reduceMul, Int.reduceEq, Int.reduceLT, Int.reduceLE, Int.reduceNe, Int.reduceBEq, Int.reduceToNat, ↓reduceIte, q4, l4, f0, f7, f32, dx, dk1, d0, lk, dm]
              refine (size_ok hr).mono ?_
              rintro r H5 ⟨rfl, rfl⟩
              simp -implicitDefEqProofs only [go_sem, Nat.reduceEqDiff, Nat.reduceLT, Nat.reduceAdd, Nat.reduceMul, Int.reduceEq, Int.reduceLT, Int.reduceLE, Int.reduceNe, Int.reduceBEq, Int.reduceToNat, ↓reduceIte, f7, f32, w7, d2]
              exact ⟨m - 1, by omega, k + 1, by omega, by simp -implicitDefEqProofs only [go_sem, Nat.reduceEqDiff, Nat.reduceLT, Nat.reduceAdd, Nat.reduceMul, Int.reduceEq, Int.reduceLT, Int.reduceLE, Int.reduceNe, Int.reduceBEq, Int.reduceToNat, ↓reduceIte, f0]; rw [ek'], by simp -implicitDefEqProofs only [go_sem, Nat.reduceEqDiff, Nat.reduceLT, Nat.reduceAdd, Nat.reduceMul, Int.reduceEq, Int.reduceLT, Int.reduceLE, Int.reduceNe, Int.reduceBEq, Int.reduceToNat, ↓reduceIte, f30]; rw [ea'], by simp -implicitDefEqProofs only [go_sem, Nat.reduceEqDiff, Nat.reduceLT, Nat.reduceAdd, Nat.reduceMul, Int.reduceEq, Int.reduceLT, Int.reduceLE, Int.reduceNe, Int.reduceBEq, Int.reduceToNat, ↓reduceIte, f31], by simp -implicitDefEqProofs only [go_sem, Nat.reduceEqDiff, Nat.reduceLT, Nat.reduceAdd, Nat.reduceMul, Int.reduceEq, Int.reduceLT, Int.reduceLE, Int.reduceNe, Int.reduceBEq, Int.reduceToNat, ↓reduceIte], by simp -implicitDefEqProofs only [go_sem, Nat.reduceEqDiff, Nat.reduceLT, Nat.reduceAdd, Nat.reduceMul, Int.reduceEq, Int.reduceLT, Int.reduceLE, Int.reduceNe, Int.reduceBEq, Int.reduceToNat, ↓reduceIte], by rw [← hty, htok]; rfl, hs.trans s4'⟩
            · have dm : decide ((x.k : Int) = (kb.toNat : Int)) = false := decide_eq_false (by omega)
              have htok : typeOk kb x = false := by unfold typeOk; rw [decide_eq_false km, decide_eq_false k0]; rfl
              have hty' : typesOk ks l = false := by rw [← hty, htok]; rfl
              rw [hty']
              simp -implicitDefEqProofs only [go_sem, Nat.reduceEqDiff, Nat.reduceLT, Nat.reduceAdd, Nat.reduceMul, Int.reduceEq, Int.reduceLT, Int.reduceLE, Int.reduceNe, Int.reduceBEq, Int.reduceToNat, ↓reduceIte, q4, l4, f0, f7, f32, dx, dk1, d0, lk, dm]
              first | exact hs.trans s4' | exact ⟨by simp, hs.trans s4'⟩
        · have d1 : decide ((k : Int) < (l.length : Int)) = false := decide_eq_false (by omega)
          have htk : l.take k = l := List.take_of_length_le (by omega)
          have hty' : typesOk ks l = true := by
            rw [← hty, List.drop_eq_nil_of_le (show l.length ≤ k by omega)]
            cases ks.drop k <;> rfl
          rw [htk] at f7
          rw [hty']
          by_cases c2 : 200 < 1 + (encB l).length
          · have d200 : decide ((200 : Int) < ((1 + (encB l).length : Nat) : Int)) = true := decide_eq_true (by omega)
            simp -implicitDefEqProofs only [go_sem, Nat.reduceEqDiff, Nat.reduceLT, Nat.reduceAdd, Nat.reduceMul, Int.reduceEq, Int.reduceLT, Int.reduceLE, Int.reduceNe, Int.reduceBEq, Int.reduceToNat, ↓reduceIte, f0, f7, f30, f31, f32, d1, d200]
            first | exact hs | exact ⟨by simp [c2], hs⟩
          · have d200 : decide ((200 : Int) < ((1 + (encB l).length : Nat) : Int)) = false := decide_eq_false (by omega)
            simp -implicitDefEqProofs only [go_sem, Nat.reduceEqDiff, Nat.reduceLT, Nat.reduceAdd, Nat.reduceMul, Int.reduceEq, Int.reduceLT, Int.reduceLE, Int.reduceNe, Int.reduceBEq, Int.reduceToNat, ↓reduceIte, f0, f7, f30, f31, f32, d1, d200]
            first | exact hs | exact ⟨by simp [c2], hs⟩
    · have d1 : decide ((l.length : Int) = (ks.length : Int)) = false := decide_eq_false (by omega)
      rw [decide_eq_false hlen]
      simp -implicitDefEqProofs only [go_sem, Nat.reduceEqDiff, Nat.reduceLT, Nat.reduceAdd, Nat.reduceMul, Int.reduceEq, Int.reduceLT, Int.reduceLE, Int.reduceNe, Int.reduceBEq, Int.reduceToNat, ↓reduceIte, d1]
      first | exact Sub.refl _ | exact ⟨by simp, Sub.refl _⟩
end
end Go.Proofs.YtoolnkemkhianaaDoor
