/-
  key.Read, walked.
  Conditions: as each theorem states them.
-/
import Derived.Test.YtoolnkemkhianaaDoorKtk
import Derived.Test.YtoolnkemkhianaaDoorKjn
namespace Go.Proofs.YtoolnkemkhianaaDoor
open Go Go.RowKit Go.Proofs.YtoolnkemkhianaaDoorW
set_option maxRecDepth 100000
set_option maxHeartbeats 1000000
set_option linter.unusedSimpArgs false
set_option linter.unusedVariables false
theorem bsvk (x : Va) : bsCells Tryd.prog 36 1 #[(0, va x)] = some (vc x).toArray := by kernel_rfl
attribute [go_sem] bsvk
theorem tk_len {h : UInt8} {t q : List UInt8} {x : Va} (e : tk (h :: t) = some (x, q)) : q.length ≤ t.length := by
  by_cases k1 : h.toNat = 1
  · rw [tk1 k1] at e; cases e; exact Nat.le_refl _
  by_cases k2 : h.toNat = 2
  · cases t with
    | nil => rw [tk2n k2 rfl] at e; cases e
    | cons b r =>
      rw [tk2 (b := b) k2 rfl] at e
      split at e
      · cases e; simp
      · cases e
  by_cases k3 : h.toNat = 3
  · rw [tk3 k3] at e
    split at e
    · cases e
    · cases e; simp
  by_cases k4 : h.toNat = 4
  · rw [tk4 k4] at e
    split at e
    · cases e
    split at e
    · cases e; simp
    · cases e
  · rw [tkn k1 k2 k3 k4] at e; cases e
/-- What a reading gives. -/
def RdQ (w0 : World) (H : Hp) (p : List UInt8) (r : Value) (H' : Hp) : Prop :=
  Sub H H' ∧ ∃ o, Rdd p o ∧ (match o with
    | some l => l.length ≤ p.length ∧ ∃ s, r = .tuple #[s, .int .i64 0] ∧ OwnV H' s l ∧ Fsh w0 H s
    | none => r = .tuple #[.slice none 0 0, .int .i64 3])
def RdS (w0 : World) (p : List UInt8) (H0 : Hp) (v s : Value) (m : Nat) (H : Hp) : Prop :=
  ∃ (done : List Va) (rest : List UInt8), rest.length = m ∧ Bt w0 H0 v rest ∧ OwnV H s done ∧ Fsh w0 H0 s ∧ Sub H0 H ∧ done.length + rest.length ≤ p.length ∧ ∀ o, Rdd rest o → Rdd p (o.map (done ++ ·))
theorem RdS.next {w0 : World} {p q : List UInt8} {H0 H' : Hp} {v' s' : Value} {h : UInt8} {t : List UInt8} {x : Va} {done : List Va} {m : Nat} (hm : (h :: t).length = m) (hk : tk (h :: t) = some (x, q)) (hb : Bt w0 H0 v' q) (ho : OwnV H' s' (done ++ [x])) (hf : Fsh w0 H0 s') (hs : Sub H0 H')
    (hl : done.length + (h :: t).length ≤ p.length) (hr : ∀ o, Rdd (h :: t) o → Rdd p (o.map (done ++ ·))) : ∃ m', m' < m ∧ RdS w0 p H0 v' s' m' H' := by
  have hq := tk_len hk
  refine ⟨q.length, by rw [← hm, List.length_cons]; omega, done ++ [x], q, rfl, hb, ho, hf, hs, ?_, fun o ho => ?_⟩
  · rw [List.length_append, List.length_cons] at *
    simp only [List.length_cons, List.length_nil] at *
    omega
  · have := hr _ (.step hk ho)
    rw [Option.map_map] at this
    have e : ((fun l => done ++ l) ∘ fun l => x :: l) = fun l => done ++ [x] ++ l := by funext l; simp
    rw [e] at this
    exact this
/-- A call that leaves memory as it was, seen from a greater heap. -/
theorem ACalls.base {P : Program} {w0 : World} {f : FuncId} {args : Array Value} {H0 H1 : Hp} {A : Value → Prop} (hs : Sub H0 H1) (h : ACalls P w0 f args H0 fun r H' => A r ∧ H' = H0) : ACalls P w0 f args H1 fun r H' => A r ∧ H' = H1 := by
  obtain ⟨R, hR⟩ : ∃ R : Hp, R = fun b => match H0 b with | some _ => none | none => H1 b := ⟨_, rfl⟩
  have hj : H0.join R = H1 := by
    funext b
    cases hb : H0 b with
    | some o => rw [Hp.join_left hb, hs b o hb]
    | none => rw [Hp.join_right hb, hR]; simp only [hb]
  have hd : H0.disj R := fun b => by
    cases hb : H0 b with
    | none => exact .inl rfl
    | some o => right; rw [hR]; simp only [hb]
  have := ACalls.frame h hd
  rw [hj] at this
  refine this.mono ?_
  rintro r H'' ⟨H', rfl, _, ha, rfl⟩
  exact ⟨ha, hj⟩
def KrI (w0 : World) (p : List UInt8) (H0 : Hp) (m : Nat) (F : Fr) (H : Hp) : Prop := ∃ v s, F 0 = v ∧ F 4 = s ∧ RdS w0 p H0 v s m H
section
variable {w0 : World} {H Hb : Hp}
theorem kread_ok {u : Value} {p : List UInt8} (ht : Tbl w0) (hp : Bt w0 H u p) (hn : p.length < 100000000) : ACalls Tryd.prog w0 28 #[u] H (RdQ w0 H p) := by
  refine acalls_of Tryd.func28 rfl Tryd.ntmps28 r28 (by simp) ?_
  simp -implicitDefEqProofs only [go_sem, Nat.reduceEqDiff, Nat.reduceLT, Nat.reduceAdd, Nat.reduceMul, Int.reduceEq, Int.reduceLT, Int.reduceLE, Int.reduceNe, Int.reduceBEq, Int.reduceToNat, ↓reduceIte]
  refine AC.loopH (KrI w0 p H) (n := p.length) ⟨u, .slice none 0 0, by simp -implicitDefEqProofs only [go_sem, Nat.reduceEqDiff, Nat.reduceLT, Nat.reduceAdd, Nat.reduceMul, Int.reduceEq, Int.reduceLT, Int.reduceLE, Int.reduceNe, Int.reduceBEq, Int.reduceToNat, ↓reduceIte], by simp -implicitDefEqProofs only [go_sem, Nat.reduceEqDiff, Nat.reduceLT, Nat.reduceAdd, Nat.reduceMul, Int.reduceEq, Int.reduceLT, Int.reduceLE, Int.reduceNe, Int.reduceBEq, Int.reduceToNat, ↓reduceIte], [], p, rfl, hp, Row.nil _ _ _, fun b hb => (by simp [blk] at hb), Sub.refl _, by simp, fun o ho => by simpa using ho⟩ ?_
  rintro m F H1 ⟨v, s, f0, f4, done, rest, hm, hb, hov, hf, hs, hl, hr⟩ hh
  obtain ⟨ra, rc, er, hrc⟩ := Rd.slice hb
  subst er
  cases rest with
  | nil =>
    have d1 : decide ((0 : Int) < ((0 : Nat) : Int)) = false := rfl
    have d1' : decide ((0 : Int) < 0) = false := rfl
    simp -implicitDefEqProofs only [go_sem, Nat.reduceEqDiff, Nat.reduceLT, Nat.reduceAdd, Nat.reduceMul, Int.reduceEq, Int.reduceLT, Int.reduceLE, Int.reduceNe, Int.reduceBEq, Int.reduceToNat, ↓reduceIte, f0, f4, List.length_nil, d1, d1']
    have := hr _ .nil
    refine ⟨hs, _, this, ?_⟩
    simp only [Option.map_some, List.append_nil]
    exact ⟨by simpa using hl, s, rfl, hov, hf⟩
  | cons h t =>
    obtain ⟨n, hnn⟩ : ∃ n, n = (h :: t).length := ⟨_, rfl⟩
    have hnn' : n = t.length + 1 := hnn
    rw [List.length_cons] at hl
    have d1 : decide ((0 : Int) < (n : Int)) = true := decide_eq_true (by omega)
    rw [← hnn] at f0
    rw [← hnn] at hb
    simp -implicitDefEqProofs only [go_sem, Nat.reduceEqDiff, Nat.reduceLT, Nat.reduceAdd, Nat.reduceMul, Int.reduceEq, Int.reduceLT, Int.reduceLE, Int.reduceNe, Int.reduceBEq, Int.reduceToNat, ↓reduceIte, f0, f4, d1]
    refine (ACalls.base hs (take_ok ht hb (by omega))).mono ?_
    rintro r H2 ⟨hq, rfl⟩
    unfold TkQ at hq
    cases hk : tk (h :: t) with
    | none =>
      rw [hk] at hq
      obtain ⟨y, s', rfl⟩ := hq
      simp -implicitDefEqProofs only [go_sem, Nat.reduceEqDiff, Nat.reduceLT, Nat.reduceAdd, Nat.reduceMul, Int.reduceEq, Int.reduceLT, Int.reduceLE, Int.reduceNe, Int.reduceBEq, Int.reduceToNat, ↓reduceIte]
      refine newK_of ?_
      intro b2 H3 hb2 hn2 h2 s2 g2
      simp -implicitDefEqProofs only [go_sem, Nat.reduceEqDiff, Nat.reduceLT, Nat.reduceAdd, Nat.reduceMul, Int.reduceEq, Int.reduceLT, Int.reduceLE, Int.reduceNe, Int.reduceBEq, Int.reduceToNat, ↓reduceIte]
      refine store_all (cs := (vc y).toArray) h2 rfl rfl s36 ?_
      intro H4 h4 g4
      simp -implicitDefEqProofs only [go_sem, Nat.reduceEqDiff, Nat.reduceLT, Nat.reduceAdd, Nat.reduceMul, Int.reduceEq, Int.reduceLT, Int.reduceLE, Int.reduceNe, Int.reduceBEq, Int.reduceToNat, ↓reduceIte]
      refine ⟨hs.trans (Sub.ne2 hn2 g2 g4), none, ?_, rfl⟩
      have := hr _ (.bad hk)
      exact this
    | some z =>
      obtain ⟨x, q⟩ := z
      rw [hk] at hq
      obtain ⟨s', rfl, hbq⟩ := hq
      simp -implicitDefEqProofs only [go_sem, Nat.reduceEqDiff, Nat.reduceLT, Nat.reduceAdd, Nat.reduceMul, Int.reduceEq, Int.reduceLT, Int.reduceLE, Int.reduceNe, Int.reduceBEq, Int.reduceToNat, ↓reduceIte]
      refine newK_of ?_
      intro b2 H3 hb2 hn2 h2 s2 g2
      simp -implicitDefEqProofs only [go_sem, Nat.reduceEqDiff, Nat.reduceLT, Nat.reduceAdd, Nat.reduceMul, Int.reduceEq, Int.reduceLT, Int.reduceLE, Int.reduceNe, Int.reduceBEq, Int.reduceToNat, ↓reduceIte]
      refine store_all (cs := (vc x).toArray) h2 rfl rfl s36 ?_
      intro H4 h4 g4
      have s4' := Sub.ne2 hn2 g2 g4
      have l4 := ldc w0 (l := vc x) h4 4
      simp -implicitDefEqProofs only [go_sem, Nat.reduceEqDiff, Nat.reduceLT, Nat.reduceAdd, Nat.reduceMul, Int.reduceEq, Int.reduceLT, Int.reduceLE, Int.reduceNe, Int.reduceBEq, Int.reduceToNat, ↓reduceIte, f4, l4]
      refine newK_of ?_
      intro bx H5 hbx hnx hx sx gx
      have hone : H5 bx = some (.cells ([x].flatMap vc).toArray 36 (0, 0)) := by rw [hx]; simp
      have hvs : Vs w0 H5 (.slice (some ⟨bx, 0, none⟩) 1 1) [x] := by
        refine .inr ⟨_, _, rfl, Nat.le_refl _, ?_⟩
        rw [ldCells_row hone 0 _ 0 (by simp [vc])]
        rfl
      simp -implicitDefEqProofs only [go_sem, Nat.reduceEqDiff, Nat.reduceLT, Nat.reduceAdd, Nat.reduceMul, Int.reduceEq, Int.reduceLT, Int.reduceLE, Int.reduceNe, Int.reduceBEq, Int.reduceToNat, ↓reduceIte, f4]
      refine app_v (Hb := H) (by simp -implicitDefEqProofs only [go_sem, Nat.reduceEqDiff, Nat.reduceLT, Nat.reduceAdd, Nat.reduceMul, Int.reduceEq, Int.reduceLT, Int.reduceLE, Int.reduceNe, Int.reduceBEq, Int.reduceToNat, ↓reduceIte, f4]) ((hov.sub s4').sub sx) (by simp -implicitDefEqProofs only [go_sem, Nat.reduceEqDiff, Nat.reduceLT, Nat.reduceAdd, Nat.reduceMul, Int.reduceEq, Int.reduceLT, Int.reduceLE, Int.reduceNe, Int.reduceBEq, Int.reduceToNat, ↓reduceIte]) hvs (by simp; omega) hf (hs.trans (s4'.trans sx)) ?_
      intro r6 H6 o6 f6 s6 a6
      simp -implicitDefEqProofs only [go_sem, Nat.reduceEqDiff, Nat.reduceLT, Nat.reduceAdd, Nat.reduceMul, Int.reduceEq, Int.reduceLT, Int.reduceLE, Int.reduceNe, Int.reduceBEq, Int.reduceToNat, ↓reduceIte]
      obtain ⟨m', hm', hrds⟩ := RdS.next hm hk hbq o6 f6 s6 (by rw [List.length_cons]; exact hl) hr
      exact ⟨m', hm', s', r6, by simp -implicitDefEqProofs only [go_sem, Nat.reduceEqDiff, Nat.reduceLT, Nat.reduceAdd, Nat.reduceMul, Int.reduceEq, Int.reduceLT, Int.reduceLE, Int.reduceNe, Int.reduceBEq, Int.reduceToNat, ↓reduceIte], by simp -implicitDefEqProofs only [go_sem, Nat.reduceEqDiff, Nat.reduceLT, Nat.reduceAdd, Nat.reduceMul, Int.reduceEq, Int.reduceLT, Int.reduceLE, Int.reduceNe, Int.reduceBEq, Int.reduceToNat, ↓reduceIte], hrds⟩
end
end Go.Proofs.YtoolnkemkhianaaDoor
