/-
  Bytes: compared, copied, cut.
  Conditions: as each theorem states them.
-/
import Derived.Test.YtoolnkemkhianaaDoorFct
import Derived.Test.YtoolnkemkhianaaDoorAwr
import Derived.Test.YtoolnkemkhianaaDoorAwv
namespace Go.Proofs.YtoolnkemkhianaaDoor
open Go Go.RowKit Go.Proofs.YtoolnkemkhianaaDoorW
set_option maxRecDepth 100000
set_option linter.unusedSimpArgs false
set_option linter.unusedVariables false

def Hi (w0 : World) (H : Hp) : Prop := ∀ b o, H b = some o → w0.heap.size ≤ b
theorem ACalls.hi {P : Program} {w0 : World} {f : FuncId} {args : Array Value} {H : Hp} {Q : Value → Hp → Prop} (h : ACalls P w0 f args H Q) : ACalls P w0 f args H fun r H' => Q r H' ∧ Hi w0 H' :=
  fun R w hd hr => (h R w hd hr).mono fun _ _ ⟨r, H', he, hd', hr', hQ⟩ => ⟨r, H', he, hd', hr', hQ, fun b o hb => (hr'.own b o (Hp.join_left hb)).1⟩
/-- What a call owns when it begins lies above the first world. -/
theorem acalls_hi {P : Program} {w0 : World} {f : FuncId} {args : Array Value} {H : Hp} {Q : Value → Hp → Prop} (h : Hi w0 H → ACalls P w0 f args H Q) : ACalls P w0 f args H Q :=
  fun R w hd hr => h (fun b o hb => (hr.own b o (Hp.join_left hb)).1) R w hd hr
theorem Hi.ne {w0 : World} {A B : Hp} (h : Hi w0 A) {b : Nat} (hb : w0.heap.size ≤ b) (g : ∀ i, i ≠ b → B i = A i) : Hi w0 B := fun i o hi => by
  by_cases e : i = b
  · rw [e]; exact hb
  · rw [g i e] at hi; exact h i o hi
theorem Hi.app {w0 : World} {A B : Hp} {v r : Value} (h : Hi w0 A) (ha : App w0 A v r B) (hv : ∀ b, blk v = some b → w0.heap.size ≤ b) : Hi w0 B := fun i o hi => by
  by_cases e : blk r = some i
  · rcases ha.1 i e with h1 | h1
    · exact hv i h1.symm
    · exact h1.2
  · rw [ha.2 i e] at hi; exact h i o hi
/-- Fresh: not there before. -/
def Fsh (w0 : World) (H : Hp) (v : Value) : Prop := ∀ b, blk v = some b → H b = none ∧ w0.heap.size ≤ b
theorem App.fresh {w0 : World} {Hb H1 H2 : Hp} {v r : Value} (ha : App w0 H1 v r H2) (hs : Sub Hb H1) (hf : Fsh w0 Hb v) : Sub Hb H2 ∧ Fsh w0 Hb r := by
  have hr : Fsh w0 Hb r := fun b hb => by
    rcases ha.1 b hb with h1 | h1
    · exact hf b h1.symm
    · exact ⟨hs.none h1.1, h1.2⟩
  refine ⟨fun b o hb => ?_, hr⟩
  rw [ha.2 b (fun e => by rw [(hr b e).1] at hb; cases hb)]
  exact hs b o hb
/-- v is a slice of these bytes, to be read. -/
def Bt (w0 : World) (H : Hp) (v : Value) (p : List UInt8) : Prop := Rd w0 H 1 v p.length (u8s p)
/-- v is a slice of these bytes, the call's own. -/
def Own (H : Hp) (v : Value) (p : List UInt8) : Prop := Row H 5 1 v p.length (u8s p)
theorem Own.bt {w0 : World} {H : Hp} {v : Value} {p : List UInt8} (h : Own H v p) : Bt w0 H v p := Row.rd h
theorem Bt.sub {w0 : World} {H H' : Hp} {v : Value} {p : List UInt8} (h : Bt w0 H v p) (hs : Sub H H') (hh : Hi w0 H') : Bt w0 H' v p := Rd.sub h hs hh
theorem Own.sub {H H' : Hp} {v : Value} {p : List UInt8} (h : Own H v p) (hs : Sub H H') : Own H' v p := Row.keep h fun b o _ hb => hs b o hb
theorem u8s_app (p q : List UInt8) : u8s (p ++ q) = u8s p ++ u8s q := by simp [u8s]
theorem u8s_take (p : List UInt8) (k : Nat) : u8s (p.take k) = (u8s p).take k := by simp [u8s, List.map_take]
theorem u8s_drop (p : List UInt8) (k : Nat) : u8s (p.drop k) = (u8s p).drop k := by simp [u8s, List.map_drop]
theorem u8s_cell (p : List UInt8) : ∀ u ∈ u8s p, cell1 u = true := fun u hu => by
  unfold u8s at hu
  obtain ⟨b, _, rfl⟩ := List.mem_map.1 hu
  exact cell1_int
theorem Own.nil (H : Hp) : Own H (.slice none 0 0) [] := ⟨rfl, .inl ⟨rfl, rfl⟩⟩
theorem Own.empty {H : Hp} {b : Nat} (h : H b = some (.cells #[] 5 (0, 0))) : Own H (.slice (some ⟨b, 0, none⟩) 0 0) [] := ⟨rfl, .inr ⟨b, 0, #[], rfl, h, Nat.le_refl _, rfl, rfl⟩⟩
theorem Bt.front {w0 : World} {H : Hp} {p : List UInt8} {a : Option Addr} {n c : Nat} (h : Bt w0 H (.slice a n c) p) {k : Nat} (hk : k ≤ p.length) : Bt w0 H (.slice a k c) (p.take k) := by
  have := Rd.front h hk rfl
  unfold Bt
  rw [u8s_take, List.length_take, Nat.min_eq_left hk]
  rw [Nat.mul_one] at this
  exact this
theorem Bt.back {w0 : World} {H : Hp} {p : List UInt8} {a : Option Addr} {n c : Nat} (h : Bt w0 H (.slice a n c) p) {k : Nat} (hk : k ≤ p.length) : Bt w0 H (.slice (if c = k then a else a.map (·.add (k * 1))) (n - k) (c - k)) (p.drop k) := by
  have hn : n = p.length := by obtain ⟨a', c', e, _⟩ := Rd.slice h; cases e; rfl
  subst hn
  have := Rd.back h hk rfl
  unfold Bt
  rw [u8s_drop, List.length_drop]
  rw [Nat.mul_one] at this ⊢
  exact this
section
variable {w0 : World} {H : Hp} {u v : Value} {p q : List UInt8}
theorem same_ok (hp : Bt w0 H u p) (hq : Bt w0 H v q) : ACalls Tryd.prog w0 19 #[u, v] H fun r H' => r = .bool (p == q) ∧ H' = H := by
  refine acalls_of Tryd.func19 rfl Tryd.ntmps19 r19 (by simp) ?_
  simp -implicitDefEqProofs only [go_sem, Nat.reduceEqDiff, Nat.reduceLT, Nat.reduceAdd, Nat.reduceMul, Int.reduceEq, Int.reduceLT, Int.reduceLE, Int.reduceNe, Int.reduceBEq, Int.reduceToNat, ↓reduceIte]
  refine conv_bytes (dst := none) (ty := 0) (pos := "") (after := #[]) (g := none) Tryd.underlying22 Tryd.underlying5 Tryd.underlying9 (by simp -implicitDefEqProofs only [go_sem, Nat.reduceEqDiff, Nat.reduceLT, Nat.reduceAdd, Nat.reduceMul, Int.reduceEq, Int.reduceLT, Int.reduceLE, Int.reduceNe, Int.reduceBEq, Int.reduceToNat, ↓reduceIte]) hp ?_
  simp -implicitDefEqProofs only [go_sem, Nat.reduceEqDiff, Nat.reduceLT, Nat.reduceAdd, Nat.reduceMul, Int.reduceEq, Int.reduceLT, Int.reduceLE, Int.reduceNe, Int.reduceBEq, Int.reduceToNat, ↓reduceIte]
  refine conv_bytes (dst := none) (ty := 0) (pos := "") (after := #[]) (g := none) Tryd.underlying22 Tryd.underlying5 Tryd.underlying9 (by simp -implicitDefEqProofs only [go_sem, Nat.reduceEqDiff, Nat.reduceLT, Nat.reduceAdd, Nat.reduceMul, Int.reduceEq, Int.reduceLT, Int.reduceLE, Int.reduceNe, Int.reduceBEq, Int.reduceToNat, ↓reduceIte]) hq ?_
  simp -implicitDefEqProofs only [go_sem, Nat.reduceEqDiff, Nat.reduceLT, Nat.reduceAdd, Nat.reduceMul, Int.reduceEq, Int.reduceLT, Int.reduceLE, Int.reduceNe, Int.reduceBEq, Int.reduceToNat, ↓reduceIte, str_list]
theorem less_ok (hp : Bt w0 H u p) (hq : Bt w0 H v q) : ACalls Tryd.prog w0 20 #[u, v] H fun r H' => r = .bool (Op.bytesLess p q) ∧ H' = H := by
  refine acalls_of Tryd.func20 rfl Tryd.ntmps20 r20 (by simp) ?_
  simp -implicitDefEqProofs only [go_sem, Nat.reduceEqDiff, Nat.reduceLT, Nat.reduceAdd, Nat.reduceMul, Int.reduceEq, Int.reduceLT, Int.reduceLE, Int.reduceNe, Int.reduceBEq, Int.reduceToNat, ↓reduceIte]
  refine conv_bytes (dst := none) (ty := 0) (pos := "") (after := #[]) (g := none) Tryd.underlying22 Tryd.underlying5 Tryd.underlying9 (by simp -implicitDefEqProofs only [go_sem, Nat.reduceEqDiff, Nat.reduceLT, Nat.reduceAdd, Nat.reduceMul, Int.reduceEq, Int.reduceLT, Int.reduceLE, Int.reduceNe, Int.reduceBEq, Int.reduceToNat, ↓reduceIte]) hp ?_
  simp -implicitDefEqProofs only [go_sem, Nat.reduceEqDiff, Nat.reduceLT, Nat.reduceAdd, Nat.reduceMul, Int.reduceEq, Int.reduceLT, Int.reduceLE, Int.reduceNe, Int.reduceBEq, Int.reduceToNat, ↓reduceIte]
  refine conv_bytes (dst := none) (ty := 0) (pos := "") (after := #[]) (g := none) Tryd.underlying22 Tryd.underlying5 Tryd.underlying9 (by simp -implicitDefEqProofs only [go_sem, Nat.reduceEqDiff, Nat.reduceLT, Nat.reduceAdd, Nat.reduceMul, Int.reduceEq, Int.reduceLT, Int.reduceLE, Int.reduceNe, Int.reduceBEq, Int.reduceToNat, ↓reduceIte]) hq ?_
  simp -implicitDefEqProofs only [go_sem, Nat.reduceEqDiff, Nat.reduceLT, Nat.reduceAdd, Nat.reduceMul, Int.reduceEq, Int.reduceLT, Int.reduceLE, Int.reduceNe, Int.reduceBEq, Int.reduceToNat, ↓reduceIte, str_list]
end
end Go.Proofs.YtoolnkemkhianaaDoor
