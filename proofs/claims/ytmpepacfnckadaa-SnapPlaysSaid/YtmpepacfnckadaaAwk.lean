/-
  Small words for walks: new blocks, whole blocks read and written, elements of rows.
  No condition: every theorem here is general.
-/
import Derived.Test.YtmpepacfnckadaaAwg
set_option linter.unusedSimpArgs false
set_option linter.unusedVariables false
namespace Go.Proofs.YtmpepacfnckadaaW
open Go Go.RowKit

theorem newK_of {w0 : World} {o : Obj} {mk : Nat → Value} {K : Value → Hp → Prop} {H : Hp}
    (h : ∀ b H', w0.heap.size ≤ b → H b = none → H' b = some o → Sub H H' → (∀ i, i ≠ b → H' i = H i) → K (mk b) H') : NewK w0 o mk K H :=
  fun b hb hn => h b _ hb hn (Hp.set_same _ _ _) ((Sub.refl H).set hn _) (fun i hi => Hp.set_ne _ _ _ _ hi)
theorem ldc (w0 : World) {H : Hp} {b : Nat} {l : List Value} {e : TypeId} {fr : Nat × Nat} (h : H b = some (.cells l.toArray e fr)) (n : Nat) (hn : l.length = n := by rfl) :
    ldCells w0 H ⟨b, 0, none⟩ 0 n = some l := by
  subst hn
  rw [ldCells_row h 0 l.length 0 (by simp)]
  simp
theorem store_all {P : Program} {w0 : World} {H : Hp} {K : Value → Hp → Prop} {b : Nat} {t : TypeId} {cs cur : Array Value} {e : TypeId} (hb : H b = some (.cells cur e (0, 0))) (hs : cs.size = cur.size)
    (h1 : cs.toList.all cell1 = true) (ht : szOf P t = some cs.size) (hK : ∀ H', H' b = some (.cells cs e (0, 0)) → (∀ i, i ≠ b → H' i = H i) → K undef H') : StoreK P w0 t K H (.agg cs) (.pointer (some ⟨b, 0, none⟩)) := by
  rw [storeK_all hb hs (fun u hu => List.all_eq_true.1 h1 u hu)]
  exact ⟨ht.symm, hK _ (Hp.set_same _ _ _) fun i hi => Hp.set_ne _ _ _ _ hi⟩
theorem Sub.ne2 {A B C : Hp} {b : Nat} (hn : A b = none) (h1 : ∀ i, i ≠ b → B i = A i) (h2 : ∀ i, i ≠ b → C i = B i) : Sub A C := fun i o hi => by
  have : i ≠ b := fun e => by rw [e, hn] at hi; cases hi
  rw [h2 i this, h1 i this]; exact hi
theorem Sub.ne1 {A B : Hp} {b : Nat} (hn : A b = none) (h1 : ∀ i, i ≠ b → B i = A i) : Sub A B := Sub.ne2 hn h1 fun _ _ => rfl
theorem Sub.none {A B : Hp} (h : Sub A B) {b : Nat} (hb : B b = none) : A b = none := by
  cases e : A b with
  | none => rfl
  | some o => rw [h b o e] at hb; cases hb
theorem flat_at {α : Type} (f : α → List Value) (sz : Nat) : ∀ (zs : List α), (∀ z ∈ zs, (f z).length = sz) → ∀ (k : Nat) (z : α), zs[k]? = some z → ((zs.flatMap f).drop (k * sz)).take sz = f z
  | [], _, k, z, h => by simp at h
  | a :: zs, hf, 0, z, h => by
    simp only [List.getElem?_cons_zero, Option.some.injEq] at h
    subst h
    have := hf a (by simp)
    simp only [List.flatMap_cons, Nat.zero_mul, List.drop_zero]
    rw [← this, List.take_left]
  | a :: zs, hf, k + 1, z, h => by
    simp only [List.getElem?_cons_succ] at h
    have ha := hf a (by simp)
    have ih := flat_at f sz zs (fun z hz => hf z (by simp [hz])) k z h
    rw [List.flatMap_cons, Nat.add_mul, Nat.one_mul, Nat.add_comm, ← List.drop_drop]
    rw [show (f a ++ zs.flatMap f).drop sz = zs.flatMap f by rw [← ha, List.drop_left]]
    exact ih
theorem Row.at (w0 : World) {α : Type} {f : α → List Value} {H : Hp} {e sz : Nat} {v : Value} {zs : List α} {n : Nat} (h : Row H e sz v n (zs.flatMap f)) (hn : n = zs.length) (hf : ∀ z ∈ zs, (f z).length = sz) {k : Nat} {z : α} (hk : zs[k]? = some z) :
    ∃ g cap, v = .slice (some ⟨g, 0, none⟩) n cap ∧ ldCells w0 H ⟨g, k * sz, none⟩ 0 sz = some (f z) := by
  have hlt : k < zs.length := by
    rcases Nat.lt_or_ge k zs.length with h | h
    · exact h
    · rw [List.getElem?_eq_none h] at hk; cases hk
  obtain ⟨hl, ⟨_, h0⟩ | ⟨g, cap, cur, hv, hg, hc, hs, ht⟩⟩ := h
  · omega
  · refine ⟨g, cap, hv, ?_⟩
    have hle : k * sz + sz ≤ n * sz := by
      rw [← Nat.succ_mul]; exact Nat.mul_le_mul_right _ (by omega)
    have hle2 : n * sz ≤ cap * sz := Nat.mul_le_mul_right _ hc
    rw [ldCells_row hg (k * sz) sz 0 (by omega)]
    have := flat_at f sz zs hf k z hk
    rw [← ht] at this
    rw [← this, Nat.add_zero, List.drop_take, List.take_take, Nat.min_eq_left (by omega)]
theorem Row.len {H : Hp} {e sz : Nat} {v : Value} {n : Nat} {xs : List Value} (h : Row H e sz v n xs) : ∃ a c, v = .slice a n c := h.slice
end Go.Proofs.YtmpepacfnckadaaW
