/-
  Small words for walks: new blocks, whole blocks read and written, elements of rows.
  No condition: every theorem here is general.
-/
import Derived.Test.YtoolnkemkhianaaDoorAwg
set_option linter.unusedSimpArgs false
set_option linter.unusedVariables false
namespace Go.Proofs.YtoolnkemkhianaaDoorW
open Go Go.RowKit

theorem newK_of {w0 : World} {o : Obj} {mk : Nat → Value} {K : Value → Hp → Prop} {H : Hp}
    (h : ∀ b H', w0.heap.size ≤ b → H b = none → H' b = some o → Sub H H' → (∀ i, i ≠ b → H' i = H i) → K (mk b) H') : NewK w0 o mk K H :=
  fun b hb hn => h b _ hb hn (Hp.set_same _ _ _) ((Sub.refl H).set hn _) (fun i hi => Hp.set_ne _ _ _ _ hi)
theorem ldc (w0 : World) {H : Hp} {b : Nat} {l : List Value} {e : TypeId} {fr : Nat × Nat} (h : H b = some (.cells l.toArray e fr)) (n : Nat) (hn : l.length = n := by rfl) :
    ldCells w0 H ⟨b, 0, none⟩ 0 n = some l := by
  subst hn
  rw [ldCells_row h 0 l.length 0 (by simp)]
  simp
theorem store_all {P : Program} {w0 : World} {H : Hp} {K : Value → Hp → Prop} {b : Nat} {t : TypeId} {cs cur : Array Value} {e : TypeId} (hb : H b = some (.cells cur e (0, 0))) (hs : cs.size = cur.size)
    (h1 : cs.toList.all cell1 = true) (ht : szOf P t = some cs.size) (hK : ∀ H', H' b = some (.cells cs e (0, 0)) → (∀ i, i ≠ b → H' i = H i) → K undef H') : StoreK P w0 t K H (.agg cs) (.pointer (some ⟨b, 0, none⟩)) := by
  rw [storeK_all hb hs (fun u hu => List.all_eq_true.1 h1 u hu)]
  exact ⟨ht.symm, hK _ (Hp.set_same _ _ _) fun i hi => Hp.set_ne _ _ _ _ hi⟩
theorem Sub.ne2 {A B C : Hp} {b : Nat} (hn : A b = none) (h1 : ∀ i, i ≠ b → B i = A i) (h2 : ∀ i, i ≠ b → C i = B i) : Sub A C := fun i o hi => by
  have : i ≠ b := fun e => by rw [e, hn] at hi; cases hi
  rw [h2 i this, h1 i this]; exact hi
theorem Sub.ne1 {A B : Hp} {b : Nat} (hn : A b = none) (h1 : ∀ i, i ≠ b → B i = A i) : Sub A B := Sub.ne2 hn h1 fun _ _ => rfl
theorem Sub.none {A B : Hp} (h : Sub A B) {b : Nat} (hb : B b = none) : A b = none := by
  cases e : A b with
  | none => rfl
  | some o => rw [h b o e] at hb; cases hb
theorem flat_at {α : Type} (f : α → List Value) (sz : Nat) : ∀ (zs : List α), (∀ z ∈ zs, (f z).length = sz) → ∀ (k : Nat) (z : α), zs[k]? = some z → ((zs.flatMap f).drop (k * sz)).take sz = f z
  | [], _, k, z, h => by simp at h
  | a :: zs, hf, 0, z, h => by
    simp only [List.getElem?_cons_zero, Option.some.injEq] at h
    subst h
    have := hf a (by simp)
    simp only [List.flatMap_cons, Nat.zero_mul, List.drop_zero]
    rw [← this, List.take_left]
  | a :: zs, hf, k + 1, z, h => by
    simp only [List.getElem?_cons_succ] at h
    have ha := hf a (by simp)
    have ih := flat_at f sz zs (fun z hz => hf z (by simp [hz])) k z h
    rw [List.flatMap_cons, Nat.add_mul, Nat.one_mul, Nat.add_comm, ← List.drop_drop]
    rw [show (f a ++ zs.flatMap f).drop sz = zs.flatMap f by rw [← ha, List.drop_left]]
    exact ih
theorem Row.at (w0 : World) {α : Type} {f : α → List Value} {H : Hp} {e sz : Nat} {v : Value} {zs : List α} {n : Nat} (h : Row H e sz v n (zs.flatMap f)) (hn : n = zs.length) (hf : ∀ z ∈ zs, (f z).length = sz) {k : Nat} {z : α} (hk : zs[k]? = some z) :
    ∃ g cap, v = .slice (some ⟨g, 0, none⟩) n cap ∧ ldCells w0 H ⟨g, k * sz, none⟩ 0 sz = some (f z) := by
  have hlt : k < zs.length := by
    rcases Nat.lt_or_ge k zs.length with h | h
    · exact h
    · rw [List.getElem?_eq_none h] at hk; cases hk
  obtain ⟨hl, ⟨_, h0⟩ | ⟨g, cap, cur, hv, hg, hc, hs, ht⟩⟩ := h
  · omega
  · refine ⟨g, cap, hv, ?_⟩
    have hle : k * sz + sz ≤ n * sz := by
      rw [← Nat.succ_mul]; exact Nat.mul_le_mul_right _ (by omega)
    have hle2 : n * sz ≤ cap * sz := Nat.mul_le_mul_right _ hc
    rw [ldCells_row hg (k * sz) sz 0 (by omega)]
    have := flat_at f sz zs hf k z hk
    rw [← ht] at this
    rw [← this, Nat.add_zero, List.drop_take, List.take_take, Nat.min_eq_left (by omega)]
/-- A row that is the call's own since Hb grows by what a new block holds. -/
theorem app_fresh {w0 : World} {Hb H1 H2 : Hp} {v : Value} {g : Nat} (hs : Sub Hb H1) (hfr : ∀ b, blk v = some b → Hb b = none ∧ w0.heap.size ≤ b)
    (hg : some g = blk v ∨ (H1 g = none ∧ w0.heap.size ≤ g)) (h2 : ∀ b, b ≠ g → H2 b = H1 b) : Sub Hb H2 ∧ Hb g = none ∧ w0.heap.size ≤ g := by
  have hn : Hb g = none ∧ w0.heap.size ≤ g := by
    rcases hg with hg | ⟨hg, hw⟩
    · exact hfr g hg.symm
    · exact ⟨hs.none hg, hw⟩
  refine ⟨fun b o hb => ?_, hn⟩
  rw [h2 b (fun e => by rw [e, hn.1] at hb; cases hb)]
  exact hs b o hb
/-- A loop; its own memory lies above the first world. -/
theorem AC.loopH {P : Program} {w0 : World} {N : Nat} {c : Code} {Q : Exit → Fr → Hp → Prop} (I : Nat → Fr → Hp → Prop) {n : Nat} {F : Fr} {H : Hp} (h0 : I n F H)
    (round : ∀ n F H, I n F H → (∀ b o, H b = some o → w0.heap.size ≤ b) → VC P w0 N c (SeqK (fun F' H' => ∃ m, m < n ∧ I m F' H') Q) F H) : AC P w0 N (.loop c) Q F H := by
  intro R a w hd hr hF
  classical
  let S : Act → World → Nat → Prop := fun a w n => ∃ F H, H.disj R ∧ Rel w0 (H.join R) w ∧ FRel N F a ∧ I n F H
  let μ : Act → World → Nat := fun a w => if h : ∃ n, S a w n then Classical.choose (least h) else 0
  refine wp_loop (fun a w => ∃ n, S a w n) μ ⟨n, F, H, hd, hr, hF, h0⟩ ?_
  intro a w hS
  have hμ : μ a w = Classical.choose (least hS) := by simp only [μ]; rw [dif_pos hS]
  obtain ⟨F, H, hd, hr, hF, hI⟩ := (Classical.choose_spec (least hS)).1
  refine wp_mono (VC.sound c _ F H (round _ F H hI (fun b o hb => (hr.own b o (Hp.join_left hb)).1)) R a w hd hr hF) ?_
  rintro e a' w' ⟨F', H', hd', hr', hF', hq⟩
  cases e with
  | normal =>
    obtain ⟨m, hm, hI'⟩ := hq
    have hS' : ∃ n, S a' w' n := ⟨m, F', H', hd', hr', hF', hI'⟩
    refine ⟨hS', ?_⟩
    have hμ' : μ a' w' = Classical.choose (least hS') := by simp only [μ]; rw [dif_pos hS']
    rw [hμ, hμ']
    exact Nat.lt_of_le_of_lt ((Classical.choose_spec (least hS')).2 m ⟨F', H', hd', hr', hF', hI'⟩) hm
  | _ => exact ⟨F', H', hd', hr', hF', hq⟩
theorem ldCells_get {w0 : World} {H : Hp} {a : Addr} : ∀ {n i : Nat} {l : List Value}, ldCells w0 H a i n = some l → ∀ o, o < n → ld w0 H (a.add (i + o)) = l[o]?
  | 0, _, _, _, o, ho => by omega
  | n + 1, i, l, h, o, ho => by
    simp only [ldCells] at h
    cases hv : ld w0 H (a.add i) with
    | none => rw [hv] at h; cases h
    | some v =>
      rw [hv, Option.bind_some] at h
      cases hl : ldCells w0 H a (i + 1) n with
      | none => rw [hl] at h; cases h
      | some l' =>
        rw [hl, Option.map_some, Option.some.injEq] at h
        subst h
        cases o with
        | zero => rw [Nat.add_zero, hv]; rfl
        | succ o =>
          have := ldCells_get hl o (by omega)
          rw [List.getElem?_cons_succ, ← this, show i + (o + 1) = i + 1 + o by omega]
theorem Row.atc (w0 : World) {α : Type} {f : α → List Value} {H : Hp} {e sz : Nat} {v : Value} {zs : List α} {n : Nat} (h : Row H e sz v n (zs.flatMap f)) (hn : n = zs.length) (hf : ∀ z ∈ zs, (f z).length = sz) {k : Nat} {z : α} (hk : zs[k]? = some z) :
    ∃ g cap, v = .slice (some ⟨g, 0, none⟩) n cap ∧ ldCells w0 H ⟨g, k * sz, none⟩ 0 sz = some (f z) ∧ ∀ o, o < sz → ld w0 H ⟨g, k * sz + o, none⟩ = (f z)[o]? := by
  obtain ⟨g, cap, h1, h2⟩ := h.at w0 hn hf hk
  refine ⟨g, cap, h1, h2, fun o ho => ?_⟩
  have := ldCells_get h2 o ho
  rw [add_at, Nat.zero_add] at this
  exact this
theorem flat_len {α : Type} {f : α → List Value} {sz : Nat} : ∀ (zs : List α), (∀ z ∈ zs, (f z).length = sz) → (zs.flatMap f).length = zs.length * sz
  | [], _ => by simp
  | a :: zs, hf => by
    rw [List.flatMap_cons, List.length_append, hf a (by simp), flat_len zs (fun z hz => hf z (by simp [hz])), List.length_cons, Nat.succ_mul, Nat.add_comm]
theorem flat_set {α : Type} {f : α → List Value} {sz o : Nat} {u : Value} (ho : o < sz) : ∀ (zs : List α), (∀ z ∈ zs, (f z).length = sz) → ∀ (j : Nat) (z z' : α), zs[j]? = some z → (f z).set o u = f z' → (zs.flatMap f).set (j * sz + o) u = (zs.set j z').flatMap f
  | [], _, j, z, z', h, _ => by simp at h
  | a :: zs, hf, 0, z, z', h, he => by
    simp only [List.getElem?_cons_zero, Option.some.injEq] at h
    subst h
    have ha := hf a (by simp)
    rw [List.flatMap_cons, Nat.zero_mul, Nat.zero_add, List.set_append_left _ _ (by omega), he, List.set_cons_zero, List.flatMap_cons]
  | a :: zs, hf, j + 1, z, z', h, he => by
    simp only [List.getElem?_cons_succ] at h
    have ha := hf a (by simp)
    have ih := flat_set ho zs (fun z hz => hf z (by simp [hz])) j z z' h he
    rw [List.flatMap_cons, List.set_append_right _ _ (by rw [ha, Nat.succ_mul]; omega), ha, show (j + 1) * sz + o - sz = j * sz + o by rw [Nat.succ_mul]; omega, ih, List.set_cons_succ, List.flatMap_cons]
theorem Row.put {H : Hp} {e sz g n cap : Nat} {xs : List Value} {cur : Array Value} (hx : xs.length = n * sz) (hg : H g = some (.cells cur e (0, 0))) (hc : n ≤ cap) (hs : cur.size = cap * sz) (ht : cur.toList.take (n * sz) = xs) (i : Nat) (u : Value) :
    Row (H.set g (.cells (cur.setIfInBounds i u) e (0, 0))) e sz (.slice (some ⟨g, 0, none⟩) n cap) n (xs.set i u) := by
  refine ⟨by simp [hx], .inr ⟨g, cap, _, rfl, Hp.set_same _ _ _, hc, by simp [hs], ?_⟩⟩
  rw [Array.toList_setIfInBounds, List.take_set, ht]
theorem Row.open {H : Hp} {e sz : Nat} {v : Value} {n : Nat} {xs : List Value} (h : Row H e sz v n xs) (hn : 0 < n) :
    ∃ g cap cur, v = .slice (some ⟨g, 0, none⟩) n cap ∧ H g = some (.cells cur e (0, 0)) ∧ n ≤ cap ∧ cur.size = cap * sz ∧ cur.toList.take (n * sz) = xs := by
  obtain ⟨hl, ⟨_, h0⟩ | h⟩ := h
  · omega
  · exact h
theorem Row.len {H : Hp} {e sz : Nat} {v : Value} {n : Nat} {xs : List Value} (h : Row H e sz v n xs) : ∃ a c, v = .slice a n c := h.slice
end Go.Proofs.YtoolnkemkhianaaDoorW
