/-
  Rows of cells: reading them, writing them, append.
  No condition: every theorem here is general.
-/
import Derived.Test.YtoolnkemkhianaaDoorAws
import Derived.Laws.AppendOwn
import Derived.Laws.Sem
set_option linter.unusedSimpArgs false
set_option linter.unusedVariables false
namespace Go.Proofs.YtoolnkemkhianaaDoorW
open Go Go.RowKit

theorem add_at (g o i : Nat) : (⟨g, o, none⟩ : Addr).add i = ⟨g, o + i, none⟩ := by
  unfold Addr.add
  split
  · rename_i h; subst h; rfl
  · rfl

theorem Hp.set_self {H : Hp} {g : Nat} {o : Obj} (h : H g = some o) : H.set g o = H := by
  funext i
  by_cases e : i = g
  · subst e; rw [Hp.set_same, h]
  · rw [Hp.set_ne _ _ _ _ e]
theorem Hp.set_set (H : Hp) (g : Nat) (o o' : Obj) : (H.set g o).set g o' = H.set g o' := by
  funext i
  by_cases e : i = g
  · subst e; rw [Hp.set_same, Hp.set_same]
  · rw [Hp.set_ne _ _ _ _ e, Hp.set_ne _ _ _ _ e, Hp.set_ne _ _ _ _ e]
theorem Hp.set_comm (H : Hp) (g g' : Nat) (o o' : Obj) (h : g ≠ g') : (H.set g o).set g' o' = (H.set g' o').set g o := by
  funext i
  by_cases e : i = g'
  · subst e; rw [Hp.set_same, Hp.set_ne _ _ _ _ (Ne.symm h), Hp.set_same]
  · rw [Hp.set_ne _ _ _ _ e]
    by_cases e' : i = g
    · subst e'; rw [Hp.set_same, Hp.set_same]
    · rw [Hp.set_ne _ _ _ _ e', Hp.set_ne _ _ _ _ e', Hp.set_ne _ _ _ _ e]

theorem ldCells_row {w0 : World} {H : Hp} {g : Nat} {cur : Array Value} {e : TypeId} {fr : Nat × Nat} (hg : H g = some (.cells cur e fr)) (off : Nat) :
    ∀ (k i : Nat), off + i + k ≤ cur.size → ldCells w0 H ⟨g, off, none⟩ i k = some ((cur.toList.drop (off + i)).take k)
  | 0, i, _ => by simp [ldCells]
  | k + 1, i, h => by
    have hlt : off + i < cur.toList.length := by rw [Array.length_toList]; omega
    simp only [ldCells, add_at]
    have hv : ld w0 H ⟨g, off + i, none⟩ = some cur.toList[off + i] := by simp [ld, hg, show off + i < cur.size by omega]
    rw [hv, Option.bind_some, ldCells_row hg off k (i + 1) (by omega), Option.map_some, List.drop_eq_getElem_cons hlt]
    simp [List.take_succ_cons, Nat.add_assoc]

theorem stCells_row (w0 : World) (g off : Nat) (e : TypeId) : ∀ (ys : List Value) (i : Nat) (cur : Array Value) (H : Hp), H g = some (.cells cur e (0, 0)) → off + i + ys.length ≤ cur.size →
    (∀ u ∈ ys, cell1 u = true) → ∃ cur' : Array Value, stCells w0 ⟨g, off, none⟩ i ys H = some (H.set g (.cells cur' e (0, 0))) ∧
      cur'.toList = cur.toList.take (off + i) ++ ys ++ cur.toList.drop (off + i + ys.length)
  | [], i, cur, H, hg, _, _ => ⟨cur, by rw [Hp.set_self hg]; rfl, by simp⟩
  | y :: ys, i, cur, H, hg, hl, h1 => by
    simp only [List.length_cons] at hl
    have hlt : off + i < cur.size := by omega
    have hw : wr H ⟨g, off + i, none⟩ = some (.cells cur e (0, 0)) := by simp [wr, hg, hlt]
    simp only [stCells, add_at, h1 y (by simp), if_true, hw, Option.bind_some, Obj.put]
    obtain ⟨cur', hst, hcur'⟩ := stCells_row w0 g off e ys (i + 1) (cur.setIfInBounds (off + i) y) (H.set g (.cells (cur.setIfInBounds (off + i) y) e (0, 0)))
      (Hp.set_same _ _ _) (by simp; omega) (fun u hu => h1 u (by simp [hu]))
    refine ⟨cur', by rw [hst, Hp.set_set], ?_⟩
    rw [hcur']
    have hlt' : off + i < cur.toList.length := by rw [Array.length_toList]; exact hlt
    simp only [Array.toList_setIfInBounds, List.length_cons]
    have e1 : (cur.toList.set (off + i) y).take (off + (i + 1)) = cur.toList.take (off + i) ++ [y] := by
      rw [show off + (i + 1) = off + i + 1 by omega, List.take_add_one, List.take_set_of_le (by omega)]
      simp [hlt]
    have e2 : (cur.toList.set (off + i) y).drop (off + (i + 1) + ys.length) = cur.toList.drop (off + i + (ys.length + 1)) := by
      rw [List.drop_set_of_lt (by omega)]
      congr 1; omega
    rw [e1, e2]
    simp

/-- v is a slice of n elements of sz cells each, all of xs; it is the call's own. -/
def Row (H : Hp) (e : TypeId) (sz : Nat) (v : Value) (n : Nat) (xs : List Value) : Prop :=
  xs.length = n * sz ∧ ((v = .slice none 0 0 ∧ n = 0) ∨
    ∃ g cap cur, v = .slice (some ⟨g, 0, none⟩) n cap ∧ H g = some (.cells cur e (0, 0)) ∧ n ≤ cap ∧ cur.size = cap * sz ∧ cur.toList.take (n * sz) = xs)

/-- Where the row lies. -/
def blk : Value → Option Nat
  | .slice (some a) _ _ => some a.block
  | .pointer (some a) => some a.block
  | .map (some r) => some r
  | _ => none

theorem Row.nil (H : Hp) (e : TypeId) (sz : Nat) : Row H e sz (.slice none 0 0) 0 [] := ⟨by simp, .inl ⟨rfl, rfl⟩⟩

section
variable {P : Program} {w0 : World} {H : Hp}

theorem awp_append {t e ty sz bytes : Nat} {z : Value} (ht : P.underlying t = some (.slice e)) (hsz : szOf P e = some sz) (hby : byOf P e = some bytes) (hz : zrOf P e = some z)
    (hzs : z.cells.size = sz) {v : Value} {n : Nat} {xs : List Value} (hrow : Row H e sz v n xs)
    {a : Addr} {m c : Nat} {ys : List Value} (hys : ldCells w0 H a 0 (m * sz) = some ys) (hyl : ys.length = m * sz) (h1 : ∀ u ∈ ys, cell1 u = true) (hm : 0 < m)
    (hb : (n + m) * bytes ≤ 140737488355328) (hi : n + m ≤ 9223372036854775807) {K : Value → Hp → Prop}
    (hK : ∀ g cap cur, (v = .slice (some ⟨g, 0, none⟩) n cap ∨ (H g = none ∧ w0.heap.size ≤ g)) → n + m ≤ cap → cur.size = cap * sz → cur.toList.take ((n + m) * sz) = xs ++ ys →
      K (.slice (some ⟨g, 0, none⟩) (n + m) cap) (H.set g (.cells cur e (0, 0)))) :
    awp P w0 (Builtin.append_ #[t, t] ty #[v, .slice (some a) m c]) K H := by
  obtain ⟨hxl, hv⟩ := hrow
  have hbi : ∃ i, P.info? e = some i ∧ i.bytes = bytes := by
    unfold byOf at hby
    cases hi : P.info? e with
    | none => rw [hi] at hby; cases hby
    | some i => rw [hi] at hby; exact ⟨i, rfl, by simpa using hby⟩
  obtain ⟨inf, hinf, hinfb⟩ := hbi
  have hi' : ((n + m : Nat) : Int) ≤ 9223372036854775807 := by omega
  -- the new row
  have fresh : ∀ (cap : Nat) (base : Option Addr), n + m > cap → (firstv : awp P w0 (Builtin.firstCells sz n (.slice base n cap)) (fun l H' => l = xs.toArray ∧ H' = H) H) → v = .slice base n cap →
      awp P w0 (Builtin.append_ #[t, t] ty #[v, .slice (some a) m c]) K H := by
    intro cap base hcap hfirst hvv
    have hg1 : ¬ (Builtin.nextslicecap (n + m) cap * bytes > 281474976710656) := by have := growslice_fits (need := n + m) (old := cap) (bytes := bytes) (by omega) hb; omega
    subst hvv
    unfold Builtin.append_
    simp only [awp_bind, awp_underlying, ht, OptK, BindK, awp_sizeOf, hsz, awp_pure, Builtin.lenOf, List.getElem?_toArray, List.getElem?_cons_zero, List.getElem?_cons_succ]
    simp only [Bool.false_eq_true, if_false, awp_bind, awp_pure, BindK]
    rw [if_neg (show ¬ (n + m ≤ cap) by omega)]
    simp only [awp_bind, awp_typeInfo, hinf, OptK, BindK, hinfb]
    rw [if_neg (by simp [IntKind.max, IntKind.bits, IntKind.signed]; omega)]
    simp only [awp_bind, awp_typeInfo, hinf, OptK, BindK, hinfb]
    rw [if_neg (by simpa using hg1)]
    simp only [awp_bind, choose, awp, Question.forced, Bool.false_eq_true, if_false]
    intro q
    simp only [BindK, awp_bind, awp_typeInfo, hinf, OptK, hinfb]
    have hroom : ∀ (x : Nat) (Q : Unit → Hp → Prop), Q () H → awp P w0 (askRoom x) Q H := by
      intro x Q h; unfold askRoom; split
      · exact h
      · exact h
    refine hroom _ _ ?_
    simp only [BindK, awp_bind]
    refine awp_mono P w0 _ hfirst ?_
    rintro l H' ⟨rfl, rfl⟩
    simp only [BindK, awp_bind, Bool.not_false, if_true, Builtin.firstCells, loadCells, awp_loadCellsFrom, hys, OptK, awp_zeroValue, hz, newRow, newObj, awp, awp_pure]
    intro g hg0 hgn
    generalize hcut : (Question.appendCap (n + m) cap e).cut q = cap'
    have hcap' : n + m ≤ cap' := by rw [← hcut]; simp only [Question.cut]; omega
    have hsz' : (Builtin.zeroCells z.cells (cap' - (n + m))).size = (cap' - (n + m)) * sz := by rw [size_zeroCells, hzs]
    refine hK g cap' _ (.inr ⟨hgn, hg0⟩) hcap' ?_ ?_
    · simp only [Array.size_append, hsz', List.size_toArray, hxl, hyl, Array.append_empty, Array.empty_append]
      rw [← Nat.add_mul, ← Nat.add_mul]
      congr 1; omega
    · have hl : (xs ++ ys).length = (n + m) * sz := by rw [List.length_append, hxl, hyl, Nat.add_mul]
      simp only [Array.toList_append, Array.append_empty, Array.empty_append]
      rw [List.take_append_of_le_length (by rw [hl]; exact Nat.le_refl _), ← hl, List.take_length]
  rcases hv with ⟨rfl, rfl⟩ | ⟨g, cap, cur, rfl, hg, hn, hcs, htk⟩
  · refine fresh 0 none (by omega) ?_ rfl
    have : xs = [] := List.eq_nil_of_length_eq_zero (by simpa using hxl)
    subst this
    exact ⟨rfl, rfl⟩
  · by_cases hroom : n + m ≤ cap
    · unfold Builtin.append_
      simp only [awp_bind, awp_underlying, ht, OptK, BindK, awp_sizeOf, hsz, awp_pure, Builtin.lenOf, List.getElem?_toArray, List.getElem?_cons_zero, List.getElem?_cons_succ]
      simp only [Bool.false_eq_true, if_false, awp_bind, awp_pure, BindK]
      rw [if_pos hroom]
      simp only [awp_bind, Bool.not_false, if_true, Builtin.firstCells, loadCells, awp_loadCellsFrom, hys, OptK, BindK, add_at, awp_storeCells]
      have hfit : n * sz + 0 + ys.length ≤ cur.size := by rw [hcs, hyl, Nat.add_zero, ← Nat.add_mul]; exact Nat.mul_le_mul_right _ hroom
      obtain ⟨cur', hst, hcur'⟩ := stCells_row w0 g (0 + n * sz) e ys 0 cur H hg (by rw [Nat.zero_add]; exact hfit) h1
      simp only [Array.empty_append, hst]
      simp only [Nat.zero_add, Nat.add_zero] at hcur'
      have hnle : n * sz ≤ cur.toList.length := by rw [Array.length_toList]; omega
      refine hK g cap cur' (.inl rfl) hroom ?_ ?_
      · rw [← hcs, ← Array.length_toList, hcur']
        simp only [List.length_append, List.length_take, List.length_drop, Array.length_toList]
        omega
      · rw [hcur', htk, List.take_append_of_le_length]
        · rw [List.take_of_length_le]
          rw [List.length_append, hxl, hyl, Nat.add_mul]; exact Nat.le_refl _
        · rw [List.length_append, hxl, hyl, Nat.add_mul]; exact Nat.le_refl _
    · refine fresh cap (some ⟨g, 0, none⟩) (by omega) ?_ rfl
      simp only [Builtin.firstCells, loadCells, awp_loadCellsFrom]
      rw [ldCells_row hg 0 (n * sz) 0 (by rw [hcs]; have := Nat.mul_le_mul_right sz hn; omega)]
      simp [OptK, htk]

theorem Row.of_append {e sz n m g cap : Nat} {cur : Array Value} {xs ys : List Value} (hl : (xs ++ ys).length = (n + m) * sz) (h1 : n + m ≤ cap) (h2 : cur.size = cap * sz)
    (h3 : cur.toList.take ((n + m) * sz) = xs ++ ys) : Row (H.set g (.cells cur e (0, 0))) e sz (.slice (some ⟨g, 0, none⟩) (n + m) cap) (n + m) (xs ++ ys) :=
  ⟨hl, .inr ⟨g, cap, cur, rfl, Hp.set_same _ _ _, h1, h2, h3⟩⟩
end
#print axioms awp_append
end Go.Proofs.YtoolnkemkhianaaDoorW
