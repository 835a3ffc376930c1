/-
  Arguments opened: slices of structs of numbers.
  No condition.
-/
import Derived.Test.YtoolnkemkhianaaDoorAwr
import Derived.Deep.Slices
import Derived.DataReads
import Derived.ChangeArms
import Derived.Carry
import Derived.WideShapes
import Derived.OpenShut
set_option linter.unusedSimpArgs false
set_option linter.unusedVariables false
namespace Go.Proofs.YtoolnkemkhianaaDoorW
open Go Go.RowKit Go.ChangeShapes Go.WideShapes

theorem take1 {cs : List Value} {o : Nat} {v : Value} (h : (cs.drop o).take 1 = [v]) : cs[o]? = some v := by
  have : ((cs.drop o).take 1)[0]? = some v := by rw [h]; rfl
  rw [List.getElem?_take_of_lt (by omega), List.getElem?_drop] at this
  simpa using this

section
variable {H : Type} {enc : TypeId × Value → H} {P : Program} {w : World} {spare : Nat → Bool} {held : Bool} {r : Reach} {b0 base : Nat}
/-- A slice opened: each element's cells, and that they read as the element. -/
theorem open_rows {t e sz : Nat} {v : Value} {d : DataW H} {p : List MemPlace} (ht : P.underlying t = some (.slice e)) (hC : P.cellsOf e = sz)
    (hv : Value.okWide P w r b0 t v) (h : DataW.Trod enc P w base spare held t v d p) :
    ∃ ad n c, v = .slice ad n c ∧ n ≤ maxLen ∧ ∀ k, k < n → ∃ ab, ad = some ab ∧ ∃ (f : Nat) (cs : List Value) (y : DataW H × List MemPlace),
      (∀ j, j < sz → w.cell? ((ab.add (k * sz)).add j) = cs[j]?) ∧ DataW.trod enc P w base spare held f e cs = some y := by
  obtain ⟨a0, n0, c0, rfl⟩ := okWide_slice ht hv
  obtain ⟨fuel, hf⟩ := h
  rcases Deep.open_slice ht hf with ⟨hcs, _⟩ | ⟨a, len, cap, m, n, D, Pl, hcs, _, hl, hm, hmm, _, hi⟩
  · simp only [Value.cells, List.cons.injEq, Value.slice.injEq] at hcs
    obtain ⟨⟨rfl, rfl, rfl⟩, _⟩ := hcs
    exact ⟨none, 0, 0, rfl, by simp, fun k hk => by omega⟩
  · simp only [Value.cells, List.cons.injEq, Value.slice.injEq] at hcs
    obtain ⟨⟨rfl, rfl, rfl⟩, _⟩ := hcs
    refine ⟨_, _, _, rfl, Nat.le_trans hl hm, fun k hk => ⟨a, rfl, ?_⟩⟩
    have hkm : k < m := by rw [hmm]; split <;> omega
    obtain ⟨cs', hc, ht'⟩ := hi k hkm
    rw [hC] at hc
    obtain ⟨_, _, hat⟩ := World.cells?_some hc
    exact ⟨n, cs', _, hat, ht'⟩

variable {f : Nat} {cs : List Value} {y : DataW H × List MemPlace} {e : TypeId} {fs : Array Field}
/-- One field of a struct, opened. -/
theorem open_field (he : P.underlying e = some (.struct fs)) (h : DataW.trod enc P w base spare held f e cs = some y) (j : Nat) (fd : Field) (hj : fs[j]? = some fd) (h1 : P.cellsOf fd.type = 1) :
    ∃ (n : Nat) (z : DataW H × List MemPlace), DataW.trod enc P w base spare held n fd.type ((cs.drop fd.offset).take 1) = some z := by
  obtain ⟨xs, n, _, _, _, hlen, hf⟩ := DataW.trod_struct he h
  have := hf j fd hj
  rw [h1] at this
  have hjl : j < fs.size := (Array.getElem?_eq_some_iff.1 hj).1
  rw [List.getElem?_eq_getElem (by omega)] at this
  exact ⟨n, _, this⟩
theorem field_int {k : IntKind} (he : P.underlying e = some (.struct fs)) (h : DataW.trod enc P w base spare held f e cs = some y) (j : Nat) (fd : Field) (hj : fs[j]? = some fd) (h1 : P.cellsOf fd.type = 1) (hk : P.underlying fd.type = some (.int k)) :
    ∃ n, cs[fd.offset]? = some (.int k n) ∧ (Lit.int k n).wf = true := by
  obtain ⟨n, z, hz⟩ := open_field he h j fd hj h1
  obtain ⟨m, h2, _, h3⟩ := DataW.trod_int hk hz
  exact ⟨m, take1 h2, h3⟩
theorem field_bool (he : P.underlying e = some (.struct fs)) (h : DataW.trod enc P w base spare held f e cs = some y) (j : Nat) (fd : Field) (hj : fs[j]? = some fd) (h1 : P.cellsOf fd.type = 1) (hk : P.underlying fd.type = some .bool) :
    ∃ b, cs[fd.offset]? = some (.bool b) := by
  obtain ⟨n, z, hz⟩ := open_field he h j fd hj h1
  obtain ⟨m, h2, _⟩ := DataW.trod_bool hk hz
  exact ⟨m, take1 h2⟩
end
end Go.Proofs.YtoolnkemkhianaaDoorW
