/-
  An argument of rows, opened.
  No condition.
-/
import Derived.Test.YtoolnkemkhianaaDoorKfi
import Derived.Test.YtoolnkemkhianaaDoorTbr
namespace Go.Proofs.YtoolnkemkhianaaDoor
open Go Go.RowKit Go.ChangeShapes Go.WideShapes Go.Proofs.YtoolnkemkhianaaDoorW
set_option maxRecDepth 100000
set_option linter.unusedSimpArgs false
set_option linter.unusedVariables false
section
variable {W : World} {H : Type} {enc : TypeId × Value → H} {v : Value} {d : DataW H} {p : List MemPlace} {b0 base : Nat} {r : Reach} {spare : Nat → Bool} {held : Bool}
theorem open_rows_c {t e sz f : Nat} {cs : List Value} {y : DataW H × List MemPlace} (ht : Tryd.prog.underlying t = some (.slice e)) (hC : Tryd.prog.cellsOf e = sz) (hf : DataW.trod enc Tryd.prog W base spare held f t cs = some y) :
    cs = [.slice none 0 0] ∨ ∃ a n c, cs = [.slice (some a) n c] ∧ n ≤ c ∧ n ≤ maxLen ∧ ∀ k, k < n → ∃ (f : Nat) (cs : List Value) (y : DataW H × List MemPlace),
      (∀ j, j < sz → W.cell? ((a.add (k * sz)).add j) = cs[j]?) ∧ DataW.trod enc Tryd.prog W base spare held f e cs = some y := by
  rcases Deep.open_slice ht hf with ⟨hcs, _⟩ | ⟨a, len, cap, m, n, D, Pl, hcs, _, hl, hm, hmm, _, hi⟩
  · exact .inl hcs
  · refine .inr ⟨_, _, _, hcs, hl, Nat.le_trans hl hm, fun k hk => ?_⟩
    have hkm : k < m := by rw [hmm]; split <;> omega
    obtain ⟨cs', hc, ht'⟩ := hi k hkm
    rw [hC] at hc
    obtain ⟨_, _, hat⟩ := World.cells?_some hc
    exact ⟨n, cs', _, hat, ht'⟩
theorem vals_cells {f : Nat} {cs : List Value} {y : DataW H × List MemPlace} (h : DataW.trod enc Tryd.prog W base spare held f 28 cs = some y) : ∃ u : Value, cs = [u] ∧ ∃ l : List Va, Vs W (fun _ => none) u l ∧ ∀ x ∈ l, x.wf := by
  rcases open_rows_c (sz := 4) Tryd.underlying28 (by kernel_rfl) h with rfl | ⟨a, n, c, rfl, hnc, _, hk⟩
  · exact ⟨_, rfl, [], .inl ⟨rfl, rfl, rfl⟩, fun x hx => by cases hx⟩
  · obtain ⟨l, hl, hc⟩ := rows_flat (W := W) (f := fun x : { x : Va // x.wf } => vc x.val) (sz := 4) (fun _ => rfl) (a := a) n fun k hk' => by
      obtain ⟨f, cs, y, hc, ht⟩ := hk k hk'
      obtain ⟨x, hw, rfl⟩ := val_cells ht
      exact ⟨⟨x, hw⟩, hc⟩
    refine ⟨_, rfl, l.map (·.val), .inr ⟨a, c, ?_, ?_, ?_⟩, fun x hx => ?_⟩
    · rw [List.length_map, hl]
    · rw [List.length_map, hl]; exact hnc
    · rw [List.length_map, hl, List.flatMap_map]; exact hc
    · obtain ⟨y, _, rfl⟩ := List.mem_map.1 hx
      exact y.property
theorem rows_arg (hv : Value.okWide Tryd.prog W r b0 37 v) (h : DataW.Trod enc Tryd.prog W base spare held 37 v d p) : ∃ l : List (Value × List Va), Rs W v l := by
  rcases open_rows2 (sz := 1) Tryd.underlying37 (by kernel_rfl) hv h with rfl | ⟨a, n, c, rfl, hnc, _, hk⟩
  · exact ⟨[], .inl ⟨rfl, rfl, rfl⟩, fun x hx => by cases hx⟩
  · obtain ⟨l, hl, hc⟩ := rows_flat (W := W) (f := fun x : { x : Value × List Va // Vs W (fun _ => none) x.1 x.2 ∧ ∀ y ∈ x.2, y.wf } => [x.val.1]) (sz := 1) (fun _ => rfl) (a := a) n fun k hk' => by
      obtain ⟨f, cs, y, hc, ht⟩ := hk k hk'
      obtain ⟨u, rfl, l, h1, h2⟩ := vals_cells ht
      exact ⟨⟨(u, l), h1, h2⟩, hc⟩
    refine ⟨l.map (·.val), .inr ⟨a, c, ?_, ?_, ?_⟩, fun x hx => ?_⟩
    · rw [List.length_map, hl]
    · rw [List.length_map, hl]; exact hnc
    · rw [List.length_map, hl, hc, ← List.map_eq_flatMap, List.map_map]; rfl
    · obtain ⟨y, _, rfl⟩ := List.mem_map.1 hx
      exact y.property
end
end Go.Proofs.YtoolnkemkhianaaDoor
