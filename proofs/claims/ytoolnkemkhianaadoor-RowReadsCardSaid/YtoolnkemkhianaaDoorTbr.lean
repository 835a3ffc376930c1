/-
  The tables that the rows list lie where the walks read them; a world in which they lie; the laws' arguments, opened.
  No condition.
-/
import Derived.Test.YtoolnkemkhianaaDoorRows
import Derived.Test.YtoolnkemkhianaaDoorKby
import Derived.Test.YtoolnkemkhianaaDoorOpn
import Derived.LaidMore
import Derived.Lay
import Derived.MakeChecks
namespace Go.Proofs.YtoolnkemkhianaaDoor
open Go Go.RowKit Go.ChangeShapes Go.WideShapes Go.Proofs.YtoolnkemkhianaaDoorW
set_option maxRecDepth 100000
set_option linter.unusedSimpArgs false
set_option linter.unusedVariables false
def laidL : List (String × DataW Unit) := [("unicode/utf8.acceptRanges", Rows.laid_unicode_utf8_acceptRanges), ("unicode/utf8.first", Rows.laid_unicode_utf8_first)]
theorem acc_data : (Rows.laid_unicode_utf8_acceptRanges : DataW Unit) = .agg (accs.map fun x => .agg [.lit (.int .u8 (x.1 : Int)), .lit (.int .u8 (x.2 : Int))]) := by kernel_rfl
theorem tbl_of {W : World} (h : laidMetH Tryd.prog laidL W) : Tbl W := by
  rw [MakeChecks.laidMetH_plain _ _ _ (by kernel_rfl)] at h
  obtain ⟨ps, ⟨g1, t1, cs1, f1, p1, q1, hg1, ht1, hv1, hd1, ⟨g2, t2, cs2, f2, p2, q2, hg2, ht2, hv2, hd2, _, _⟩, _⟩, _, _⟩ := h
  obtain rfl := Option.some.inj ((show Tryd.prog.globalNamed "unicode/utf8.acceptRanges" = some 1 by kernel_rfl).symm.trans hg1)
  obtain rfl := Option.some.inj ((show Tryd.prog.globalNamed "unicode/utf8.first" = some 0 by kernel_rfl).symm.trans hg2)
  obtain rfl := Option.some.inj ((show (Tryd.prog.globals[1]?).map (·.type) = some 77 by kernel_rfl).symm.trans ht1)
  obtain rfl := Option.some.inj ((show (Tryd.prog.globals[0]?).map (·.type) = some 74 by kernel_rfl).symm.trans ht2)
  have c5 : Tryd.prog.cellsOf 5 = 1 := by kernel_rfl
  have c76 : Tryd.prog.cellsOf 76 = 2 := by kernel_rfl
  constructor
  · intro r hr
    obtain ⟨xs, m, _, ex, _, hl, hel⟩ := DataW.trod_array Tryd.underlying74 hd2
    have hE := hel r hr
    rw [c5, Nat.mul_one, List.getElem?_eq_getElem (by omega)] at hE
    obtain ⟨z, e1, e2, _⟩ := DataW.trod_int Tryd.underlying5 hE
    have hlen : Go.Pinned.utf8FirstZ.length = 256 := by kernel_rfl
    have e3 : (xs.map (·.1)) = Go.Pinned.utf8FirstZ.map fun (n : Nat) => .lit (.int .u8 n) := (DataW.agg.inj (Prod.mk.inj ex).1).symm
    have e4 : (xs.map (·.1))[r]? = (Go.Pinned.utf8FirstZ.map fun (n : Nat) => (DataW.lit (.int .u8 n) : DataW Unit))[r]? := by rw [e3]
    rw [List.getElem?_map, List.getElem?_map, List.getElem?_eq_getElem (by omega : r < xs.length), List.getElem?_eq_getElem (by omega : r < Go.Pinned.utf8FirstZ.length), e2] at e4
    have hz : z = (fst8 r : Int) := by
      simp only [Option.map_some, Option.some.injEq, DataW.lit.injEq, Lit.int.injEq, true_and] at e4
      rw [e4, fst8, List.getD, List.getElem?_eq_getElem (by omega : r < Go.Pinned.utf8FirstZ.length)]; rfl
    rw [World.var?_cell hg2 hv2 r, ← hz]
    have : cs2.toList[r]? = some (.int .u8 z) := by
      have h0 : ((cs2.toList.drop r).take 1)[0]? = some (.int .u8 z) := by rw [e1]; rfl
      simpa using h0
    simpa using this
  · intro i x hx
    have hi : i < 16 := (List.getElem?_eq_some_iff.1 hx).1
    obtain ⟨xs, m, _, ex, _, hl, hel⟩ := DataW.trod_array Tryd.underlying77 hd1
    have hE := hel i hi
    rw [c76, List.getElem?_eq_getElem (by omega)] at hE
    obtain ⟨ys, n, _, ey, hcl, hyl, hyf⟩ := DataW.trod_struct Tryd.underlying76 hE
    rw [acc_data] at ex
    have e3 : (xs.map (·.1)) = accs.map fun x => .agg [.lit (.int .u8 (x.1 : Int)), .lit (.int .u8 (x.2 : Int))] := (DataW.agg.inj (Prod.mk.inj ex).1).symm
    have e4 : (xs.map (·.1))[i]? = (accs.map fun x => (DataW.agg [.lit (.int .u8 (x.1 : Int)), .lit (.int .u8 (x.2 : Int))] : DataW Unit))[i]? := by rw [e3]
    rw [List.getElem?_map, List.getElem?_map, hx, List.getElem?_eq_getElem (by omega : i < xs.length), ey] at e4
    simp only [Option.map_some, Option.some.injEq, DataW.agg.injEq] at e4
    have y0 := hyf 0 _ rfl
    have y1 := hyf 1 _ rfl
    have hyl' : ys.length = 2 := hyl
    have c5' : ∀ (f : Field), f.type = 5 → Tryd.prog.cellsOf f.type = 1 := fun f hf => by rw [hf]; exact c5
    rw [c5' _ rfl] at y0 y1
    rw [List.getElem?_eq_getElem (by omega)] at y0 y1
    obtain ⟨z0, a1, a2, _⟩ := DataW.trod_int Tryd.underlying5 y0
    obtain ⟨z1, b1, b2, _⟩ := DataW.trod_int Tryd.underlying5 y1
    have w0 : z0 = (x.1 : Int) := by
      have := congrArg (·[0]?) e4
      simp only [List.getElem?_map, List.getElem?_eq_getElem (show 0 < ys.length by omega), a2, Option.map_some, List.getElem?_cons_zero, Option.some.injEq, DataW.lit.injEq, Lit.int.injEq, true_and] at this
      exact this
    have w1 : z1 = (x.2 : Int) := by
      have := congrArg (·[1]?) e4
      simp only [List.getElem?_map, List.getElem?_eq_getElem (show 1 < ys.length by omega), b2, Option.map_some, List.getElem?_cons_succ, List.getElem?_cons_zero, Option.some.injEq, DataW.lit.injEq, Lit.int.injEq, true_and] at this
      exact this
    have t0 := take1 a1
    have t1 := take1 b1
    rw [List.getElem?_take_of_lt (by show 0 < 2; omega), List.getElem?_drop] at t0
    rw [List.getElem?_take_of_lt (by show 1 < 2; omega), List.getElem?_drop] at t1
    rw [World.var?_cell hg1 hv1 (i * 2), World.var?_cell hg1 hv1 (i * 2 + 1), ← w0, ← w1]
    exact ⟨by rw [← t0, Array.getElem?_toList]; rfl, by rw [← t1, Array.getElem?_toList]; rfl⟩

section
variable {W : World} {H : Type} {enc : TypeId × Value → H} {v : Value} {d : DataW H} {p : List MemPlace} {b0 base : Nat} {r : Reach} {spare : Nat → Bool} {held : Bool}
theorem ld_none {a : Addr} : ld W (fun _ => none) a = W.cell? a := rfl
theorem ldCells_of {a : Addr} {l : List Value} (n : Nat) (h : ∀ j, j < n → W.cell? (a.add j) = l[j]?) (hl : l.length = n) : ldCells W (fun _ => none) a 0 n = some l := by
  have key : ∀ (m i : Nat), i + m = n → ldCells W (fun _ => none) a i m = some (l.drop i) := by
    intro m
    induction m with
    | zero =>
      intro i hi
      rw [List.drop_eq_nil_of_le (by omega)]; rfl
    | succ m ih =>
      intro i hi
      have hi' : i < l.length := by omega
      simp only [ldCells]
      rw [ld_none, h i (by omega), List.getElem?_eq_getElem hi', Option.bind_some, ih (i + 1) (by omega), Option.map_some, List.drop_eq_getElem_cons hi']
  exact key n 0 (by omega)
theorem ldCells_join {a : Addr} {i : Nat} : ∀ {n : Nat} {l l' : List Value} {m : Nat}, ldCells W (fun _ => none) a i n = some l → ldCells W (fun _ => none) a (i + n) m = some l' → ldCells W (fun _ => none) a i (n + m) = some (l ++ l')
  | 0, l, l', m, h, h' => by
    simp only [ldCells, Option.some.injEq] at h
    subst h
    rw [Nat.zero_add]; exact h'
  | n + 1, l, l', m, h, h' => by
    simp only [ldCells] at h
    cases hv : ld W (fun _ => none) (a.add i) with
    | none => rw [hv] at h; cases h
    | some v =>
      rw [hv, Option.bind_some] at h
      cases hl : ldCells W (fun _ => none) a (i + 1) n with
      | none => rw [hl] at h; cases h
      | some l1 =>
        rw [hl, Option.map_some, Option.some.injEq] at h
        subst h
        have := ldCells_join hl (by rw [show i + 1 + n = i + (n + 1) by omega]; exact h')
        rw [show n + 1 + m = n + m + 1 by omega]
        simp only [ldCells, hv, Option.bind_some, this, Option.map_some, List.cons_append]
/-- A row whose elements each read as one of α. -/
theorem rows_flat {α : Type} {f : α → List Value} {sz : Nat} (hf : ∀ x, (f x).length = sz) {a : Addr} : ∀ (n : Nat), (∀ k, k < n → ∃ x : α, ∀ j, j < sz → W.cell? ((a.add (k * sz)).add j) = (f x)[j]?) → ∃ l : List α, l.length = n ∧ ldCells W (fun _ => none) a 0 (n * sz) = some (l.flatMap f)
  | 0, _ => ⟨[], rfl, by simp [ldCells]⟩
  | n + 1, h => by
    obtain ⟨l, hl, hc⟩ := rows_flat hf n fun k hk => h k (by omega)
    obtain ⟨x, hx⟩ := h n (by omega)
    refine ⟨l ++ [x], by simp [hl], ?_⟩
    rw [List.flatMap_append, show (n + 1) * sz = n * sz + sz by rw [Nat.succ_mul]]
    refine ldCells_join hc ?_
    rw [Nat.zero_add]
    have := ldCells_of (a := a.add (n * sz)) sz hx (hf x)
    rw [ldCells_add, Nat.add_zero] at this
    simpa using this
theorem open_rows2 {t e sz : Nat} (ht : Tryd.prog.underlying t = some (.slice e)) (hC : Tryd.prog.cellsOf e = sz)
    (hv : Value.okWide Tryd.prog W r b0 t v) (h : DataW.Trod enc Tryd.prog W base spare held t v d p) :
    v = .slice none 0 0 ∨ ∃ a n c, v = .slice (some a) n c ∧ n ≤ c ∧ n ≤ maxLen ∧ ∀ k, k < n → ∃ (f : Nat) (cs : List Value) (y : DataW H × List MemPlace),
      (∀ j, j < sz → W.cell? ((a.add (k * sz)).add j) = cs[j]?) ∧ DataW.trod enc Tryd.prog W base spare held f e cs = some y := by
  obtain ⟨a0, n0, c0, rfl⟩ := okWide_slice ht hv
  obtain ⟨fuel, hf⟩ := h
  rcases Deep.open_slice ht hf with ⟨hcs, _⟩ | ⟨a, len, cap, m, n, D, Pl, hcs, _, hl, hm, hmm, _, hi⟩
  · simp only [Value.cells, List.cons.injEq, Value.slice.injEq] at hcs
    obtain ⟨⟨rfl, rfl, rfl⟩, _⟩ := hcs
    exact .inl rfl
  · simp only [Value.cells, List.cons.injEq, Value.slice.injEq] at hcs
    obtain ⟨⟨rfl, rfl, rfl⟩, _⟩ := hcs
    refine .inr ⟨_, _, _, rfl, hl, Nat.le_trans hl hm, fun k hk => ?_⟩
    have hkm : k < m := by rw [hmm]; split <;> omega
    obtain ⟨cs', hc, ht'⟩ := hi k hkm
    rw [hC] at hc
    obtain ⟨_, _, hat⟩ := World.cells?_some hc
    exact ⟨n, cs', _, hat, ht'⟩
theorem bytes_arg (hv : Value.okWide Tryd.prog W r b0 22 v) (h : DataW.Trod enc Tryd.prog W base spare held 22 v d p) : ∃ l : List UInt8, Bt W (fun _ => none) v l := by
  rcases open_rows2 (sz := 1) Tryd.underlying22 (by kernel_rfl) hv h with rfl | ⟨a, n, c, rfl, hnc, _, hk⟩
  · exact ⟨[], .inl ⟨rfl, rfl, rfl⟩⟩
  · obtain ⟨l, hl, hc⟩ := rows_flat (W := W) (f := fun b : UInt8 => [.int .u8 (b.toNat : Int)]) (sz := 1) (fun _ => rfl) (a := a) n fun k hk' => by
      obtain ⟨f, cs, y, hc, ht⟩ := hk k hk'
      obtain ⟨m, rfl, _, w0⟩ := DataW.trod_int Tryd.underlying5 ht
      obtain ⟨q0, q1⟩ := wf_u8 w0
      refine ⟨UInt8.ofNat m.toNat, fun j hj => ?_⟩
      rw [hc j hj]
      have : ((UInt8.ofNat m.toNat).toNat : Int) = m := by
        rw [UInt8.toNat_ofNat']
        show ((m.toNat % 256 : Nat) : Int) = m
        omega
      rw [this]
    have e : l.flatMap (fun b : UInt8 => [Value.int .u8 (b.toNat : Int)]) = u8s l := by unfold u8s; rw [List.map_eq_flatMap]
    rw [e] at hc
    subst hl
    exact ⟨l, .inr ⟨a, c, rfl, hnc, hc⟩⟩
theorem bytes_argL (hv : Value.okWide Tryd.prog W r b0 22 v) (h : DataW.Trod enc Tryd.prog W base spare held 22 v d p) : ∃ l : List UInt8, Bt W (fun _ => none) v l ∧ l.length ≤ 9223372036854775807 := by
  obtain ⟨l, hl⟩ := bytes_arg hv h
  refine ⟨l, hl, ?_⟩
  rcases open_rows2 (sz := 1) Tryd.underlying22 (by kernel_rfl) hv h with rfl | ⟨a, n, c, rfl, hnc, hm, _⟩
  · rcases hl with ⟨_, h0, _⟩ | ⟨a, c, e, _⟩
    · omega
    · cases e
  · rcases hl with ⟨e, _, _⟩ | ⟨a', c', e, _⟩
    · cases e
    · injection e with _ e2 _
      have : maxLen ≤ 9223372036854775807 := by decide
      omega
/-- One value, out of its cells. -/
theorem val_cells {f : Nat} {cs : List Value} {y : DataW H × List MemPlace} (h : DataW.trod enc Tryd.prog W base spare held f 36 cs = some y) : ∃ x : Va, x.wf ∧ cs = vc x := by
  obtain ⟨xs, n, _, _, hcl, _, _⟩ := DataW.trod_struct Tryd.underlying36 h
  have hcl' : cs.length = 4 := hcl.trans (by kernel_rfl)
  obtain ⟨k, h0, w0⟩ := field_int Tryd.underlying36 h 0 _ rfl (by kernel_rfl) Tryd.underlying34
  obtain ⟨i, h1, w1⟩ := field_int Tryd.underlying36 h 1 _ rfl (by kernel_rfl) Tryd.underlying2
  obtain ⟨n2, z2, h2⟩ := open_field Tryd.underlying36 h 2 _ rfl (by kernel_rfl)
  obtain ⟨s, h2, _, _⟩ := DataW.trod_string Tryd.underlying9 h2
  have h2 := take1 h2
  obtain ⟨b, h3⟩ := field_bool Tryd.underlying36 h 3 _ rfl (by kernel_rfl) Tryd.underlying4
  obtain ⟨q0, q1⟩ := wf_u8 w0
  obtain ⟨p0, p1⟩ := wf_i64 w1
  obtain ⟨n0, rfl⟩ := Int.eq_ofNat_of_zero_le q0
  refine ⟨⟨n0, i, s.data.toList, b⟩, ⟨by show n0 < 256; omega, p0, by show i < 9223372036854775808; omega⟩, ?_⟩
  apply List.ext_getElem?
  intro j
  unfold vc
  rw [← str_of s]
  rcases j with _ | _ | _ | _ | j
  · exact h0
  · exact h1
  · exact h2
  · exact h3
  · rw [List.getElem?_eq_none (by omega)]; rfl
theorem vals_arg (hv : Value.okWide Tryd.prog W r b0 28 v) (h : DataW.Trod enc Tryd.prog W base spare held 28 v d p) : ∃ l : List Va, Vs W (fun _ => none) v l ∧ ∀ x ∈ l, x.wf := by
  rcases open_rows2 (sz := 4) Tryd.underlying28 (by kernel_rfl) hv h with rfl | ⟨a, n, c, rfl, hnc, _, hk⟩
  · exact ⟨[], .inl ⟨rfl, rfl, rfl⟩, fun x hx => by cases hx⟩
  · obtain ⟨l, hl, hc⟩ := rows_flat (W := W) (f := fun x : { x : Va // x.wf } => vc x.val) (sz := 4) (fun _ => rfl) (a := a) n fun k hk' => by
      obtain ⟨f, cs, y, hc, ht⟩ := hk k hk'
      obtain ⟨x, hw, rfl⟩ := val_cells ht
      exact ⟨⟨x, hw⟩, hc⟩
    refine ⟨l.map (·.val), .inr ⟨a, c, ?_, ?_, ?_⟩, fun x hx => ?_⟩
    · rw [List.length_map, hl]
    · rw [List.length_map, hl]; exact hnc
    · rw [List.length_map, hl, List.flatMap_map]; exact hc
    · obtain ⟨y, _, rfl⟩ := List.mem_map.1 hx
      exact y.property
theorem val_arg (hv : Value.okWide Tryd.prog W r b0 36 v) (h : DataW.Trod enc Tryd.prog W base spare held 36 v d p) : ∃ x : Va, x.wf ∧ v = va x := by
  obtain ⟨fuel, hf⟩ := h
  obtain ⟨x, hw, hc⟩ := val_cells hf
  obtain ⟨cs, rfl, _⟩ := okWide_struct Tryd.underlying36 hv
  refine ⟨x, hw, ?_⟩
  have hc : cs.toList = vc x := hc
  unfold va
  rw [← hc]
theorem u8_arg (hv : Value.okWide Tryd.prog W r b0 5 v) (h : DataW.Trod enc Tryd.prog W base spare held 5 v d p) : ∃ n : Nat, n < 256 ∧ v = .int .u8 (n : Int) := by
  obtain ⟨a, rfl, _, _, w⟩ := open_int Tryd.underlying5 hv h
  obtain ⟨q0, q1⟩ := wf_u8 w
  obtain ⟨n, rfl⟩ := Int.eq_ofNat_of_zero_le q0
  exact ⟨n, by omega, rfl⟩
theorem laidOut : laidOutB Tryd.prog = true := by kernel_rfl
end
end Go.Proofs.YtoolnkemkhianaaDoor
