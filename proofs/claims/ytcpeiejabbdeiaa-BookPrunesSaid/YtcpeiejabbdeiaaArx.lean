/-
  The argument of BookPrunes, opened.
  No condition.
-/
import Derived.Test.YtcpeiejabbdeiaaArgs
set_option linter.unusedSimpArgs false
set_option linter.unusedVariables false
namespace Go.Proofs.Ytcpeiejabbdeiaa
open Go Go.RowKit Go.ChangeShapes Go.WideShapes Go.Proofs.YtcpeiejabbdeiaaW
set_option maxRecDepth 100000
/-- A script of the book: each step reads as a step. -/
def Ops11Arg (w0 : World) (a : Value) (n : Nat) : Prop :=
  ∃ ad c, a = .slice ad n c ∧ n ≤ 9223372036854775807 ∧ ∀ k, k < n → ∃ ab, ad = some ab ∧ ∃ (d x : Nat) (s1 s2 s3 : ByteArray) (sa : Option Addr) (sn sc : Nat), d < 256 ∧ x < 256 ∧ s1.size ≤ 9223372036854775807 ∧ s2.size ≤ 9223372036854775807 ∧
    w0.cell? ((ab.add (k * 6)).add 0) = some (.int .u8 (d : Int)) ∧ w0.cell? ((ab.add (k * 6)).add 1) = some (.int .u8 (x : Int)) ∧ w0.cell? ((ab.add (k * 6)).add 2) = some (.string s1) ∧
    w0.cell? ((ab.add (k * 6)).add 3) = some (.string s2) ∧ w0.cell? ((ab.add (k * 6)).add 4) = some (.string s3) ∧ w0.cell? ((ab.add (k * 6)).add 5) = some (.slice sa sn sc)
section
variable {W : World} {H : Type} {enc : TypeId × Value → H} {v : Value} {d : DataW H} {p : List MemPlace} {b0 base : Nat} {r : Reach} {spare : Nat → Bool} {held : Bool}
theorem field_str {P : Program} {f : Nat} {cs : List Value} {y : DataW H × List MemPlace} {e : TypeId} {fs : Array Field} (he : P.underlying e = some (.struct fs)) (h : DataW.trod enc P W base spare held f e cs = some y) (j : Nat) (fd : Field) (hj : fs[j]? = some fd) (h1 : P.cellsOf fd.type = 1) (hk : P.underlying fd.type = some .string) :
    ∃ s, cs[fd.offset]? = some (.string s) ∧ s.size ≤ maxLen := by
  obtain ⟨n, z, hz⟩ := open_field he h j fd hj h1
  obtain ⟨s, h2, _, h3⟩ := DataW.trod_string hk hz
  exact ⟨s, take1 h2, h3⟩
theorem field_sl {P : Program} {f : Nat} {cs : List Value} {y : DataW H × List MemPlace} {e el : TypeId} {fs : Array Field} (he : P.underlying e = some (.struct fs)) (h : DataW.trod enc P W base spare held f e cs = some y) (j : Nat) (fd : Field) (hj : fs[j]? = some fd) (h1 : P.cellsOf fd.type = 1) (hk : P.underlying fd.type = some (.slice el)) :
    ∃ a n c, cs[fd.offset]? = some (.slice a n c) := by
  obtain ⟨n, z, hz⟩ := open_field he h j fd hj h1
  rcases DataW.trod_slice hk hz with ⟨h2, _⟩ | ⟨a, len, cap, _, _, _, _, h2, _⟩
  · exact ⟨none, 0, 0, take1 h2⟩
  · exact ⟨_, _, _, take1 h2⟩
theorem ops11_arg (hv : Value.okWide Try.prog W r b0 51 v) (h : DataW.Trod enc Try.prog W base spare held 51 v d p) : ∃ n, Ops11Arg W v n := by
  obtain ⟨ad, n, c, rfl, hn, hk⟩ := open_rows (sz := 6) Try.underlying51 (by kernel_rfl) hv h
  refine ⟨n, ad, c, rfl, Nat.le_trans hn (by decide), fun k hkn => ?_⟩
  obtain ⟨ab, rfl, f, cs, y, hc, ht⟩ := hk k hkn
  obtain ⟨d, h0, w0⟩ := field_int Try.underlying54 ht 0 _ rfl (by kernel_rfl) Try.underlying5
  obtain ⟨x, h1, w1⟩ := field_int Try.underlying54 ht 1 _ rfl (by kernel_rfl) Try.underlying5
  obtain ⟨s1, h2, z1⟩ := field_str Try.underlying54 ht 2 _ rfl (by kernel_rfl) Try.underlying9
  obtain ⟨s2, h3, z2⟩ := field_str Try.underlying54 ht 3 _ rfl (by kernel_rfl) Try.underlying9
  obtain ⟨s3, h4, z3⟩ := field_str Try.underlying54 ht 4 _ rfl (by kernel_rfl) Try.underlying9
  obtain ⟨sa, sn, sc, h5⟩ := field_sl (el := 86) Try.underlying54 ht 5 _ rfl (by kernel_rfl) (by kernel_rfl)
  obtain ⟨b0, c0⟩ := wf_u8 w0
  obtain ⟨b1, c1⟩ := wf_u8 w1
  obtain ⟨n0, rfl⟩ := Int.eq_ofNat_of_zero_le b0
  obtain ⟨n1, rfl⟩ := Int.eq_ofNat_of_zero_le b1
  exact ⟨ab, rfl, n0, n1, s1, s2, s3, sa, sn, sc, by omega, by omega, Nat.le_trans z1 (by decide), Nat.le_trans z2 (by decide), (hc 0 (by omega)).trans h0, (hc 1 (by omega)).trans h1, (hc 2 (by omega)).trans h2, (hc 3 (by omega)).trans h3, (hc 4 (by omega)).trans h4, (hc 5 (by omega)).trans h5⟩
end
end Go.Proofs.Ytcpeiejabbdeiaa
