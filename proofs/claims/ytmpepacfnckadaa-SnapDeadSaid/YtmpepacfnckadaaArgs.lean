/-
  The laws' arguments, opened.
  No condition.
-/
import Derived.Test.YtmpepacfnckadaaFct
import Derived.Test.YtmpepacfnckadaaOpn
set_option linter.unusedSimpArgs false
set_option linter.unusedVariables false
namespace Go.Proofs.Ytmpepacfnckadaa
open Go Go.RowKit Go.ChangeShapes Go.WideShapes Go.Proofs.YtmpepacfnckadaaW
set_option maxRecDepth 100000
theorem laid : laidOutB Try.prog = true := by kernel_rfl

def BytesArg (w0 : World) (a : Value) (n : Nat) : Prop :=
  ∃ ad c, a = .slice ad n c ∧ n ≤ 9223372036854775807 ∧ ∀ k, k < n → ∃ ab, ad = some ab ∧ ∃ b : Nat, b < 256 ∧ w0.cell? (ab.add k) = some (.int .u8 (b : Int))
/-- A script: each step reads as a step. -/
def OpsArg (w0 : World) (a : Value) (n : Nat) : Prop :=
  ∃ ad c, a = .slice ad n c ∧ n ≤ 9223372036854775807 ∧ ∀ k, k < n → ∃ ab, ad = some ab ∧ ∃ (d x : Nat) (nr : Bool), d < 256 ∧ x < 18446744073709551616 ∧
    w0.cell? ((ab.add (k * 3)).add 0) = some (.int .u8 (d : Int)) ∧ w0.cell? ((ab.add (k * 3)).add 1) = some (.int .u64 (x : Int)) ∧ w0.cell? ((ab.add (k * 3)).add 2) = some (.bool nr)
def Ops10Arg (w0 : World) (a : Value) (n : Nat) : Prop :=
  ∃ ad c, a = .slice ad n c ∧ n ≤ 9223372036854775807 ∧ ∀ k, k < n → ∃ ab, ad = some ab ∧ ∃ (d x : Nat), d < 256 ∧ x < 18446744073709551616 ∧
    w0.cell? ((ab.add (k * 2)).add 0) = some (.int .u8 (d : Int)) ∧ w0.cell? ((ab.add (k * 2)).add 1) = some (.int .u64 (x : Int))
/-- Pairs of numbers. -/
def PairsArg (w0 : World) (a : Value) (n : Nat) : Prop :=
  ∃ ad c, a = .slice ad n c ∧ n ≤ 9223372036854775807 ∧ ∀ k, k < n → ∃ ab, ad = some ab ∧ ∃ (d x : Nat), d < 18446744073709551616 ∧ x < 18446744073709551616 ∧
    w0.cell? ((ab.add (k * 2)).add 0) = some (.int .u64 (d : Int)) ∧ w0.cell? ((ab.add (k * 2)).add 1) = some (.int .u64 (x : Int))

section
variable {W : World} {H : Type} {enc : TypeId × Value → H} {v : Value} {d : DataW H} {p : List MemPlace} {b0 base : Nat} {r : Reach} {spare : Nat → Bool} {held : Bool}
theorem ops9_arg (hv : Value.okWide Try.prog W r b0 35 v) (h : DataW.Trod enc Try.prog W base spare held 35 v d p) : ∃ n, OpsArg W v n := by
  obtain ⟨ad, n, c, rfl, hn, hk⟩ := open_rows (sz := 3) Try.underlying35 (by kernel_rfl) hv h
  refine ⟨n, ad, c, rfl, Nat.le_trans hn (by decide), fun k hkn => ?_⟩
  obtain ⟨ab, rfl, f, cs, y, hc, ht⟩ := hk k hkn
  obtain ⟨d, h0, w0⟩ := field_int Try.underlying40 ht 0 _ rfl (by kernel_rfl) Try.underlying5
  obtain ⟨x, h1, w1⟩ := field_int Try.underlying40 ht 1 _ rfl (by kernel_rfl) Try.underlying23
  obtain ⟨b, h2⟩ := field_bool Try.underlying40 ht 2 _ rfl (by kernel_rfl) Try.underlying4
  obtain ⟨b0, c0⟩ := wf_u8 w0
  obtain ⟨b1, c1⟩ := wf_u64 w1
  obtain ⟨n0, rfl⟩ := Int.eq_ofNat_of_zero_le b0
  obtain ⟨n1, rfl⟩ := Int.eq_ofNat_of_zero_le b1
  exact ⟨ab, rfl, n0, n1, b, by omega, by omega, (hc 0 (by omega)).trans h0, (hc 1 (by omega)).trans h1, (hc 2 (by omega)).trans h2⟩
theorem ops10_arg (hv : Value.okWide Try.prog W r b0 56 v) (h : DataW.Trod enc Try.prog W base spare held 56 v d p) : ∃ n, Ops10Arg W v n := by
  obtain ⟨ad, n, c, rfl, hn, hk⟩ := open_rows (sz := 2) Try.underlying56 (by kernel_rfl) hv h
  refine ⟨n, ad, c, rfl, Nat.le_trans hn (by decide), fun k hkn => ?_⟩
  obtain ⟨ab, rfl, f, cs, y, hc, ht⟩ := hk k hkn
  obtain ⟨d, h0, w0⟩ := field_int Try.underlying70 ht 0 _ rfl (by kernel_rfl) Try.underlying5
  obtain ⟨x, h1, w1⟩ := field_int Try.underlying70 ht 1 _ rfl (by kernel_rfl) Try.underlying23
  obtain ⟨b0, c0⟩ := wf_u8 w0
  obtain ⟨b1, c1⟩ := wf_u64 w1
  obtain ⟨n0, rfl⟩ := Int.eq_ofNat_of_zero_le b0
  obtain ⟨n1, rfl⟩ := Int.eq_ofNat_of_zero_le b1
  exact ⟨ab, rfl, n0, n1, by omega, by omega, (hc 0 (by omega)).trans h0, (hc 1 (by omega)).trans h1⟩
theorem bytes_arg (hv : Value.okWide Try.prog W r b0 50 v) (h : DataW.Trod enc Try.prog W base spare held 50 v d p) : ∃ n, BytesArg W v n := by
  obtain ⟨ad, n, c, rfl, hn, hk⟩ := open_rows (sz := 1) Try.underlying50 (by kernel_rfl) hv h
  refine ⟨n, ad, c, rfl, Nat.le_trans hn (by decide), fun k hkn => ?_⟩
  obtain ⟨ab, rfl, f, cs, y, hc, ht⟩ := hk k hkn
  obtain ⟨m, rfl, _, w0⟩ := DataW.trod_int Try.underlying5 ht
  obtain ⟨b0, c0⟩ := wf_u8 w0
  obtain ⟨n0, rfl⟩ := Int.eq_ofNat_of_zero_le b0
  have := hc 0 (by omega)
  rw [Nat.mul_one] at this
  exact ⟨ab, rfl, n0, by omega, this⟩
theorem pairs_arg (hv : Value.okWide Try.prog W r b0 80 v) (h : DataW.Trod enc Try.prog W base spare held 80 v d p) : ∃ n, PairsArg W v n := by
  obtain ⟨ad, n, c, rfl, hn, hk⟩ := open_rows (sz := 2) Try.underlying80 (by kernel_rfl) hv h
  refine ⟨n, ad, c, rfl, Nat.le_trans hn (by decide), fun k hkn => ?_⟩
  obtain ⟨ab, rfl, f, cs, y, hc, ht⟩ := hk k hkn
  obtain ⟨xs, m, _, _, _, hl, hi⟩ := DataW.trod_array Try.underlying86 ht
  have q0 := hi 0 (by omega)
  have q1 := hi 1 (by omega)
  rw [List.getElem?_eq_getElem (by omega), show Try.prog.cellsOf 23 = 1 by kernel_rfl] at q0 q1
  obtain ⟨x0, e0, _, w0⟩ := DataW.trod_int Try.underlying23 q0
  obtain ⟨x1, e1, _, w1⟩ := DataW.trod_int Try.underlying23 q1
  obtain ⟨b0, c0⟩ := wf_u64 w0
  obtain ⟨b1, c1⟩ := wf_u64 w1
  obtain ⟨n0, rfl⟩ := Int.eq_ofNat_of_zero_le b0
  obtain ⟨n1, rfl⟩ := Int.eq_ofNat_of_zero_le b1
  exact ⟨ab, rfl, n0, n1, by omega, by omega, (hc 0 (by omega)).trans (take1 e0), (hc 1 (by omega)).trans (take1 e1)⟩
end
end Go.Proofs.Ytmpepacfnckadaa
