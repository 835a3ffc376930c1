/-
  Four states of two bits in a byte: plain facts, no program.
  No condition.
-/
import Derived.Test.YtoolnkemkhianaaDoorAwg
set_option linter.unusedSimpArgs false
set_option linter.unusedVariables false
namespace Go.Proofs.YtoolnkemkhianaaDoorW
open Go Go.RowKit

theorem u64_in {a : Int} (h0 : 0 ≤ a) (h1 : a < 18446744073709551616) : IntKind.u64.wrap a = a := by
  unfold IntKind.wrap; simp [IntKind.bits, IntKind.signed]; omega
theorem i64_in {a : Int} (h0 : -9223372036854775808 ≤ a) (h1 : a < 9223372036854775808) : IntKind.i64.wrap a = a := by
  unfold IntKind.wrap; simp [IntKind.bits, IntKind.signed]; omega

/-- Two bits of a byte, s bits up. -/
def getE (b s : Int) : Int := andI .u8 (b.fdiv (2 ^ min s.toNat IntKind.u8.bits)) 3
/-- The byte with these two bits. -/
def setE (b s v : Int) : Int :=
  orI .u8 (andNotI .u8 b (IntKind.u8.wrap (3 * 2 ^ min s.toNat IntKind.u8.bits))) (IntKind.u8.wrap (v * 2 ^ min s.toNat IntKind.u8.bits))

theorem getE_range : ∀ (b : Fin 256) (j : Fin 4), 0 ≤ getE b.val (2 * j.val) ∧ getE b.val (2 * j.val) < 4 := by decide +kernel
theorem setE_fin : ∀ (b : Fin 256) (j : Fin 4) (v : Fin 4), 0 ≤ setE b.val (2 * j.val) v.val ∧ setE b.val (2 * j.val) v.val < 256 ∧
    getE (setE b.val (2 * j.val) v.val) (2 * j.val) = v.val ∧ ∀ t : Fin 4, t ≠ j → getE (setE b.val (2 * j.val) v.val) (2 * t.val) = getE b.val (2 * t.val) := by decide +kernel
end Go.Proofs.YtoolnkemkhianaaDoorW
