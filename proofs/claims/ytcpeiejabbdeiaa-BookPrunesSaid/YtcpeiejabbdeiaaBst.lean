/-
  A log, a book and snapshots, side by side.
  Conditions: as each theorem states them.
-/
import Derived.Test.YtcpeiejabbdeiaaBki
namespace Go.Proofs.Ytcpeiejabbdeiaa
open Go Go.RowKit Go.Proofs.YtcpeiejabbdeiaaW
set_option maxRecDepth 100000
set_option linter.unusedSimpArgs false
set_option linter.unusedVariables false

def St (H : Hp) (l : Nat) (S : Nat → Prop) (st : List Nat) (bk : Nat) (ts : List Tb) (xs : List Ix) (last : Nat) (cs : List (Nat × Shot)) : Prop :=
  LogAt H l S 1 st ∧ BookAt H bk ts xs last ∧ ∀ p ∈ cs, ShotAt H p.2 ∧ H p.1 = some (.cells #[.int .u64 (p.2.own : Int), .int .u64 (p.2.xmin : Int), .int .u64 (p.2.xmax : Int), p.2.v] 34 (0, 0))
section
variable {w0 : World} {H H' : Hp} {l : Nat} {S S' : Nat → Prop} {st st' : List Nat} {bk : Nat} {ts ts' : List Tb} {xs xs' : List Ix} {last last' : Nat} {cs : List (Nat × Shot)}
theorem St.sub (h : St H l S st bk ts xs last cs) (hs : Sub H H') : St H' l S st bk ts xs last cs :=
  ⟨h.1.keep fun b o _ hb => hs b o hb, h.2.1.sub hs, fun p hp => ⟨(h.2.2 p hp).1.sub hs, hs _ _ (h.2.2 p hp).2⟩⟩
theorem St.out (h : St H l S st bk ts xs last cs) (ho : Out H H') (hb : BookAt H' bk ts' xs' last') : St H' l S st bk ts' xs' last' cs :=
  ⟨h.1.outB ho, hb, fun p hp => ⟨(h.2.2 p hp).1.outB ho, ho _ _ (by rw [tyAt_of (h.2.2 p hp).2]; rfl) (h.2.2 p hp).2⟩⟩
theorem St.log (h : St H l S st bk ts xs last cs) (hl : LogAt H' l S' 1 st') (hf : ∀ b o, ¬ S b → H b = some o → H' b = some o) : St H' l S' st' bk ts xs last cs :=
  ⟨hl, h.2.1.log h.1 hf, fun p hp => ⟨(h.2.2 p hp).1.log h.1 hf, log_out h.1 hf (h.2.2 p hp).2 (by rw [tyAt_of (h.2.2 p hp).2]; decide) (by rw [tyAt_of (h.2.2 p hp).2]; decide)⟩⟩
theorem St.add (h : St H l S st bk ts xs last cs) {b : Nat} {z : Shot} (hz : ShotAt H z) (hb : H b = some (.cells #[.int .u64 (z.own : Int), .int .u64 (z.xmin : Int), .int .u64 (z.xmax : Int), z.v] 34 (0, 0))) : St H l S st bk ts xs last ((b, z) :: cs) :=
  ⟨h.1, h.2.1, fun p hp => by
    rcases List.mem_cons.1 hp with rfl | hp
    · exact ⟨hz, hb⟩
    · exact h.2.2 p hp⟩
end
end Go.Proofs.Ytcpeiejabbdeiaa
