/-
  For every input the law ClogPlays returns true and leaves its arguments as they were.
  Conditions: none.
-/
import Derived.Test.YtmpepacfnckadaaRows
import Derived.Test.YtmpepacfnckadaaPlaysW
import Derived.Test.YtmpepacfnckadaaOpn
import Derived.WalkKit
import Derived.ProofKit
import Derived.OpenShut
import Derived.ShutString
import Derived.ChangeOld
import Derived.SizedLaws
namespace Go.Proofs.Ytmpepacfnckadaa.clogPlays
open Go.ChangeShapes Go.WideShapes Go.ChangeAt Go.RowKit Go.Proofs.YtmpepacfnckadaaW
theorem own : ownKnob Try.prog.godebug = none := by kernel_rfl
theorem laid : laidOutB Try.prog = true := by kernel_rfl
set_option maxRecDepth 100000 in
theorem ops_arg {W : World} {H : Type} {enc : TypeId × Value → H} {v : Value} {d : DataW H} {p : List MemPlace} {b0 base : Nat} {r : Reach} {spare : Nat → Bool} {held : Bool}
    (hv : Value.okWide Try.prog W r b0 35 v) (h : DataW.Trod enc Try.prog W base spare held 35 v d p) : ∃ n, OpsArg W v n := by
  obtain ⟨ad, n, c, rfl, hn, hk⟩ := open_rows (sz := 3) Try.underlying35 (by kernel_rfl) hv h
  refine ⟨n, ad, c, rfl, Nat.le_trans hn (by decide), fun k hkn => ?_⟩
  obtain ⟨ab, rfl, f, cs, y, hc, ht⟩ := hk k hkn
  obtain ⟨d, h0, w0⟩ := field_int Try.underlying40 ht 0 _ rfl (by kernel_rfl) Try.underlying5
  obtain ⟨x, h1, w1⟩ := field_int Try.underlying40 ht 1 _ rfl (by kernel_rfl) Try.underlying23
  obtain ⟨b, h2⟩ := field_bool Try.underlying40 ht 2 _ rfl (by kernel_rfl) Try.underlying4
  obtain ⟨b0, c0⟩ := wf_u8 w0
  obtain ⟨b1, c1⟩ := wf_u64 w1
  obtain ⟨n0, rfl⟩ := Int.eq_ofNat_of_zero_le b0
  obtain ⟨n1, rfl⟩ := Int.eq_ofNat_of_zero_le b1
  exact ⟨ab, rfl, n0, n1, b, by omega, by omega, (hc 0 (by omega)).trans h0, (hc 1 (by omega)).trans h1, (hc 2 (by omega)).trans h2⟩
set_option maxRecDepth 100000 in
theorem lifted (os : Os) (started : os.Started) (H : Type) (enc : TypeId × Value → H) :
    ReturnsInHanded {} Try.checked os 4 .any (Rows.clogPlaysSpec.pre6 enc Try.prog Try.f4 Rows.clogPlaysRow.domain false) (Rows.clogPlaysSpec.post enc Try.prog Try.f4 false true false false) := by
  refine returnsInHanded_of_change_sized (C := Try.checked) own started (by kernel_rfl) Try.func4
    (ChangeSpec.witness6 (enc := enc) (C := Try.checked) false ⟨#[], #[.bool false, .int .u64 0, .slice none 0 0], []⟩ 8 (by kernel_rfl) (by kernel_rfl) (by kernel_rfl) (by kernel_rfl)) ?_
  intro W base args ds gs before hval0 hW hcnd hsz0 _
  have hval : ∀ (j : Nat) t v, Try.f4.params[j]? = some t → args[j]? = some v → Value.okWide Try.prog W .any base t v := hval0
  have hW' := hW
  obtain ⟨p, q, hA0, hV, rfl, hfz, hnd⟩ := hW
  have hA : DataW.TrodAll enc Try.prog W 0 (fun _ => true) true Try.f4.params.toList args.toList ds p := hA0
  rw [Try.params4] at hA hval
  obtain ⟨v0, vs0, d0, ds0, p0, q0, hargs, rfl, rfl, h0, r0⟩ := trodAll_cons hA
  obtain ⟨v1, vs1, d1, ds1, p1, q1, rfl, rfl, rfl, h1, r1⟩ := trodAll_cons r0
  obtain ⟨v2, vs2, d2, ds2, p2, q2, rfl, rfl, rfl, h2, r2⟩ := trodAll_cons r1
  obtain ⟨rfl, rfl, rfl⟩ := trodAll_nil r2
  obtain rfl : args = #[v0, v1, v2] := by cases args; simp_all
  obtain ⟨rfl, rfl⟩ := trodVars_none hV
  obtain ⟨a0, rfl, rfl, rfl⟩ := open_bool Try.underlying4 (hval 0 4 v0 rfl rfl) h0
  obtain ⟨a1, rfl, rfl, rfl, w1⟩ := open_int Try.underlying23 (hval 1 23 v1 rfl rfl) h1
  obtain ⟨n2, ha2⟩ := ops_arg (hval 2 35 v2 rfl rfl) h2
  have hlt : ∀ x ∈ p2, x.block < W.heap.size := fun x hx => hW'.lt x (by simpa using hx)
  clear hA0 hval0 hsz0
  obtain ⟨b1, c1⟩ := wf_u64 w1
  obtain ⟨n1, rfl⟩ := Int.eq_ofNat_of_zero_le b1
  refine (ACalls.law (plays_ok W a0 n1 (by omega) v2 n2 ha2)).mono fun e W' ⟨he, bel⟩ => ?_
  subst he
  exact ⟨_, rfl, _, _, _, [], _, [], hW', trodAll_mk1 (shut_bool Try.underlying4 _), (trodAll_cons_mk (shut_bool Try.underlying4 _) (trodAll_cons_mk (shut_int Try.underlying23 w1) (trodAll_cons_mk (Below.trod laid (by kernel_rfl) (of_decide_eq_true (by kernel_rfl)) h2 bel hlt) trodAll_mk0))), rfl, bel.frame _, fun h => by cases h⟩
theorem over : Rows.clogPlaysRow.holds Try.pinned (OpenSpec.ofChange Rows.clogPlaysSpec) :=
  OpenClaim.holds_of_wide 4 Try.f4 rfl rfl rfl rfl rfl rfl rfl ⟨rfl, rfl, rfl, rfl, rfl⟩ rfl rfl rfl rfl rfl (by kernel_rfl) Try.func4 (by kernel_rfl)
    (of_decide_eq_true (by kernel_rfl)) (by unfold Func.isWrapper; first | (rw [if_pos (by decide +kernel)]; kernel_rfl) | (rw [if_neg (by decide +kernel)]; exact ⟨rfl, rfl⟩))
    (fun os started H enc _ => lifted os started H enc)
end Go.Proofs.Ytmpepacfnckadaa.clogPlays
namespace Go.Proofs.Ytmpepacfnckadaa
/-- The row. -/
theorem clogPlays_holds : Rows.ClogPlaysSaid := clogPlays.over
#print axioms clogPlays_holds
end Go.Proofs.Ytmpepacfnckadaa
