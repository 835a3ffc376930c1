/-
  The document's log: what each of its functions computes.
  Conditions: as each theorem states them.
-/
import Derived.Test.YtmpepacfnckadaaClg
namespace Go.Proofs.Ytmpepacfnckadaa
open Go Go.RowKit Go.Proofs.YtmpepacfnckadaaW
set_option maxRecDepth 100000
set_option linter.unusedSimpArgs false
set_option linter.unusedVariables false

def i64s (bs : List Nat) : List Value := bs.map fun b : Nat => .int .i64 (b : Int)

/-- The document's log at block x, in the blocks of S. -/
def RefAt (H : Hp) (x : Nat) (S : Nat → Prop) (first : Nat) (sts : List Nat) : Prop :=
  ∃ sl, H x = some (.cells #[.int .u64 (first : Int), sl] 102 (0, 0)) ∧ Row H 3 1 sl sts.length (i64s sts) ∧ blk sl ≠ some x ∧
    ∀ b, S b ↔ (b = x ∨ blk sl = some b)
theorem RefAt.keep {H H' : Hp} {x : Nat} {S : Nat → Prop} {first : Nat} {sts : List Nat} (h : RefAt H x S first sts) (hk : ∀ b o, S b → H b = some o → H' b = some o) : RefAt H' x S first sts := by
  obtain ⟨sl, h1, h2, h4, h5⟩ := h
  exact ⟨sl, hk x _ ((h5 x).2 (.inl rfl)) h1, h2.keep fun b o hb ho => hk b o ((h5 b).2 (.inr hb)) ho, h4, h5⟩
theorem RefAt.own {H : Hp} {x : Nat} {S : Nat → Prop} {first : Nat} {sts : List Nat} (h : RefAt H x S first sts) {b : Nat} (hb : S b) : ∃ o, H b = some o := by
  obtain ⟨sl, h1, h2, h4, h5⟩ := h
  rcases (h5 b).1 hb with rfl | hb
  · exact ⟨_, h1⟩
  · exact h2.own hb

theorem rnew_ok (w0 : World) (first : Nat) (H : Hp) (h1 : 0 < first) (h2 : first ≤ 1099511627776) :
    ACalls Try.prog w0 18 #[.int .u64 (first : Int)] H fun r H' => ∃ l, r = .tuple #[.pointer (some ⟨l, 0, none⟩), .int .i64 0] ∧ H l = none ∧ w0.heap.size ≤ l ∧
      RefAt H' l (fun b => b = l) first [] ∧ ∀ b o, H b = some o → H' b = some o := by
  have e1 : (decide ((first : Int) < 1)) = false := by simp; omega
  have e2 : decide (1099511627776 < (first : Int)) = false := by simp; omega
  have bd : bdCells Try.prog 102 #[(0, .int .u64 (first : Int))] = some #[.int .u64 (first : Int), .slice none 0 0] := by kernel_rfl
  refine acalls_of Try.func18 rfl Try.ntmps18 r18 (by simp) ?_
  simp only [go_sem, Nat.reduceEqDiff, Nat.reduceLT, Nat.reduceAdd, Nat.reduceMul, Int.reduceEq, Int.reduceLT, Int.reduceLE, Int.reduceNe, Int.reduceBEq, Int.reduceToNat, ↓reduceIte, e1, e2, bd]
  intro b hb hn
  simp only [go_sem, Nat.reduceEqDiff, Nat.reduceLT, Nat.reduceAdd, Nat.reduceMul, Int.reduceEq, Int.reduceLT, Int.reduceLE, Int.reduceNe, Int.reduceBEq, Int.reduceToNat, ↓reduceIte]
  refine ⟨b, rfl, hn, hb, ⟨.slice none 0 0, Hp.set_same _ _ _, ⟨by simp [i64s], .inl ⟨rfl, rfl⟩⟩, by simp [blk], fun x => by simp [blk]⟩, (Sub.refl H).set hn _⟩
theorem rnew_bad (w0 : World) (first : Int) (H : Hp) (h : first ≤ 0 ∨ 1099511627776 < first) (h0 : 0 ≤ first) :
    ACalls Try.prog w0 18 #[.int .u64 first] H fun r H' => r = .tuple #[.pointer none, .int .i64 1] ∧ H' = H := by
  refine acalls_of Try.func18 rfl Try.ntmps18 r18 (by simp) ?_
  rcases h with h | h
  · have e1 : (decide (first < 1)) = true := by simp; omega
    simp only [go_sem, Nat.reduceEqDiff, Nat.reduceLT, Nat.reduceAdd, Nat.reduceMul, Int.reduceEq, Int.reduceLT, Int.reduceLE, Int.reduceNe, Int.reduceBEq, Int.reduceToNat, ↓reduceIte, e1]
  · have e1 : (decide (first < 1)) = false := by simp; omega
    have e2 : decide (1099511627776 < first) = true := by simp; omega
    simp only [go_sem, Nat.reduceEqDiff, Nat.reduceLT, Nat.reduceAdd, Nat.reduceMul, Int.reduceEq, Int.reduceLT, Int.reduceLE, Int.reduceNe, Int.reduceBEq, Int.reduceToNat, ↓reduceIte, e1, e2]

theorem rnext_nil (w0 : World) (H : Hp) : ACalls Try.prog w0 24 #[.pointer none] H fun r H' => r = .int .u64 0 ∧ H' = H := by
  refine acalls_of Try.func24 rfl Try.ntmps24 r24 (by simp) ?_
  simp only [go_sem, Nat.reduceEqDiff, Nat.reduceLT, Nat.reduceAdd, Nat.reduceMul, Int.reduceEq, Int.reduceLT, Int.reduceLE, Int.reduceNe, Int.reduceBEq, Int.reduceToNat, ↓reduceIte]
theorem rnext_ref {w0 : World} {H : Hp} {l : Nat} {S : Nat → Prop} {first : Nat} {sts : List Nat} (h : RefAt H l S first sts) (hb : first + sts.length < 18446744073709551616) :
    ACalls Try.prog w0 24 #[.pointer (some ⟨l, 0, none⟩)] H fun r H' => r = .int .u64 ((first + sts.length : Nat) : Int) ∧ H' = H := by
  obtain ⟨sl, h1, h2, h4, h5⟩ := h
  have hl := ld_own w0 h1
  obtain ⟨a, c, rfl⟩ := h2.slice
  have e0 : sts.length = sts.length := rfl
  have hn : (Value.slice a sts.length c) = .slice a sts.length c := rfl
  have e1 : IntKind.u64.wrap (sts.length : Int) = (sts.length : Int) := by rw [u64_in] <;> omega
  have e2 : IntKind.u64.wrap ((first : Int) + (sts.length : Int)) = (first + sts.length : Nat) := by rw [u64_in] <;> omega
  refine acalls_of Try.func24 rfl Try.ntmps24 r24 (by simp) ?_
  simp only [go_sem, Nat.reduceEqDiff, Nat.reduceLT, Nat.reduceAdd, Nat.reduceMul, Int.reduceEq, Int.reduceLT, Int.reduceLE, Int.reduceNe, Int.reduceBEq, Int.reduceToNat, ↓reduceIte]
  refine vdraw_of [⟨0, .p, [], []⟩, ⟨1, .p, [], []⟩, ⟨2, .p, [], []⟩, ⟨3, .n, [], []⟩, ⟨4, .p, [], []⟩, ⟨5, .p, [], []⟩, ⟨6, .p, [], []⟩, ⟨7, .n, [], []⟩, ⟨8, .n, [], []⟩, ⟨9, .n, [], []⟩, ⟨10, .p, [], []⟩, ⟨11, .p, [], []⟩] mixed (by kernel_rfl) ?_
  simp only [go_sem, Nat.reduceEqDiff, Nat.reduceLT, Nat.reduceAdd, Nat.reduceMul, Int.reduceEq, Int.reduceLT, Int.reduceLE, Int.reduceNe, Int.reduceBEq, Int.reduceToNat, ↓reduceIte, hl, e1, e2]

theorem rstate_nil (w0 : World) (H : Hp) (x : Int) : ACalls Try.prog w0 23 #[.pointer none, .int .u64 x] H fun r H' => r = .int .i64 0 ∧ H' = H := by
  refine acalls_of Try.func23 rfl Try.ntmps23 r23 (by simp) ?_
  simp only [go_sem, Nat.reduceEqDiff, Nat.reduceLT, Nat.reduceAdd, Nat.reduceMul, Int.reduceEq, Int.reduceLT, Int.reduceLE, Int.reduceNe, Int.reduceBEq, Int.reduceToNat, ↓reduceIte]
  refine vdraw_of [⟨0, .p, [], []⟩, ⟨1, .p, [], []⟩, ⟨2, .p, [], []⟩, ⟨3, .p, [], []⟩, ⟨4, .p, [], []⟩, ⟨5, .p, [], []⟩, ⟨6, .p, [], []⟩, ⟨7, .n, [], []⟩, ⟨8, .p, [], []⟩, ⟨9, .p, [], []⟩, ⟨10, .p, [], []⟩, ⟨11, .p, [], []⟩, ⟨12, .p, [], []⟩, ⟨13, .p, [], []⟩, ⟨14, .p, [], []⟩, ⟨15, .n, [], []⟩, ⟨16, .p, [], []⟩, ⟨17, .p, [], []⟩, ⟨18, .p, [], []⟩, ⟨19, .p, [], []⟩, ⟨20, .n, [], []⟩, ⟨21, .n, [], []⟩, ⟨22, .n, [], []⟩, ⟨23, .p, [], []⟩, ⟨24, .p, [], []⟩] mixed (by kernel_rfl) ?_
  simp only [go_sem, Nat.reduceEqDiff, Nat.reduceLT, Nat.reduceAdd, Nat.reduceMul, Int.reduceEq, Int.reduceLT, Int.reduceLE, Int.reduceNe, Int.reduceBEq, Int.reduceToNat, ↓reduceIte]
theorem rstate_ref {w0 : World} {H : Hp} {l : Nat} {S : Nat → Prop} {first : Nat} {sts : List Nat} (h : RefAt H l S first sts) (hb : first + sts.length < 18446744073709551616) {x : Int} (hx0 : 0 ≤ x) (hx1 : x < 18446744073709551616) :
    ACalls Try.prog w0 23 #[.pointer (some ⟨l, 0, none⟩), .int .u64 x] H fun r H' => r = .int .i64 (stOf first sts x : Nat) ∧ H' = H := by
  obtain ⟨sl, h1, h2, h4, h5⟩ := h
  have hl := ld_own w0 h1
  refine acalls_of Try.func23 rfl Try.ntmps23 r23 (by simp) ?_
  simp only [go_sem, Nat.reduceEqDiff, Nat.reduceLT, Nat.reduceAdd, Nat.reduceMul, Int.reduceEq, Int.reduceLT, Int.reduceLE, Int.reduceNe, Int.reduceBEq, Int.reduceToNat, ↓reduceIte]
  refine vdraw_of [⟨0, .p, [], []⟩, ⟨1, .p, [], []⟩, ⟨2, .p, [], []⟩, ⟨3, .p, [], []⟩, ⟨4, .p, [], []⟩, ⟨5, .p, [], []⟩, ⟨6, .p, [], []⟩, ⟨7, .n, [], []⟩, ⟨8, .p, [], []⟩, ⟨9, .p, [], []⟩, ⟨10, .p, [], []⟩, ⟨11, .p, [], []⟩, ⟨12, .p, [], []⟩, ⟨13, .p, [], []⟩, ⟨14, .p, [], []⟩, ⟨15, .n, [], []⟩, ⟨16, .p, [], []⟩, ⟨17, .p, [], []⟩, ⟨18, .p, [], []⟩, ⟨19, .p, [], []⟩, ⟨20, .n, [], []⟩, ⟨21, .n, [], []⟩, ⟨22, .n, [], []⟩, ⟨23, .p, [], []⟩, ⟨24, .p, [], []⟩] mixed (by kernel_rfl) ?_
  have h2' := h2
  obtain ⟨a, c, rfl⟩ := h2.slice
  have e2 : IntKind.u64.wrap (sts.length : Int) = (sts.length : Int) := by rw [u64_in] <;> omega
  by_cases c1 : x < (first : Int)
  · have e1 : decide (x < (first : Int)) = true := by simp; omega
    simp only [go_sem, Nat.reduceEqDiff, Nat.reduceLT, Nat.reduceAdd, Nat.reduceMul, Int.reduceEq, Int.reduceLT, Int.reduceLE, Int.reduceNe, Int.reduceBEq, Int.reduceToNat, ↓reduceIte, hl, e1, e2]
    rw [stOf, if_neg (by omega)]; rfl
  · have e1 : decide (x < (first : Int)) = false := by simp; omega
    have e3 : IntKind.u64.wrap (x - (first : Int)) = x - first := by rw [u64_in] <;> omega
    by_cases c2 : ((first + sts.length : Nat) : Int) ≤ x
    · have e4 : decide ((sts.length : Int) ≤ x - (first : Int)) = true := by simp; omega
      simp only [go_sem, Nat.reduceEqDiff, Nat.reduceLT, Nat.reduceAdd, Nat.reduceMul, Int.reduceEq, Int.reduceLT, Int.reduceLE, Int.reduceNe, Int.reduceBEq, Int.reduceToNat, ↓reduceIte, hl, e1, e2, e3, e4]
      rw [stOf, if_neg (by omega)]; rfl
    · obtain ⟨k, rfl⟩ : ∃ k : Nat, x = ((first + k : Nat) : Int) := ⟨(x - first).toNat, by omega⟩
      have hk : k < sts.length := by omega
      have e5 : ((first + k : Nat) : Int) - (first : Int) = (k : Int) := by omega
      have e4 : decide ((sts.length : Int) ≤ (k : Int)) = false := by simp; omega
      have e6 : decide ((0 : Int) ≤ (k : Int)) = true := by simp
      have e7 : decide ((k : Int) < (sts.length : Int)) = true := by simp; omega
      obtain ⟨g, cap, cur, hsl, hg, hc1, hc2, hc3, _⟩ := h2'.open1 (by omega)
      cases hsl
      have hgl := ld_own w0 hg
      have hcv : cur[k]? = some (.int .i64 (sts.getD k 0 : Nat)) := by
        rw [hc3 _ hk]; simp [i64s, hk]
      have e8 : IntKind.u64.wrap (k : Int) = (k : Int) := by rw [u64_in] <;> omega
      simp only [go_sem, Nat.reduceEqDiff, Nat.reduceLT, Nat.reduceAdd, Nat.reduceMul, Int.reduceEq, Int.reduceLT, Int.reduceLE, Int.reduceNe, Int.reduceBEq, Int.reduceToNat, ↓reduceIte, hl, e1, e2, e4, e5, e8]
      refine vdraw_of [⟨0, .p, [], []⟩, ⟨1, .p, [], []⟩, ⟨2, .p, [], []⟩, ⟨3, .n, [], []⟩, ⟨4, .p, [], []⟩, ⟨5, .p, [], []⟩, ⟨6, .p, [], []⟩, ⟨7, .p, [], []⟩, ⟨8, .n, [], []⟩, ⟨9, .p, [], []⟩, ⟨10, .p, [], []⟩, ⟨11, .n, [], []⟩, ⟨12, .p, [], []⟩] mixed (by kernel_rfl) ?_
      simp only [go_sem, Nat.reduceEqDiff, Nat.reduceLT, Nat.reduceAdd, Nat.reduceMul, Int.reduceEq, Int.reduceLT, Int.reduceLE, Int.reduceNe, Int.reduceBEq, Int.reduceToNat, ↓reduceIte, hl, e5, e6, e7, e8, hgl, hcv]
      rw [stOf, if_pos (by omega), e5, Int.toNat_natCast]

theorem rend_nil (w0 : World) (H : Hp) (x v : Int) : ACalls Try.prog w0 20 #[.pointer none, .int .u64 x, .int .i64 v] H fun r H' => r = .int .i64 15 ∧ H' = H := by
  refine acalls_of Try.func20 rfl Try.ntmps20 r20 (by simp) ?_
  simp only [go_sem, Nat.reduceEqDiff, Nat.reduceLT, Nat.reduceAdd, Nat.reduceMul, Int.reduceEq, Int.reduceLT, Int.reduceLE, Int.reduceNe, Int.reduceBEq, Int.reduceToNat, ↓reduceIte]
  refine (rstate_nil w0 H x).mono ?_
  rintro r H' ⟨rfl, rfl⟩
  simp only [go_sem, Nat.reduceEqDiff, Nat.reduceLT, Nat.reduceAdd, Nat.reduceMul, Int.reduceEq, Int.reduceLT, Int.reduceLE, Int.reduceNe, Int.reduceBEq, Int.reduceToNat, ↓reduceIte]
theorem rend_ref {w0 : World} {H : Hp} {l : Nat} {S : Nat → Prop} {first : Nat} {sts : List Nat} (h : RefAt H l S first sts) (hb : first + sts.length < 18446744073709551616) {x : Int} (hx0 : 0 ≤ x) (hx1 : x < 18446744073709551616) {v : Nat} (hv : v < 4) :
    ACalls Try.prog w0 20 #[.pointer (some ⟨l, 0, none⟩), .int .u64 x, .int .i64 (v : Int)] H fun r H' => r = .int .i64 (endCode first sts x) ∧ RefAt H' l S first (endSts first sts x v) ∧
      ∀ b o, ¬ S b → H b = some o → H' b = some o := by
  refine acalls_of Try.func20 rfl Try.ntmps20 r20 (by simp) ?_
  simp only [go_sem, Nat.reduceEqDiff, Nat.reduceLT, Nat.reduceAdd, Nat.reduceMul, Int.reduceEq, Int.reduceLT, Int.reduceLE, Int.reduceNe, Int.reduceBEq, Int.reduceToNat, ↓reduceIte]
  refine (rstate_ref h hb hx0 hx1).mono ?_
  rintro r H' ⟨rfl, rfl⟩
  by_cases c : stOf first sts x = 1
  · have e1 : decide (((stOf first sts x : Nat) : Int) = 1) = true := by simp; omega
    have e1' : (((stOf first sts x : Nat) : Int) = 1) = True := by simp; omega
    obtain ⟨k, rfl, hk, hk1⟩ := stOf_one (by omega) c
    obtain ⟨sl, h1, h2, h4, h5⟩ := h
    have hl := ld_own w0 h1
    obtain ⟨g, cap, cur, rfl, hg, hc1, hc2, hc3, hc4⟩ := h2.open1 (by omega)
    have hgl := ld_own w0 hg
    have hgw := wr_own hg k (by omega)
    have e5 : ((first + k : Nat) : Int) - (first : Int) = (k : Int) := by omega
    have e6 : decide ((0 : Int) ≤ (k : Int)) = true := by simp
    have e7 : decide ((k : Int) < (sts.length : Int)) = true := by simp; omega
    have e8 : IntKind.u64.wrap (k : Int) = (k : Int) := by rw [u64_in] <;> omega
    have hlg : l ≠ g := fun e => h4 (by simp [blk, e])
    simp only [go_sem, Nat.reduceEqDiff, Nat.reduceLT, Nat.reduceAdd, Nat.reduceMul, Int.reduceEq, Int.reduceLT, Int.reduceLE, Int.reduceNe, Int.reduceBEq, Int.reduceToNat, ↓reduceIte, e1]
    refine vdraw_of [⟨0, .p, [], []⟩, ⟨1, .p, [], []⟩, ⟨2, .p, [], []⟩, ⟨3, .n, [], []⟩, ⟨4, .p, [], []⟩, ⟨5, .p, [], []⟩, ⟨6, .p, [], []⟩, ⟨7, .p, [], []⟩, ⟨8, .n, [], []⟩, ⟨9, .p, [], []⟩, ⟨10, .p, [], []⟩, ⟨11, .p, [], []⟩, ⟨12, .c, [], []⟩] mixed (by kernel_rfl) ?_
    simp only [go_sem, Nat.reduceEqDiff, Nat.reduceLT, Nat.reduceAdd, Nat.reduceMul, Int.reduceEq, Int.reduceLT, Int.reduceLE, Int.reduceNe, Int.reduceBEq, Int.reduceToNat, ↓reduceIte, hl, e5, e6, e7, e8, hgl, hgw]
    refine ⟨by rw [endCode, if_pos c], ?_, ?_⟩
    · rw [endSts, if_pos c, show ((↑(first + k) : Int) - (first : Int)).toNat = k by omega]
      refine ⟨_, by rw [Hp.set_ne _ _ _ _ hlg, ]; exact h1, ?_, h4, h5⟩
      rw [List.length_set]
      refine ⟨by simp [i64s], .inr ⟨g, cap, _, rfl, Hp.set_same _ _ _, hc1, by simp [hc2], ?_⟩⟩
      rw [Array.toList_setIfInBounds, Nat.mul_one, List.take_set, hc4]
      simp only [i64s, List.map_set]
    · intro b o hb hbo
      rw [Hp.set_ne _ _ _ _ (fun e => hb ((h5 b).2 (.inr (by rw [e]; rfl))))]
      exact hbo
  · have e1 : decide (((stOf first sts x : Nat) : Int) = 1) = false := by simp; omega
    simp only [go_sem, Nat.reduceEqDiff, Nat.reduceLT, Nat.reduceAdd, Nat.reduceMul, Int.reduceEq, Int.reduceLT, Int.reduceLE, Int.reduceNe, Int.reduceBEq, Int.reduceToNat, ↓reduceIte, e1]
    exact ⟨by rw [endCode, if_neg c], by rw [endSts, if_neg c]; exact h, fun b o _ hb => hb⟩

theorem rbegin_nil (w0 : World) (H : Hp) : ACalls Try.prog w0 22 #[.pointer none] H fun r H' => r = .tuple #[.int .u64 0, .int .i64 15] ∧ H' = H := by
  refine acalls_of Try.func22 rfl Try.ntmps22 r22 (by simp) ?_
  simp only [go_sem, Nat.reduceEqDiff, Nat.reduceLT, Nat.reduceAdd, Nat.reduceMul, Int.reduceEq, Int.reduceLT, Int.reduceLE, Int.reduceNe, Int.reduceBEq, Int.reduceToNat, ↓reduceIte]
theorem rbegin_full {w0 : World} {H : Hp} {l : Nat} {S : Nat → Prop} {first : Nat} {sts : List Nat} (h : RefAt H l S first sts) (hb : first + sts.length < 18446744073709551616) (hf : 1099511627776 < first + sts.length) :
    ACalls Try.prog w0 22 #[.pointer (some ⟨l, 0, none⟩)] H fun r H' => r = .tuple #[.int .u64 0, .int .i64 12] ∧ H' = H := by
  refine acalls_of Try.func22 rfl Try.ntmps22 r22 (by simp) ?_
  simp only [go_sem, Nat.reduceEqDiff, Nat.reduceLT, Nat.reduceAdd, Nat.reduceMul, Int.reduceEq, Int.reduceLT, Int.reduceLE, Int.reduceNe, Int.reduceBEq, Int.reduceToNat, ↓reduceIte]
  refine (rnext_ref h hb).mono ?_
  rintro r H' ⟨rfl, rfl⟩
  have e1 : decide (1099511627776 < ((first + sts.length : Nat) : Int)) = true := by simp; omega
  simp only [go_sem, Nat.reduceEqDiff, Nat.reduceLT, Nat.reduceAdd, Nat.reduceMul, Int.reduceEq, Int.reduceLT, Int.reduceLE, Int.reduceNe, Int.reduceBEq, Int.reduceToNat, ↓reduceIte, e1]
theorem rbegin_ref {w0 : World} {H : Hp} {l : Nat} {S : Nat → Prop} {first : Nat} {sts : List Nat} (h : RefAt H l S first sts) (hf : first + sts.length ≤ 1099511627776) :
    ACalls Try.prog w0 22 #[.pointer (some ⟨l, 0, none⟩)] H fun r H' => r = .tuple #[.int .u64 ((first + sts.length : Nat) : Int), .int .i64 0] ∧ ∃ S', RefAt H' l S' first (sts ++ [1]) ∧
      (∀ b, S' b → S b ∨ (H b = none ∧ w0.heap.size ≤ b)) ∧ ∀ b o, ¬ S b → H b = some o → H' b = some o := by
  have h0 := h
  obtain ⟨sl, h1, h2, h4, h5⟩ := h
  have hl := ld_own w0 h1
  refine acalls_of Try.func22 rfl Try.ntmps22 r22 (by simp) ?_
  simp only [go_sem, Nat.reduceEqDiff, Nat.reduceLT, Nat.reduceAdd, Nat.reduceMul, Int.reduceEq, Int.reduceLT, Int.reduceLE, Int.reduceNe, Int.reduceBEq, Int.reduceToNat, ↓reduceIte]
  refine (rnext_ref h0 (by omega)).mono ?_
  rintro r H' ⟨rfl, rfl⟩
  have e1 : decide (1099511627776 < ((first + sts.length : Nat) : Int)) = false := by simp; omega
  have bs1 : bsCells Try.prog 3 1 #[(0, .int .i64 1)] = some #[.int .i64 1] := by kernel_rfl
  simp only [go_sem, Nat.reduceEqDiff, Nat.reduceLT, Nat.reduceAdd, Nat.reduceMul, Int.reduceEq, Int.reduceLT, Int.reduceLE, Int.reduceNe, Int.reduceBEq, Int.reduceToNat, ↓reduceIte, e1, hl, bs1]
  intro nb hnb hnn
  simp only [go_sem, Nat.reduceEqDiff, Nat.reduceLT, Nat.reduceAdd, Nat.reduceMul, Int.reduceEq, Int.reduceLT, Int.reduceLE, Int.reduceNe, Int.reduceBEq, Int.reduceToNat, ↓reduceIte]
  have hsub1 : Sub H' (H'.set nb (.cells #[.int .i64 1] 3)) := (Sub.refl H').set hnn _
  refine aop_append_lit (t := 100) (x := .tmp 15) (y := .tmp 16) (c := 1) Try.underlying100 s3 b3 z3 rfl (v := sl) (by simp only [go_sem, Nat.reduceEqDiff, Nat.reduceLT, Nat.reduceAdd, Nat.reduceMul, Int.reduceEq, Int.reduceLT, Int.reduceLE, Int.reduceNe, Int.reduceBEq, Int.reduceToNat, ↓reduceIte]) (h2.keep fun b o _ hb => hsub1 b o hb) (Hp.set_same _ _ _) (by simp only [go_sem, Nat.reduceEqDiff, Nat.reduceLT, Nat.reduceAdd, Nat.reduceMul, Int.reduceEq, Int.reduceLT, Int.reduceLE, Int.reduceNe, Int.reduceBEq, Int.reduceToNat, ↓reduceIte]) rfl (by simp [cell1_int]) (by omega) (by omega) (by omega) ?_
  intro g H2 hg hH2 cap' hrow2
  have hlg : l ≠ g := by
    rcases hg with hg | ⟨hg, hw⟩
    · intro e; exact h4 (by rw [← hg, e])
    · intro e; rw [← e, hsub1 _ _ h1] at hg; cases hg
  have h1' := (hH2 l hlg).trans (hsub1 _ _ h1)
  have hw := wr_own h1' 1 (by simp)
  simp only [go_sem, Nat.reduceEqDiff, Nat.reduceLT, Nat.reduceAdd, Nat.reduceMul, Int.reduceEq, Int.reduceLT, Int.reduceLE, Int.reduceNe, Int.reduceBEq, Int.reduceToNat, ↓reduceIte, hw]
  refine ⟨fun b => b = l ∨ b = g, ⟨_, Hp.set_same _ _ _, ?_, by simp [blk]; exact fun e => hlg e.symm, fun b => by simp [blk, eq_comm]⟩, ?_, ?_⟩
  · rw [List.length_append]
    simp only [i64s, List.map_append]
    refine hrow2.keep fun b o hb ho => ?_
    simp only [blk, Option.some.injEq] at hb
    rw [Hp.set_ne _ _ _ _ (fun e => hlg (by rw [← e, hb]))]; exact ho
  · rintro b (rfl | rfl)
    · exact .inl ((h5 b).2 (.inl rfl))
    · rcases hg with hg | ⟨hg, hw⟩
      · exact .inl ((h5 b).2 (.inr hg.symm))
      · refine .inr ⟨?_, hw⟩
        cases e : H' b with
        | none => rfl
        | some o => rw [hsub1 _ _ e] at hg; cases hg
  · intro b o hb ho
    rw [Hp.set_ne _ _ _ _ (fun e => hb ((h5 b).2 (.inl e)))]
    have hbg : b ≠ g := by
      rintro rfl
      rcases hg with hg | ⟨hg, hw⟩
      · exact hb ((h5 b).2 (.inr hg.symm))
      · rw [hsub1 _ _ ho] at hg; cases hg
    rw [hH2 b hbg]
    exact hsub1 _ _ ho
end Go.Proofs.Ytmpepacfnckadaa
