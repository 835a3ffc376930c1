/-
  Package clog: what each of its functions computes, and what it does to the log's own memory.
  Conditions: as each theorem states them; the log is one that New made.
-/
import Derived.Test.YtcpeiejabbdeiaaFct
import Derived.Test.YtcpeiejabbdeiaaPck
namespace Go.Proofs.Ytcpeiejabbdeiaa
open Go Go.RowKit Go.Proofs.YtcpeiejabbdeiaaW
set_option maxRecDepth 100000
set_option linter.unusedSimpArgs false
set_option linter.unusedVariables false

theorem mixed : Try.prog.follows .mixedOrders = true := by kernel_rfl

def u8s (bs : List Nat) : List Value := bs.map fun b : Nat => .int .u8 (b : Int)
structure Packed (bs sts : List Nat) : Prop where
  len : bs.length = (sts.length + 3) / 4
  byte : ∀ b ∈ bs, b < 256
  st : ∀ i, i < sts.length → getE (bs.getD (i / 4) 0 : Nat) (2 * (i % 4 : Nat)) = (sts.getD i 0 : Nat)

theorem Packed.lt {bs sts : List Nat} (h : Packed bs sts) (i : Nat) : bs.getD i 0 < 256 := by
  by_cases hi : i < bs.length
  · have : bs.getD i 0 = bs[i] := by simp [hi]
    rw [this]; exact h.byte _ (List.getElem_mem _)
  · have : bs.getD i 0 = 0 := by simp [Nat.le_of_not_lt hi]
    omega

/-- A log at block l, in the blocks of S. -/
def LogAt (H : Hp) (l : Nat) (S : Nat → Prop) (first : Nat) (sts : List Nat) : Prop :=
  ∃ sl bs, H l = some (.cells #[.int .u64 (first : Int), .int .u64 (sts.length : Int), sl] 69 (0, 0)) ∧ Row H 5 1 sl bs.length (u8s bs) ∧ Packed bs sts ∧ blk sl ≠ some l ∧
    ∀ b, S b ↔ (b = l ∨ blk sl = some b)

/-- The state of a number. -/
def stOf (first : Nat) (sts : List Nat) (x : Int) : Nat := if (first : Int) ≤ x ∧ x < first + sts.length then sts.getD (x - first).toNat 0 else 0

theorem LogAt.keep {H H' : Hp} {l : Nat} {S : Nat → Prop} {first : Nat} {sts : List Nat} (h : LogAt H l S first sts) (hk : ∀ b o, S b → H b = some o → H' b = some o) : LogAt H' l S first sts := by
  obtain ⟨sl, bs, h1, h2, h3, h4, h5⟩ := h
  exact ⟨sl, bs, hk l _ ((h5 l).2 (.inl rfl)) h1, h2.keep fun b o hb ho => hk b o ((h5 b).2 (.inr hb)) ho, h3, h4, h5⟩
theorem LogAt.own {H : Hp} {l : Nat} {S : Nat → Prop} {first : Nat} {sts : List Nat} (h : LogAt H l S first sts) {b : Nat} (hb : S b) : ∃ o, H b = some o := by
  obtain ⟨sl, bs, h1, h2, h3, h4, h5⟩ := h
  rcases (h5 b).1 hb with rfl | hb
  · exact ⟨_, h1⟩
  · exact h2.own hb

theorem new_ok (w0 : World) (first : Nat) (H : Hp) (h1 : 0 < first) (h2 : first ≤ 1099511627776) :
    ACalls Try.prog w0 8 #[.int .u64 (first : Int)] H fun r H' => ∃ l, r = .tuple #[.pointer (some ⟨l, 0, none⟩), .int .i64 0] ∧ H l = none ∧ w0.heap.size ≤ l ∧
      LogAt H' l (fun b => b = l) first [] ∧ ∀ b o, H b = some o → H' b = some o := by
  have e1 : (decide ((first : Int) = 0)) = false := by simp; omega
  have e2 : decide (1099511627776 < (first : Int)) = false := by simp; omega
  have bd : bdCells Try.prog 69 #[(0, .int .u64 (first : Int))] = some #[.int .u64 (first : Int), .int .u64 0, .slice none 0 0] := by kernel_rfl
  refine acalls_of Try.func8 rfl Try.ntmps8 r8 (by simp) ?_
  simp only [go_sem, Nat.reduceEqDiff, Nat.reduceLT, Nat.reduceAdd, Nat.reduceMul, Int.reduceEq, Int.reduceLT, Int.reduceLE, Int.reduceNe, Int.reduceBEq, Int.reduceToNat, ↓reduceIte, e1, e2, bd]
  intro b hb hn
  simp only [go_sem, Nat.reduceEqDiff, Nat.reduceLT, Nat.reduceAdd, Nat.reduceMul, Int.reduceEq, Int.reduceLT, Int.reduceLE, Int.reduceNe, Int.reduceBEq, Int.reduceToNat, ↓reduceIte]
  refine ⟨b, rfl, hn, hb, ⟨.slice none 0 0, [], Hp.set_same _ _ _, ⟨by simp [u8s], .inl ⟨rfl, rfl⟩⟩, ⟨rfl, by simp, by simp⟩, by simp [blk], fun x => by simp [blk]⟩, (Sub.refl H).set hn _⟩
theorem new_bad (w0 : World) (first : Int) (H : Hp) (h : first ≤ 0 ∨ 1099511627776 < first) (h0 : 0 ≤ first) :
    ACalls Try.prog w0 8 #[.int .u64 first] H fun r H' => r = .tuple #[.pointer none, .int .i64 1] ∧ H' = H := by
  refine acalls_of Try.func8 rfl Try.ntmps8 r8 (by simp) ?_
  rcases h with h | h
  · have e1 : (decide (first = 0)) = true := by simp; omega
    simp only [go_sem, Nat.reduceEqDiff, Nat.reduceLT, Nat.reduceAdd, Nat.reduceMul, Int.reduceEq, Int.reduceLT, Int.reduceLE, Int.reduceNe, Int.reduceBEq, Int.reduceToNat, ↓reduceIte, e1]
  · have e1 : (decide (first = 0)) = false := by simp; omega
    have e2 : decide (1099511627776 < first) = true := by simp; omega
    simp only [go_sem, Nat.reduceEqDiff, Nat.reduceLT, Nat.reduceAdd, Nat.reduceMul, Int.reduceEq, Int.reduceLT, Int.reduceLE, Int.reduceNe, Int.reduceBEq, Int.reduceToNat, ↓reduceIte, e1, e2]

theorem next_ok (w0 : World) (H : Hp) (l : Nat) (f n : Int) (sl : Value) (fr : Nat × Nat) (h : H l = some (.cells #[.int .u64 f, .int .u64 n, sl] 69 fr)) :
    ACalls Try.prog w0 26 #[.pointer (some ⟨l, 0, none⟩)] H fun r H' => r = .int .u64 (IntKind.u64.wrap (f + n)) ∧ H' = H := by
  have hl := ld_own w0 h
  refine acalls_of Try.func26 rfl Try.ntmps26 r26 (by simp) ?_
  simp only [go_sem, Nat.reduceEqDiff, Nat.reduceLT, Nat.reduceAdd, Nat.reduceMul, Int.reduceEq, Int.reduceLT, Int.reduceLE, Int.reduceNe, Int.reduceBEq, Int.reduceToNat, ↓reduceIte]
  refine vdraw_of [⟨0, .p, [], []⟩, ⟨1, .p, [], []⟩, ⟨2, .p, [], []⟩, ⟨3, .n, [], []⟩, ⟨4, .p, [], []⟩, ⟨5, .p, [], []⟩, ⟨6, .p, [], []⟩, ⟨7, .n, [], []⟩, ⟨8, .p, [], []⟩, ⟨9, .p, [], []⟩] mixed (by kernel_rfl) ?_
  simp only [go_sem, Nat.reduceEqDiff, Nat.reduceLT, Nat.reduceAdd, Nat.reduceMul, Int.reduceEq, Int.reduceLT, Int.reduceLE, Int.reduceNe, Int.reduceBEq, Int.reduceToNat, ↓reduceIte, hl]
theorem next_nil (w0 : World) (H : Hp) : ACalls Try.prog w0 26 #[.pointer none] H fun r H' => r = .int .u64 0 ∧ H' = H := by
  refine acalls_of Try.func26 rfl Try.ntmps26 r26 (by simp) ?_
  simp only [go_sem, Nat.reduceEqDiff, Nat.reduceLT, Nat.reduceAdd, Nat.reduceMul, Int.reduceEq, Int.reduceLT, Int.reduceLE, Int.reduceNe, Int.reduceBEq, Int.reduceToNat, ↓reduceIte]
theorem next_log {w0 : World} {H : Hp} {l : Nat} {S : Nat → Prop} {first : Nat} {sts : List Nat} (h : LogAt H l S first sts) (hb : first + sts.length < 18446744073709551616) :
    ACalls Try.prog w0 26 #[.pointer (some ⟨l, 0, none⟩)] H fun r H' => r = .int .u64 ((first + sts.length : Nat) : Int) ∧ H' = H := by
  obtain ⟨sl, bs, h1, _⟩ := h
  refine (next_ok w0 H l _ _ _ _ h1).mono ?_
  rintro r H' ⟨rfl, rfl⟩
  refine ⟨?_, rfl⟩
  rw [u64_in (by omega) (by omega)]
  rfl

theorem state_nil (w0 : World) (H : Hp) (x : Int) : ACalls Try.prog w0 47 #[.pointer none, .int .u64 x] H fun r H' => r = .int .i64 0 ∧ H' = H := by
  refine acalls_of Try.func47 rfl Try.ntmps47 r47 (by simp) ?_
  simp only [go_sem, Nat.reduceEqDiff, Nat.reduceLT, Nat.reduceAdd, Nat.reduceMul, Int.reduceEq, Int.reduceLT, Int.reduceLE, Int.reduceNe, Int.reduceBEq, Int.reduceToNat, ↓reduceIte]
theorem state_log {w0 : World} {H : Hp} {l : Nat} {S : Nat → Prop} {first : Nat} {sts : List Nat} (h : LogAt H l S first sts) (hb : first + sts.length < 18446744073709551616) {x : Int} (hx0 : 0 ≤ x) :
    ACalls Try.prog w0 47 #[.pointer (some ⟨l, 0, none⟩), .int .u64 x] H fun r H' => r = .int .i64 (stOf first sts x : Nat) ∧ H' = H := by
  have h0 := h
  obtain ⟨sl, bs, h1, h2, h3, h4, h5⟩ := h
  have hl := ld_own w0 h1
  refine acalls_of Try.func47 rfl Try.ntmps47 r47 (by simp) ?_
  by_cases c1 : x < (first : Int)
  · have e1 : decide (x < (first : Int)) = true := by simp; omega
    simp only [go_sem, Nat.reduceEqDiff, Nat.reduceLT, Nat.reduceAdd, Nat.reduceMul, Int.reduceEq, Int.reduceLT, Int.reduceLE, Int.reduceNe, Int.reduceBEq, Int.reduceToNat, ↓reduceIte, hl, e1]
    rw [stOf, if_neg (by omega)]; rfl
  · have e1 : decide (x < (first : Int)) = false := by simp; omega
    simp only [go_sem, Nat.reduceEqDiff, Nat.reduceLT, Nat.reduceAdd, Nat.reduceMul, Int.reduceEq, Int.reduceLT, Int.reduceLE, Int.reduceNe, Int.reduceBEq, Int.reduceToNat, ↓reduceIte, hl, e1]
    refine (next_log h0 hb).mono ?_
    rintro r H' ⟨rfl, rfl⟩
    by_cases c2 : ((first + sts.length : Nat) : Int) ≤ x
    · have e2 : decide (((first + sts.length : Nat) : Int) ≤ x) = true := by simp; omega
      simp only [go_sem, Nat.reduceEqDiff, Nat.reduceLT, Nat.reduceAdd, Nat.reduceMul, Int.reduceEq, Int.reduceLT, Int.reduceLE, Int.reduceNe, Int.reduceBEq, Int.reduceToNat, ↓reduceIte, hl, e1, e2]
      rw [stOf, if_neg (by omega)]; rfl
    · have e2 : decide (((first + sts.length : Nat) : Int) ≤ x) = false := by simp; omega
      obtain ⟨k, rfl⟩ : ∃ k : Nat, x = ((first + k : Nat) : Int) := ⟨(x - first).toNat, by omega⟩
      have hk : k < sts.length := by omega
      have hkb : k / 4 < bs.length := by rw [h3.len]; omega
      obtain ⟨g, cap, cur, rfl, hg, hc1, hc2, hc3, _⟩ := h2.open1 (by omega)
      have hgl := ld_own w0 hg
      have hcv : cur[k / 4]? = some (.int .u8 (bs.getD (k / 4) 0 : Nat)) := by
        rw [hc3 _ hkb]; simp [u8s, hkb]
      have e4 : IntKind.u64.wrap ((↑(first + k) : Int) - (first : Int)) = (k : Nat) := by rw [u64_in] <;> omega
      have e5 : IntKind.u64.wrap ((k : Int).tdiv 4) = (k / 4 : Nat) := by rw [Int.tdiv_eq_ediv_of_nonneg (by omega), u64_in] <;> omega
      have e6 : decide (0 ≤ (↑(k / 4) : Int)) = true := by simp; omega
      have e6' : decide ((↑(k / 4) : Int) < (bs.length : Int)) = true := by simp; omega
      have e7 : (k : Int).tmod 4 = (k % 4 : Nat) := by rw [Int.tmod_eq_emod_of_nonneg (by omega)]; omega
      have e8 : IntKind.u64.wrap (2 * (↑(k % 4) : Int)) = 2 * (k % 4 : Nat) := by rw [u64_in] <;> omega
      have e9 : decide (0 ≤ 2 * (↑(k % 4) : Int)) = true := by simp; omega
      simp only [go_sem, Nat.reduceEqDiff, Nat.reduceLT, Nat.reduceAdd, Nat.reduceMul, Int.reduceEq, Int.reduceLT, Int.reduceLE, Int.reduceNe, Int.reduceBEq, Int.reduceToNat, ↓reduceIte, hl, e1, e2, e4, e5, e6, e6', e7, e8, e9, hgl, hcv]
      have hst := h3.st k hk
      unfold getE at hst
      refine (congrArg (fun z => Value.int .i64 (IntKind.i64.wrap z)) hst).trans ?_
      rw [i64_in (by omega)]
      · rw [stOf, if_pos (by omega), show ((↑(first + k) : Int) - (first : Int)).toNat = k by omega]
      · have hr := getE_range ⟨bs.getD (k / 4) 0, h3.lt _⟩ ⟨k % 4, by omega⟩
        unfold getE at hr
        simp only [] at hr
        rw [hst] at hr
        omega

theorem Packed.set {bs sts : List Nat} (h : Packed bs sts) {k v : Nat} (hk : k < sts.length) (hv : v < 4) : 0 ≤ setE (bs.getD (k / 4) 0 : Nat) (2 * (k % 4 : Nat)) v ∧
    Packed (bs.set (k / 4) (setE (bs.getD (k / 4) 0 : Nat) (2 * (k % 4 : Nat)) v).toNat) (sts.set k v) := by
  have hkb : k / 4 < bs.length := by rw [h.len]; omega
  obtain ⟨h0, h1, h2, h3⟩ := setE_fin ⟨bs.getD (k / 4) 0, h.lt _⟩ ⟨k % 4, by omega⟩ ⟨v, hv⟩
  simp only [] at h0 h1 h2 h3
  have hnn : ((setE (bs.getD (k / 4) 0 : Nat) (2 * (k % 4 : Nat)) v).toNat : Int) = setE (bs.getD (k / 4) 0 : Nat) (2 * (k % 4 : Nat)) v := by omega
  refine ⟨h0, by simp [h.len], fun b hb => ?_, fun i hi => ?_⟩
  · rcases List.mem_or_eq_of_mem_set hb with hb | rfl
    · exact h.byte b hb
    · omega
  · rw [List.length_set] at hi
    have hib : i / 4 < bs.length := by rw [h.len]; omega
    by_cases e : i / 4 = k / 4
    · have : (bs.set (k / 4) (setE (bs.getD (k / 4) 0 : Nat) (2 * (k % 4 : Nat)) v).toNat).getD (i / 4) 0 = (setE (bs.getD (k / 4) 0 : Nat) (2 * (k % 4 : Nat)) v).toNat := by
        rw [e]; simp [hkb]
      rw [this, hnn]
      by_cases e' : i = k
      · subst e'
        rw [h2]; simp [hk]
      · have hne : (⟨i % 4, by omega⟩ : Fin 4) ≠ ⟨k % 4, by omega⟩ := by
          intro e''
          have : i % 4 = k % 4 := by simpa using e''
          omega
        have := h3 ⟨i % 4, by omega⟩ hne
        simp only [] at this
        rw [this, ← e, h.st i hi]
        have : (sts.set k v).getD i 0 = sts.getD i 0 := by simp [List.getElem?_set_ne (Ne.symm e')]
        rw [this]
    · have : (bs.set (k / 4) (setE (bs.getD (k / 4) 0 : Nat) (2 * (k % 4 : Nat)) v).toNat).getD (i / 4) 0 = bs.getD (i / 4) 0 := by simp [List.getElem?_set_ne (Ne.symm e)]
      rw [this, h.st i hi]
      have hne : k ≠ i := fun e' => e (by rw [e'])
      have : (sts.set k v).getD i 0 = sts.getD i 0 := by simp [List.getElem?_set_ne hne]
      rw [this]

theorem set_log {w0 : World} {H : Hp} {l : Nat} {S : Nat → Prop} {first : Nat} {sts : List Nat} (h : LogAt H l S first sts) (hb : first + sts.length < 18446744073709551616) {k v : Nat} (hk : k < sts.length) (hv : v < 4) :
    ACalls Try.prog w0 27 #[.pointer (some ⟨l, 0, none⟩), .int .u64 ((first + k : Nat) : Int), .int .u8 (v : Int)] H fun r H' => LogAt H' l S first (sts.set k v) ∧ ∀ b o, ¬ S b → H b = some o → H' b = some o := by
  obtain ⟨sl, bs, h1, h2, h3, h4, h5⟩ := h
  have hl := ld_own w0 h1
  have hkb : k / 4 < bs.length := by rw [h3.len]; omega
  have h2' := h2
  obtain ⟨g, cap, cur, rfl, hg, hc1, hc2, hc3, hc4⟩ := h2.open1 (by omega)
  have hgl := ld_own w0 hg
  have hgw := wr_own hg (k / 4) (by omega)
  have hcv : cur[k / 4]? = some (.int .u8 (bs.getD (k / 4) 0 : Nat)) := by
    rw [hc3 _ hkb]; simp [u8s, hkb]
  have e4 : IntKind.u64.wrap ((↑(first + k) : Int) - (first : Int)) = (k : Nat) := by rw [u64_in] <;> omega
  have e5 : IntKind.u64.wrap ((k : Int).tdiv 4) = (k / 4 : Nat) := by rw [Int.tdiv_eq_ediv_of_nonneg (by omega), u64_in] <;> omega
  have e6 : decide (0 ≤ (↑(k / 4) : Int)) = true := by simp; omega
  have e6' : decide ((↑(k / 4) : Int) < (bs.length : Int)) = true := by simp; omega
  have e7 : (k : Int).tmod 4 = (k % 4 : Nat) := by rw [Int.tmod_eq_emod_of_nonneg (by omega)]; omega
  have e8 : IntKind.u64.wrap (2 * (↑(k % 4) : Int)) = 2 * (k % 4 : Nat) := by rw [u64_in] <;> omega
  have e9 : decide (0 ≤ 2 * (↑(k % 4) : Int)) = true := by simp; omega
  obtain ⟨hs0, hs1⟩ := h3.set hk hv
  have hlg : l ≠ g := fun e => h4 (by simp [blk, e])
  refine acalls_of Try.func27 rfl Try.ntmps27 r27 (by simp) ?_
  simp only [go_sem, Nat.reduceEqDiff, Nat.reduceLT, Nat.reduceAdd, Nat.reduceMul, Int.reduceEq, Int.reduceLT, Int.reduceLE, Int.reduceNe, Int.reduceBEq, Int.reduceToNat, ↓reduceIte, hl, e4, e5, e6, e6', e7, e8, e9, hgl, hcv, hgw]
  refine ⟨⟨_, bs.set (k / 4) (setE (bs.getD (k / 4) 0 : Nat) (2 * (k % 4 : Nat)) v).toNat, by rw [Hp.set_ne _ _ _ _ hlg, List.length_set]; exact h1, ?_, hs1, h4, h5⟩, ?_⟩
  · rw [List.length_set]
    refine ⟨by simp [u8s], .inr ⟨g, cap, _, rfl, Hp.set_same _ _ _, hc1, by simp [hc2], ?_⟩⟩
    rw [Array.toList_setIfInBounds, Nat.mul_one, List.take_set, hc4]
    simp only [u8s, List.map_set]
    have : ((setE (bs.getD (k / 4) 0 : Nat) (2 * (k % 4 : Nat)) v).toNat : Int) = setE (bs.getD (k / 4) 0 : Nat) (2 * (k % 4 : Nat)) v := by omega
    rw [this]
    rfl
  · intro b o hb hbo
    rw [Hp.set_ne _ _ _ _ (fun e => hb ((h5 b).2 (.inr (by rw [e]; rfl))))]
    exact hbo

theorem stOf_one {first : Nat} {sts : List Nat} {x : Int} {v : Nat} (hv : 0 < v) (h : stOf first sts x = v) : ∃ k, x = ((first + k : Nat) : Int) ∧ k < sts.length ∧ sts.getD k 0 = v := by
  unfold stOf at h
  split at h
  · rename_i hc
    exact ⟨(x - first).toNat, by omega, by omega, h⟩
  · omega

/-- The states behind an end. -/
def endSts (first : Nat) (sts : List Nat) (x : Int) (v : Nat) : List Nat := if stOf first sts x = 1 then sts.set (x - first).toNat v else sts
def endCode (first : Nat) (sts : List Nat) (x : Int) : Int := if stOf first sts x = 1 then 0 else 15

theorem end_log {w0 : World} {H : Hp} {l : Nat} {S : Nat → Prop} {first : Nat} {sts : List Nat} (h : LogAt H l S first sts) (hb : first + sts.length < 18446744073709551616) {x : Int} (hx0 : 0 ≤ x) {v : Nat} (hv : v < 4) :
    ACalls Try.prog w0 38 #[.pointer (some ⟨l, 0, none⟩), .int .u64 x, .int .u8 (v : Int)] H fun r H' => r = .int .i64 (endCode first sts x) ∧ LogAt H' l S first (endSts first sts x v) ∧
      ∀ b o, ¬ S b → H b = some o → H' b = some o := by
  refine acalls_of Try.func38 rfl Try.ntmps38 r38 (by simp) ?_
  simp only [go_sem, Nat.reduceEqDiff, Nat.reduceLT, Nat.reduceAdd, Nat.reduceMul, Int.reduceEq, Int.reduceLT, Int.reduceLE, Int.reduceNe, Int.reduceBEq, Int.reduceToNat, ↓reduceIte]
  refine (state_log h hb hx0).mono ?_
  rintro r H' ⟨rfl, rfl⟩
  by_cases c : stOf first sts x = 1
  · have e1 : decide (((stOf first sts x : Nat) : Int) = 1) = true := by simp; omega
    obtain ⟨k, rfl, hk, hk1⟩ := stOf_one (by omega) c
    simp only [go_sem, Nat.reduceEqDiff, Nat.reduceLT, Nat.reduceAdd, Nat.reduceMul, Int.reduceEq, Int.reduceLT, Int.reduceLE, Int.reduceNe, Int.reduceBEq, Int.reduceToNat, ↓reduceIte, e1]
    refine (set_log h hb hk hv).mono ?_
    rintro r H' ⟨h1, h2⟩
    simp only [go_sem, Nat.reduceEqDiff, Nat.reduceLT, Nat.reduceAdd, Nat.reduceMul, Int.reduceEq, Int.reduceLT, Int.reduceLE, Int.reduceNe, Int.reduceBEq, Int.reduceToNat, ↓reduceIte]
    refine ⟨by rw [endCode, if_pos c], ?_, h2⟩
    rw [endSts, if_pos c, show ((↑(first + k) : Int) - (first : Int)).toNat = k by omega]
    exact h1
  · have e1 : decide (((stOf first sts x : Nat) : Int) = 1) = false := by simp; omega
    simp only [go_sem, Nat.reduceEqDiff, Nat.reduceLT, Nat.reduceAdd, Nat.reduceMul, Int.reduceEq, Int.reduceLT, Int.reduceLE, Int.reduceNe, Int.reduceBEq, Int.reduceToNat, ↓reduceIte, e1]
    exact ⟨by rw [endCode, if_neg c], by rw [endSts, if_neg c]; exact h, fun b o _ hb => hb⟩
theorem end_nil (w0 : World) (H : Hp) (x v : Int) : ACalls Try.prog w0 38 #[.pointer none, .int .u64 x, .int .u8 v] H fun r H' => r = .int .i64 15 ∧ H' = H := by
  refine acalls_of Try.func38 rfl Try.ntmps38 r38 (by simp) ?_
  simp only [go_sem, Nat.reduceEqDiff, Nat.reduceLT, Nat.reduceAdd, Nat.reduceMul, Int.reduceEq, Int.reduceLT, Int.reduceLE, Int.reduceNe, Int.reduceBEq, Int.reduceToNat, ↓reduceIte]
  refine (state_nil w0 H x).mono ?_
  rintro r H' ⟨rfl, rfl⟩
  simp only [go_sem, Nat.reduceEqDiff, Nat.reduceLT, Nat.reduceAdd, Nat.reduceMul, Int.reduceEq, Int.reduceLT, Int.reduceLE, Int.reduceNe, Int.reduceBEq, Int.reduceToNat, ↓reduceIte]

theorem Packed.more {bs sts : List Nat} (h : Packed bs sts) (hm : ¬ sts.length % 4 = 0) : ∃ s, s < 4 ∧ Packed bs (sts ++ [s]) := by
  have hr := getE_range ⟨bs.getD (sts.length / 4) 0, h.lt _⟩ ⟨sts.length % 4, by omega⟩
  simp only [] at hr
  refine ⟨(getE (bs.getD (sts.length / 4) 0 : Nat) (2 * (sts.length % 4 : Nat))).toNat, by omega, by rw [h.len]; simp; omega, h.byte, fun i hi => ?_⟩
  rw [List.length_append, List.length_singleton] at hi
  by_cases e : i < sts.length
  · rw [h.st i e]; simp [e, List.getElem?_append_left]
  · obtain rfl : i = sts.length := by omega
    have h1 : ∀ s : Nat, (sts ++ [s]).getD sts.length 0 = s := fun s => by simp
    rw [h1]
    omega
theorem Packed.zero {bs sts : List Nat} (h : Packed bs sts) (hm : sts.length % 4 = 0) : Packed (bs ++ [0]) (sts ++ [0]) := by
  have hlen := h.len
  refine ⟨by simp; omega, fun b hb => ?_, fun i hi => ?_⟩
  · rcases List.mem_append.1 hb with hb | hb
    · exact h.byte b hb
    · have : b = 0 := by simpa using hb
      omega
  · rw [List.length_append, List.length_singleton] at hi
    by_cases e : i < sts.length
    · have hib : i / 4 < bs.length := by omega
      have h1 : (bs ++ [0]).getD (i / 4) 0 = bs.getD (i / 4) 0 := by simp [hib, List.getElem?_append_left]
      rw [h1, h.st i e]; simp [e, List.getElem?_append_left]
    · obtain rfl : i = sts.length := by omega
      have h1 : (bs ++ [0]).getD (sts.length / 4) 0 = 0 := by
        rw [show sts.length / 4 = bs.length by omega]; simp
      rw [h1, hm]; simp
      decide +kernel

theorem begin_nil (w0 : World) (H : Hp) : ACalls Try.prog w0 10 #[.pointer none] H fun r H' => r = .tuple #[.int .u64 0, .int .i64 15] ∧ H' = H := by
  refine acalls_of Try.func10 rfl Try.ntmps10 r10 (by simp) ?_
  simp only [go_sem, Nat.reduceEqDiff, Nat.reduceLT, Nat.reduceAdd, Nat.reduceMul, Int.reduceEq, Int.reduceLT, Int.reduceLE, Int.reduceNe, Int.reduceBEq, Int.reduceToNat, ↓reduceIte]
theorem begin_full {w0 : World} {H : Hp} {l : Nat} {S : Nat → Prop} {first : Nat} {sts : List Nat} (h : LogAt H l S first sts) (hb : first + sts.length < 18446744073709551616) (hf : 1099511627776 < first + sts.length) :
    ACalls Try.prog w0 10 #[.pointer (some ⟨l, 0, none⟩)] H fun r H' => r = .tuple #[.int .u64 0, .int .i64 12] ∧ H' = H := by
  refine acalls_of Try.func10 rfl Try.ntmps10 r10 (by simp) ?_
  simp only [go_sem, Nat.reduceEqDiff, Nat.reduceLT, Nat.reduceAdd, Nat.reduceMul, Int.reduceEq, Int.reduceLT, Int.reduceLE, Int.reduceNe, Int.reduceBEq, Int.reduceToNat, ↓reduceIte]
  refine (next_log h hb).mono ?_
  rintro r H' ⟨rfl, rfl⟩
  have e1 : decide (1099511627776 < ((first + sts.length : Nat) : Int)) = true := by simp; omega
  simp only [go_sem, Nat.reduceEqDiff, Nat.reduceLT, Nat.reduceAdd, Nat.reduceMul, Int.reduceEq, Int.reduceLT, Int.reduceLE, Int.reduceNe, Int.reduceBEq, Int.reduceToNat, ↓reduceIte, e1]
theorem begin_log {w0 : World} {H : Hp} {l : Nat} {S : Nat → Prop} {first : Nat} {sts : List Nat} (h : LogAt H l S first sts) (hf : first + sts.length ≤ 1099511627776) :
    ACalls Try.prog w0 10 #[.pointer (some ⟨l, 0, none⟩)] H fun r H' => r = .tuple #[.int .u64 ((first + sts.length : Nat) : Int), .int .i64 0] ∧ ∃ S', LogAt H' l S' first (sts ++ [1]) ∧
      (∀ b, S' b → S b ∨ (H b = none ∧ w0.heap.size ≤ b)) ∧ ∀ b o, ¬ S b → H b = some o → H' b = some o := by
  have h0 := h
  obtain ⟨sl, bs, h1, h2, h3, h4, h5⟩ := h
  have hl := ld_own w0 h1
  refine acalls_of Try.func10 rfl Try.ntmps10 r10 (by simp) ?_
  simp only [go_sem, Nat.reduceEqDiff, Nat.reduceLT, Nat.reduceAdd, Nat.reduceMul, Int.reduceEq, Int.reduceLT, Int.reduceLE, Int.reduceNe, Int.reduceBEq, Int.reduceToNat, ↓reduceIte]
  refine (next_log h0 (by omega)).mono ?_
  rintro r H' ⟨rfl, rfl⟩
  have e1 : decide (1099511627776 < ((first + sts.length : Nat) : Int)) = false := by simp; omega
  simp only [go_sem, Nat.reduceEqDiff, Nat.reduceLT, Nat.reduceAdd, Nat.reduceMul, Int.reduceEq, Int.reduceLT, Int.reduceLE, Int.reduceNe, Int.reduceBEq, Int.reduceToNat, ↓reduceIte, e1]
  refine (next_log h0 (by omega)).mono ?_
  rintro r H' ⟨rfl, rfl⟩
  have e2 : (sts.length : Int).tmod 4 = (sts.length % 4 : Nat) := by rw [Int.tmod_eq_emod_of_nonneg (by omega)]; omega
  have e3 : IntKind.u64.wrap ((sts.length : Int) + 1) = (sts.length + 1 : Nat) := by rw [u64_in] <;> omega
  have bs1 : bsCells Try.prog 5 1 #[(0, .int .u8 0)] = some #[.int .u8 0] := by kernel_rfl
  -- what is behind the room for one more
  have rest : ∀ (H1 : Hp) (sl1 : Value) (bs1 : List Nat) (s : Nat), s < 4 → H1 l = some (.cells #[.int .u64 (first : Int), .int .u64 ((sts.length + 1 : Nat) : Int), sl1] 69 (0, 0)) → Row H1 5 1 sl1 bs1.length (u8s bs1) → Packed bs1 (sts ++ [s]) →
      blk sl1 ≠ some l → (∀ b, (b = l ∨ blk sl1 = some b) → S b ∨ (H' b = none ∧ w0.heap.size ≤ b)) → (∀ b o, ¬ S b → H' b = some o → H1 b = some o) →
      ACalls Try.prog w0 27 #[.pointer (some ⟨l, 0, none⟩), .int .u64 ((first + sts.length : Nat) : Int), .int .u8 1] H1 fun r H2 => ∃ S', LogAt H2 l S' first (sts ++ [1]) ∧
        (∀ b, S' b → S b ∨ (H' b = none ∧ w0.heap.size ≤ b)) ∧ ∀ b o, ¬ S b → H' b = some o → H2 b = some o := by
    intro H1 sl1 bs1 s hs g1 g2 g3 g4 g5 g6
    have hlog : LogAt H1 l (fun b => b = l ∨ blk sl1 = some b) first (sts ++ [s]) := ⟨sl1, bs1, by rw [List.length_append, List.length_singleton]; exact g1, g2, g3, g4, fun b => Iff.rfl⟩
    refine (set_log hlog (by simp; omega) (k := sts.length) (v := 1) (by simp) (by omega)).mono ?_
    rintro r H2 ⟨q1, q2⟩
    refine ⟨_, ?_, g5, fun b o hb ho => q2 b o (fun hc => ?_) (g6 b o hb ho)⟩
    · have : (sts ++ [s]).set sts.length 1 = sts ++ [1] := by rw [List.set_append_right _ _ (Nat.le_refl _)]; simp
      rw [this] at q1; exact q1
    · rcases g5 b hc with e | ⟨e, _⟩
      · exact hb e
      · rw [e] at ho; cases ho
  by_cases c : sts.length % 4 = 0
  · have e4 : decide (((sts.length % 4 : Nat) : Int) = 0) = true := by simp; omega
    simp only [go_sem, Nat.reduceEqDiff, Nat.reduceLT, Nat.reduceAdd, Nat.reduceMul, Int.reduceEq, Int.reduceLT, Int.reduceLE, Int.reduceNe, Int.reduceBEq, Int.reduceToNat, ↓reduceIte, hl, e1, e2, e4, bs1]
    intro nb hnb hnn
    simp only [go_sem, Nat.reduceEqDiff, Nat.reduceLT, Nat.reduceAdd, Nat.reduceMul, Int.reduceEq, Int.reduceLT, Int.reduceLE, Int.reduceNe, Int.reduceBEq, Int.reduceToNat, ↓reduceIte]
    generalize hH1 : H'.set nb (.cells #[.int .u8 0] 5) = H1
    have hne : ∀ {b o}, H' b = some o → H1 b = some o := fun {b o} hb => by rw [← hH1, Hp.set_ne _ _ _ _ (fun e => by rw [e, hnn] at hb; cases hb)]; exact hb
    have hnl : H1 l = _ := hne h1
    have hl1 := ld_own w0 hnl
    have hrow : Row H1 5 1 sl bs.length (u8s bs) := h2.keep fun b o _ hb => hne hb
    have hlen := h3.len
    have hnb1 : H1 nb = some (.cells #[.int .u8 0] 5 (0, 0)) := by rw [← hH1, Hp.set_same]
    refine aop_append_lit (t := 67) (x := .tmp 24) (y := .tmp 25) (c := 1) Try.underlying67 s5 b5 z5 rfl (v := sl) (by simp only [go_sem, Nat.reduceEqDiff, Nat.reduceLT, Nat.reduceAdd, Nat.reduceMul, Int.reduceEq, Int.reduceLT, Int.reduceLE, Int.reduceNe, Int.reduceBEq, Int.reduceToNat, ↓reduceIte]) hrow hnb1 (by simp only [go_sem, Nat.reduceEqDiff, Nat.reduceLT, Nat.reduceAdd, Nat.reduceMul, Int.reduceEq, Int.reduceLT, Int.reduceLE, Int.reduceNe, Int.reduceBEq, Int.reduceToNat, ↓reduceIte]) rfl (by decide) (by omega) (by omega) (by omega) ?_
    intro g H2 hg hH2 cap' hrow2
    have hlg : l ≠ g := by
      intro e
      rcases hg with hg | ⟨hg, _⟩
      · exact h4 (by rw [← hg, e])
      · rw [← e, hnl] at hg; cases hg
    have hl2 : H2 l = some (.cells #[.int .u64 (first : Int), .int .u64 (sts.length : Int), sl] 69 (0, 0)) := by rw [hH2 l hlg]; exact hnl
    have hld2 := ld_own w0 hl2
    have hw2 := wr_own hl2 2 (by simp)
    simp only [go_sem, Nat.reduceEqDiff, Nat.reduceLT, Nat.reduceAdd, Nat.reduceMul, Int.reduceEq, Int.reduceLT, Int.reduceLE, Int.reduceNe, Int.reduceBEq, Int.reduceToNat, ↓reduceIte, hld2, hw2]
    have hl3 : (H2.set l (.cells #[.int .u64 (first : Int), .int .u64 (sts.length : Int), .slice (some ⟨g, 0, none⟩) (bs.length + 1) cap'] 69 (0, 0))) l = _ := Hp.set_same _ _ _
    have hld3 := ld_own w0 hl3
    have hw3 := wr_own hl3 1 (by simp)
    simp only [go_sem, Nat.reduceEqDiff, Nat.reduceLT, Nat.reduceAdd, Nat.reduceMul, Int.reduceEq, Int.reduceLT, Int.reduceLE, Int.reduceNe, Int.reduceBEq, Int.reduceToNat, ↓reduceIte, hld3, hw3, e3]
    have hgS : ∀ b, b = g → S b ∨ (H' b = none ∧ w0.heap.size ≤ b) := by
      rintro b rfl
      rcases hg with hg | ⟨hg, hgw⟩
      · exact .inl ((h5 b).2 (.inr hg.symm))
      · refine .inr ⟨?_, hgw⟩
        cases e : H' b with
        | none => rfl
        | some o => have := hne e; rw [this] at hg; cases hg
    refine (rest _ (.slice (some ⟨g, 0, none⟩) (bs.length + 1) cap') (bs ++ [0]) 0 (by omega) (Hp.set_same _ _ _) ?_ (h3.zero c) (by intro e; simp only [blk, Option.some.injEq] at e; exact hlg e.symm) ?_ ?_).mono ?_
    · have : u8s (bs ++ [0]) = u8s bs ++ [.int .u8 0] := by simp [u8s]
      rw [this, List.length_append]
      refine hrow2.keep fun b o hb ho => ?_
      simp only [blk, Option.some.injEq] at hb; subst hb
      rw [Hp.set_ne _ _ _ _ (Ne.symm hlg)]; exact ho
    · rintro b (rfl | hb)
      · exact .inl ((h5 b).2 (.inl rfl))
      · simp only [blk, Option.some.injEq] at hb; exact hgS _ hb.symm
    · intro b o hb ho
      have hbl : b ≠ l := fun e => hb ((h5 b).2 (.inl e))
      rw [Hp.set_ne _ _ _ _ hbl, hH2 b, hne ho]
      intro e
      rcases hgS b e with h | ⟨h, _⟩
      · exact hb h
      · rw [h] at ho; cases ho
    · rintro r H3 ⟨S', q1, q2, q3⟩
      simp only [go_sem, Nat.reduceEqDiff, Nat.reduceLT, Nat.reduceAdd, Nat.reduceMul, Int.reduceEq, Int.reduceLT, Int.reduceLE, Int.reduceNe, Int.reduceBEq, Int.reduceToNat, ↓reduceIte]
      exact ⟨S', q1, q2, q3⟩
  · obtain ⟨s, hs, hp⟩ := h3.more c
    have e4 : decide (((sts.length % 4 : Nat) : Int) = 0) = false := by simp; omega
    have hw := wr_own h1 1 (by simp)
    simp only [go_sem, Nat.reduceEqDiff, Nat.reduceLT, Nat.reduceAdd, Nat.reduceMul, Int.reduceEq, Int.reduceLT, Int.reduceLE, Int.reduceNe, Int.reduceBEq, Int.reduceToNat, ↓reduceIte, hl, e1, e2, e3, e4, hw]
    refine (rest _ sl bs s hs (Hp.set_same _ _ _) ?_ hp h4 ?_ ?_).mono ?_
    · refine h2.keep fun b o hb ho => ?_
      rw [Hp.set_ne _ _ _ _ (fun e => h4 (by rw [hb, e]))]; exact ho
    · exact fun b hb => .inl ((h5 b).2 hb)
    · intro b o hb ho
      rw [Hp.set_ne _ _ _ _ (fun e => hb ((h5 b).2 (.inl e)))]; exact ho
    · rintro r H3 ⟨S', q1, q2, q3⟩
      simp only [go_sem, Nat.reduceEqDiff, Nat.reduceLT, Nat.reduceAdd, Nat.reduceMul, Int.reduceEq, Int.reduceLT, Int.reduceLE, Int.reduceNe, Int.reduceBEq, Int.reduceToNat, ↓reduceIte]
      exact ⟨S', q1, q2, q3⟩

theorem commit_log {w0 : World} {H : Hp} {l : Nat} {S : Nat → Prop} {first : Nat} {sts : List Nat} (h : LogAt H l S first sts) (hb : first + sts.length < 18446744073709551616) {x : Int} (hx0 : 0 ≤ x) :
    ACalls Try.prog w0 16 #[.pointer (some ⟨l, 0, none⟩), .int .u64 x] H fun r H' => r = .int .i64 (endCode first sts x) ∧ LogAt H' l S first (endSts first sts x 2) ∧
      ∀ b o, ¬ S b → H b = some o → H' b = some o := by
  refine acalls_of Try.func16 rfl Try.ntmps16 r16 (by simp) ?_
  simp only [go_sem, Nat.reduceEqDiff, Nat.reduceLT, Nat.reduceAdd, Nat.reduceMul, Int.reduceEq, Int.reduceLT, Int.reduceLE, Int.reduceNe, Int.reduceBEq, Int.reduceToNat, ↓reduceIte]
  refine (end_log h hb hx0 (v := 2) (by omega)).mono ?_
  rintro r H' ⟨rfl, h2⟩
  simp only [go_sem, Nat.reduceEqDiff, Nat.reduceLT, Nat.reduceAdd, Nat.reduceMul, Int.reduceEq, Int.reduceLT, Int.reduceLE, Int.reduceNe, Int.reduceBEq, Int.reduceToNat, ↓reduceIte]
  exact h2
theorem abort_log {w0 : World} {H : Hp} {l : Nat} {S : Nat → Prop} {first : Nat} {sts : List Nat} (h : LogAt H l S first sts) (hb : first + sts.length < 18446744073709551616) {x : Int} (hx0 : 0 ≤ x) :
    ACalls Try.prog w0 17 #[.pointer (some ⟨l, 0, none⟩), .int .u64 x] H fun r H' => r = .int .i64 (endCode first sts x) ∧ LogAt H' l S first (endSts first sts x 3) ∧
      ∀ b o, ¬ S b → H b = some o → H' b = some o := by
  refine acalls_of Try.func17 rfl Try.ntmps17 r17 (by simp) ?_
  simp only [go_sem, Nat.reduceEqDiff, Nat.reduceLT, Nat.reduceAdd, Nat.reduceMul, Int.reduceEq, Int.reduceLT, Int.reduceLE, Int.reduceNe, Int.reduceBEq, Int.reduceToNat, ↓reduceIte]
  refine (end_log h hb hx0 (v := 3) (by omega)).mono ?_
  rintro r H' ⟨rfl, h2⟩
  simp only [go_sem, Nat.reduceEqDiff, Nat.reduceLT, Nat.reduceAdd, Nat.reduceMul, Int.reduceEq, Int.reduceLT, Int.reduceLE, Int.reduceNe, Int.reduceBEq, Int.reduceToNat, ↓reduceIte]
  exact h2
theorem commit_nil (w0 : World) (H : Hp) (x : Int) : ACalls Try.prog w0 16 #[.pointer none, .int .u64 x] H fun r H' => r = .int .i64 15 ∧ H' = H := by
  refine acalls_of Try.func16 rfl Try.ntmps16 r16 (by simp) ?_
  simp only [go_sem, Nat.reduceEqDiff, Nat.reduceLT, Nat.reduceAdd, Nat.reduceMul, Int.reduceEq, Int.reduceLT, Int.reduceLE, Int.reduceNe, Int.reduceBEq, Int.reduceToNat, ↓reduceIte]
  refine (end_nil w0 H x 2).mono ?_
  rintro r H' ⟨rfl, rfl⟩
  simp only [go_sem, Nat.reduceEqDiff, Nat.reduceLT, Nat.reduceAdd, Nat.reduceMul, Int.reduceEq, Int.reduceLT, Int.reduceLE, Int.reduceNe, Int.reduceBEq, Int.reduceToNat, ↓reduceIte]
theorem abort_nil (w0 : World) (H : Hp) (x : Int) : ACalls Try.prog w0 17 #[.pointer none, .int .u64 x] H fun r H' => r = .int .i64 15 ∧ H' = H := by
  refine acalls_of Try.func17 rfl Try.ntmps17 r17 (by simp) ?_
  simp only [go_sem, Nat.reduceEqDiff, Nat.reduceLT, Nat.reduceAdd, Nat.reduceMul, Int.reduceEq, Int.reduceLT, Int.reduceLE, Int.reduceNe, Int.reduceBEq, Int.reduceToNat, ↓reduceIte]
  refine (end_nil w0 H x 3).mono ?_
  rintro r H' ⟨rfl, rfl⟩
  simp only [go_sem, Nat.reduceEqDiff, Nat.reduceLT, Nat.reduceAdd, Nat.reduceMul, Int.reduceEq, Int.reduceLT, Int.reduceLE, Int.reduceNe, Int.reduceBEq, Int.reduceToNat, ↓reduceIte]

/-! ### All -/
def u64s (xs : List Nat) : List Value := xs.map fun x : Nat => .int .u64 (x : Int)
/-- Those of the first k that run. -/
def runsK (first : Nat) (sts : List Nat) (k : Nat) : List Nat := ((List.range k).filter fun i => sts.getD i 0 == 1).map (first + ·)
def runs (first : Nat) (sts : List Nat) : List Nat := runsK first sts sts.length
theorem runsK_succ (first : Nat) (sts : List Nat) (k : Nat) : runsK first sts (k + 1) = if sts.getD k 0 = 1 then runsK first sts k ++ [first + k] else runsK first sts k := by
  unfold runsK
  rw [List.range_succ, List.filter_append]
  by_cases h : sts.getD k 0 = 1
  · simp only [List.filter_cons, List.filter_nil, beq_iff_eq, h, if_true, List.map_append, List.map_cons, List.map_nil]
  · simp only [List.filter_cons, List.filter_nil, beq_iff_eq, h, if_false, List.append_nil]
theorem runsK_len (first : Nat) (sts : List Nat) (k : Nat) : (runsK first sts k).length ≤ k := by
  unfold runsK
  rw [List.length_map]
  have := List.length_filter_le (fun i => sts.getD i 0 == 1) (List.range k)
  simpa using this

/-- A slice of the call's own, made since H. -/
def Fresh (w0 : World) (H H' : Hp) (e sz : Nat) (v : Value) (xs : List Value) : Prop :=
  (∃ n, Row H' e sz v n xs) ∧ (∀ b, blk v = some b → H b = none ∧ w0.heap.size ≤ b) ∧ Sub H H'

def AllI (w0 : World) (H : Hp) (l first : Nat) (sts : List Nat) (m : Nat) (F : Fr) (H1 : Hp) : Prop :=
  ∃ k v, k + m = sts.length ∧ F 0 = .pointer (some ⟨l, 0, none⟩) ∧ F 10 = .int .u64 (sts.length : Int) ∧ F 11 = .int .u64 (k : Int) ∧ F 3 = v ∧ Row H1 27 1 v (runsK first sts k).length (u64s (runsK first sts k)) ∧
    (∀ b, blk v = some b → H b = none ∧ w0.heap.size ≤ b) ∧ Sub H H1

theorem all_log {w0 : World} {H : Hp} {l : Nat} {S : Nat → Prop} {first : Nat} {sts : List Nat} (h : LogAt H l S first sts) (hb : first + sts.length < 10000000000000) :
    ACalls Try.prog w0 28 #[.pointer (some ⟨l, 0, none⟩)] H fun r H' => Row H' 27 1 r (runs first sts).length (u64s (runs first sts)) ∧ (∀ b, blk r = some b → H b = none ∧ w0.heap.size ≤ b) ∧ Sub H H' := by
  have h0 := h
  obtain ⟨sl, bs, h1, h2, h3, h4, h5⟩ := h
  have hl := ld_own w0 h1
  refine acalls_of Try.func28 rfl Try.ntmps28 r28 (by simp) ?_
  simp only [go_sem, Nat.reduceEqDiff, Nat.reduceLT, Nat.reduceAdd, Nat.reduceMul, Int.reduceEq, Int.reduceLT, Int.reduceLE, Int.reduceNe, Int.reduceBEq, Int.reduceToNat, ↓reduceIte, hl]
  refine AC.loop (AllI w0 H l first sts) (n := sts.length) ⟨0, .slice none 0 0, by omega, rfl, rfl, rfl, rfl, ⟨by simp [runsK, u64s], .inl ⟨rfl, rfl⟩⟩, by simp [blk], Sub.refl H⟩ ?_
  rintro m F H1 ⟨k, v, hk, f0, f10, f11, f3, hrow, hfr, hsub⟩
  by_cases c : k < sts.length
  · have e1 : decide ((k : Int) < (sts.length : Int)) = true := by simp; omega
    have hl1 := ld_own w0 (hsub _ _ h1)
    have e2 : IntKind.u64.wrap ((first : Int) + (k : Int)) = (first + k : Nat) := by rw [u64_in] <;> omega
    have e3 : IntKind.u64.wrap ((k : Int) + 1) = (k + 1 : Nat) := by rw [u64_in] <;> omega
    simp only [go_sem, Nat.reduceEqDiff, Nat.reduceLT, Nat.reduceAdd, Nat.reduceMul, Int.reduceEq, Int.reduceLT, Int.reduceLE, Int.reduceNe, Int.reduceBEq, Int.reduceToNat, ↓reduceIte, f0, f10, f11, f3, e1, hl1, e2]
    refine (state_log (h0.keep fun b o _ hb => hsub b o hb) (by omega) (x := ((first + k : Nat) : Int)) (by omega)).mono ?_
    rintro r H' ⟨rfl, rfl⟩
    have hst : stOf first sts ((first + k : Nat) : Int) = sts.getD k 0 := by
      rw [stOf, if_pos (by omega), show ((↑(first + k) : Int) - (first : Int)).toNat = k by omega]
    rw [hst]
    by_cases c2 : sts.getD k 0 = 1
    · have e4 : decide (((sts.getD k 0 : Nat) : Int) = 1) = true := by simp only [c2]; decide
      have bs1 : ∀ x : Int, bsCells Try.prog 27 1 #[(0, .int .u64 x)] = some #[.int .u64 x] := fun x => by kernel_rfl
      simp only [go_sem, Nat.reduceEqDiff, Nat.reduceLT, Nat.reduceAdd, Nat.reduceMul, Int.reduceEq, Int.reduceLT, Int.reduceLE, Int.reduceNe, Int.reduceBEq, Int.reduceToNat, ↓reduceIte, f0, f10, f11, f3, e1, hl1, e2, e3, e4, bs1]
      intro nb hnb hnn
      simp only [go_sem, Nat.reduceEqDiff, Nat.reduceLT, Nat.reduceAdd, Nat.reduceMul, Int.reduceEq, Int.reduceLT, Int.reduceLE, Int.reduceNe, Int.reduceBEq, Int.reduceToNat, ↓reduceIte]
      have hlen := runsK_len first sts k
      have hsub1 : Sub H' (H'.set nb (.cells #[.int .u64 ((first + k : Nat) : Int)] 27)) := (Sub.refl H').set hnn _
      refine aop_append_lit (t := 32) (x := .tmp 23) (y := .tmp 30) (c := 1) Try.underlying32 s27 b27 z27 rfl (v := v) (by simp only [go_sem, Nat.reduceEqDiff, Nat.reduceLT, Nat.reduceAdd, Nat.reduceMul, Int.reduceEq, Int.reduceLT, Int.reduceLE, Int.reduceNe, Int.reduceBEq, Int.reduceToNat, ↓reduceIte, f3]) (hrow.keep fun b o _ hb => hsub1 b o hb) (Hp.set_same _ _ _) (by simp only [go_sem, Nat.reduceEqDiff, Nat.reduceLT, Nat.reduceAdd, Nat.reduceMul, Int.reduceEq, Int.reduceLT, Int.reduceLE, Int.reduceNe, Int.reduceBEq, Int.reduceToNat, ↓reduceIte]) rfl (by simp [cell1_int]) (by omega) (by omega) (by omega) ?_
      intro g H2 hg hH2 cap' hrow2
      simp only [go_sem, Nat.reduceEqDiff, Nat.reduceLT, Nat.reduceAdd, Nat.reduceMul, Int.reduceEq, Int.reduceLT, Int.reduceLE, Int.reduceNe, Int.reduceBEq, Int.reduceToNat, ↓reduceIte, f11, e3]
      have hgn : H g = none ∧ w0.heap.size ≤ g := by
        rcases hg with hg | ⟨hg, hw⟩
        · exact hfr g hg.symm
        · refine ⟨?_, hw⟩
          cases e : H g with
          | none => rfl
          | some o => have := hsub1 _ _ (hsub _ _ e); rw [this] at hg; cases hg
      refine ⟨m - 1, by omega, k + 1, .slice (some ⟨g, 0, none⟩) ((runsK first sts k).length + 1) cap', by omega, by simp only [go_sem, Nat.reduceEqDiff, Nat.reduceLT, Nat.reduceAdd, Nat.reduceMul, Int.reduceEq, Int.reduceLT, Int.reduceLE, Int.reduceNe, Int.reduceBEq, Int.reduceToNat, ↓reduceIte, f0], by simp only [go_sem, Nat.reduceEqDiff, Nat.reduceLT, Nat.reduceAdd, Nat.reduceMul, Int.reduceEq, Int.reduceLT, Int.reduceLE, Int.reduceNe, Int.reduceBEq, Int.reduceToNat, ↓reduceIte, f10], by simp only [go_sem, Nat.reduceEqDiff, Nat.reduceLT, Nat.reduceAdd, Nat.reduceMul, Int.reduceEq, Int.reduceLT, Int.reduceLE, Int.reduceNe, Int.reduceBEq, Int.reduceToNat, ↓reduceIte], by simp only [go_sem, Nat.reduceEqDiff, Nat.reduceLT, Nat.reduceAdd, Nat.reduceMul, Int.reduceEq, Int.reduceLT, Int.reduceLE, Int.reduceNe, Int.reduceBEq, Int.reduceToNat, ↓reduceIte], ?_, ?_, ?_⟩
      · rw [runsK_succ, if_pos c2]
        simp only [u64s, List.map_append, List.length_append]
        exact hrow2
      · intro b hb
        simp only [blk, Option.some.injEq] at hb
        subst hb; exact hgn
      · intro b o hb
        have hne : b ≠ g := fun e => by rw [e, hgn.1] at hb; cases hb
        rw [hH2 b hne]
        exact hsub1 b o (hsub b o hb)
    · have e4 : decide (((sts.getD k 0 : Nat) : Int) = 1) = false := by simp; simp at c2; omega
      simp only [go_sem, Nat.reduceEqDiff, Nat.reduceLT, Nat.reduceAdd, Nat.reduceMul, Int.reduceEq, Int.reduceLT, Int.reduceLE, Int.reduceNe, Int.reduceBEq, Int.reduceToNat, ↓reduceIte, f0, f10, f11, f3, e1, hl1, e2, e3, e4]
      refine ⟨m - 1, by omega, k + 1, v, by omega, by simp only [go_sem, Nat.reduceEqDiff, Nat.reduceLT, Nat.reduceAdd, Nat.reduceMul, Int.reduceEq, Int.reduceLT, Int.reduceLE, Int.reduceNe, Int.reduceBEq, Int.reduceToNat, ↓reduceIte, f0], by simp only [go_sem, Nat.reduceEqDiff, Nat.reduceLT, Nat.reduceAdd, Nat.reduceMul, Int.reduceEq, Int.reduceLT, Int.reduceLE, Int.reduceNe, Int.reduceBEq, Int.reduceToNat, ↓reduceIte, f10], by simp only [go_sem, Nat.reduceEqDiff, Nat.reduceLT, Nat.reduceAdd, Nat.reduceMul, Int.reduceEq, Int.reduceLT, Int.reduceLE, Int.reduceNe, Int.reduceBEq, Int.reduceToNat, ↓reduceIte], by simp only [go_sem, Nat.reduceEqDiff, Nat.reduceLT, Nat.reduceAdd, Nat.reduceMul, Int.reduceEq, Int.reduceLT, Int.reduceLE, Int.reduceNe, Int.reduceBEq, Int.reduceToNat, ↓reduceIte, f3], ?_, hfr, hsub⟩
      rw [runsK_succ, if_neg c2]
      exact hrow
  · have e1 : decide ((k : Int) < (sts.length : Int)) = false := by simp; omega
    simp only [go_sem, Nat.reduceEqDiff, Nat.reduceLT, Nat.reduceAdd, Nat.reduceMul, Int.reduceEq, Int.reduceLT, Int.reduceLE, Int.reduceNe, Int.reduceBEq, Int.reduceToNat, ↓reduceIte, f0, f10, f11, f3, e1]
    have : k = sts.length := by omega
    subst this
    exact ⟨hrow, hfr, hsub⟩
end Go.Proofs.Ytcpeiejabbdeiaa
