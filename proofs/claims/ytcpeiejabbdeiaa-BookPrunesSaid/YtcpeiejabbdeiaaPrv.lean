/-
  The tests of Prune: which tables and indexes go.
  Conditions: as each theorem states them.
-/
import Derived.Test.YtcpeiejabbdeiaaPru
namespace Go.Proofs.Ytcpeiejabbdeiaa
open Go Go.RowKit Go.Proofs.YtcpeiejabbdeiaaW
set_option maxRecDepth 100000
set_option maxHeartbeats 1000000
set_option linter.unusedSimpArgs false
set_option linter.unusedVariables false

theorem ent_dead {w0 : World} {H : Hp} {l : Nat} {S : Nat → Prop} {sts : List Nat} {b : Nat} {e : En} (h : EnAt w0 H b e) (hl : LogAt H l S 1 sts) (hb : 1 + sts.length < 10000000000000) (hz : Nat) :
    ACalls Try.prog w0 43 #[ptr b, ptr l, .int .u64 (hz : Int)] H fun r H' => r = .bool (deadE sts hz e) ∧ H' = H := by
  refine acalls_of Try.func43 rfl Try.ntmps43 r43 (by simp) ?_
  simp -implicitDefEqProofs only [go_sem, Nat.reduceEqDiff, Nat.reduceLT, Nat.reduceAdd, Nat.reduceMul, Int.reduceEq, Int.reduceLT, Int.reduceLE, Int.reduceNe, Int.reduceBEq, Int.reduceToNat, ↓reduceIte]
  refine (ent_tuple h).mono ?_
  rintro r H2 ⟨rfl, rfl⟩
  simp -implicitDefEqProofs only [go_sem, Nat.reduceEqDiff, Nat.reduceLT, Nat.reduceAdd, Nat.reduceMul, Int.reduceEq, Int.reduceLT, Int.reduceLE, Int.reduceNe, Int.reduceBEq, Int.reduceToNat, ↓reduceIte]
  refine (dead_log hl (by omega) e.xmin e.xmax hz).mono ?_
  rintro r H3 ⟨rfl, rfl⟩
  simp -implicitDefEqProofs only [go_sem, Nat.reduceEqDiff, Nat.reduceLT, Nat.reduceAdd, Nat.reduceMul, Int.reduceEq, Int.reduceLT, Int.reduceLE, Int.reduceNe, Int.reduceBEq, Int.reduceToNat, ↓reduceIte]
  rfl

/-- What the tests keep beside the row that they walk: the row of numbers at bt grows, all else stays. -/
def PJ (w0 : World) (H0 : Hp) (T bt : Nat) (ids : Nat → List Nat) (k : Nat) (H : Hp) : Prop :=
  ∃ v, H bt = some (.cells #[v] 32 (0, 0)) ∧ Row H 27 1 v (ids k).length (u64s (ids k)) ∧ (∀ b, blk v = some b → H0 b = none ∧ w0.heap.size ≤ b) ∧ (∀ b o, H0 b = some o → b ≠ bt → tyAt H0 b ≠ some T → H b = some o) ∧ ∀ b, H b = none → H0 b = none
theorem PJ.stay {w0 : World} {H0 H H' : Hp} {T bt : Nat} {ids : Nat → List Nat} {k g : Nat} (h : PJ w0 H0 T bt ids k H) (hT : T ≠ 32) (hT2 : T ≠ 27) (hg : tyAt H g = some T) (hf : ∀ b, b ≠ g → H' b = H b) (hg' : tyAt H' g = some T) : PJ w0 H0 T bt ids k H' := by
  obtain ⟨v, h1, h2, h3, h4, h5⟩ := h
  refine ⟨v, ?_, h2.keep fun b o hb ho => ?_, h3, fun b o hb hn ht => ?_, fun b hb => ?_⟩
  · rw [hf bt (fun e => by rw [← e, tyAt_of h1] at hg; exact hT (Option.some.inj hg).symm)]; exact h1
  · rw [hf b (fun e => by rw [← e, Row.tyAt h2 hb] at hg; exact hT2 (Option.some.inj hg).symm)]; exact ho
  · have h := h4 b o hb hn ht
    rw [hf b (fun e => ?_)]
    · exact h
    · apply ht
      unfold tyAt at hg ⊢
      rw [← e, h] at hg
      rw [hb]; exact hg
  · by_cases e : b = g
    · rw [e] at hb; unfold tyAt at hg'; rw [hb] at hg'; cases hg'
    · rw [hf b e] at hb; exact h5 b hb
section
variable {w0 : World} {H0 : Hp} {l : Nat} {S : Nat → Prop} {sts : List Nat} {hz : Nat} {bl bh bt : Nat}
theorem PJ.log {H : Hp} {T k : Nat} {ids : Nat → List Nat} (h : PJ w0 H0 T bt ids k H) (hl : LogAt H0 l S 1 sts) (hbt : tyAt H0 bt = some 32) (h1 : T ≠ 69) (h2 : T ≠ 5) : LogAt H l S 1 sts := by
  obtain ⟨v, _, _, _, h4, _⟩ := h
  refine hl.keep fun b o hb ho => h4 b o ho (fun e => ?_) (fun e => ?_)
  · have := hl.ty hb
    rw [e, hbt] at this
    rcases this with e | e <;> exact absurd e (by decide)
  · rcases hl.ty hb with q | q <;> rw [q] at e
    · exact h1 (Option.some.inj e).symm
    · exact h2 (Option.some.inj e).symm
def idsT (sts : List Nat) (hz : Nat) (ts : List Tb) (k : Nat) : List Nat := ((ts.take k).filter fun t => deadE sts hz t.e).map fun t => t.e.id
theorem idsT_len (ts : List Tb) (k : Nat) : (idsT sts hz ts k).length ≤ k := by
  unfold idsT
  rw [List.length_map]
  refine Nat.le_trans (List.length_filter_le _ _) ?_
  rw [List.length_take]; omega
theorem idsT_push {ts : List Tb} {k : Nat} {t : Tb} (h : ts[k]? = some t) : idsT sts hz ts (k + 1) = if deadE sts hz t.e = true then idsT sts hz ts k ++ [t.e.id] else idsT sts hz ts k := by
  unfold idsT
  rw [filter_take h, List.map_append]
  split <;> simp
theorem u64s_push (xs : List Nat) (y : Nat) : u64s (xs ++ [y]) = u64s xs ++ [.int .u64 (y : Int)] := by simp [u64s]
theorem prune1_ok {ts : List Tb} (hts : ∀ t ∈ ts, H0 t.b = some (.cells t.cells.toArray 88 (0, 0))) (hn : ts.length < 1000000) (hl : LogAt H0 l S 1 sts) (hb : 1 + sts.length < 10000000000000)
    (hbl : H0 bl = some (.cells #[ptr l] 23 (0, 0))) (hbh : H0 bh = some (.cells #[.int .u64 (hz : Int)] 27 (0, 0))) (hbt : tyAt H0 bt = some 32) {k : Nat} {t : Tb} (hk : ts[k]? = some t) {H : Hp} (h : PJ w0 H0 79 bt (idsT sts hz ts) k H) :
    ACalls Try.prog w0 42 #[ptr t.b, ptr bl, ptr bh, ptr bt] H fun r H' => r = .bool (deadE sts hz t.e) ∧ PJ w0 H0 79 bt (idsT sts hz ts) (k + 1) H' ∧ ∀ c o, tyAt H c = some 79 → H c = some o → H' c = some o := by
  have hlog := h.log hl hbt (by decide) (by decide)
  have h' := h
  obtain ⟨v, h1, h2, h3, h4, h5⟩ := h
  have htm := List.mem_of_getElem? hk
  have hkl : k < ts.length := (List.getElem?_eq_some_iff.1 hk).1
  have hlen : (idsT sts hz ts k).length ≤ k := idsT_len ts k
  have ntb : t.b ≠ bt := fun e => by rw [← e, tyAt_of (hts t htm)] at hbt; exact absurd hbt (by decide)
  have nlb : bl ≠ bt := fun e => by rw [← e, tyAt_of hbl] at hbt; exact absurd hbt (by decide)
  have nhb : bh ≠ bt := fun e => by rw [← e, tyAt_of hbh] at hbt; exact absurd hbt (by decide)
  have htb := h4 _ _ (hts t htm) ntb (by rw [tyAt_of (hts t htm)]; decide)
  have hlb := h4 _ _ hbl nlb (by rw [tyAt_of hbl]; decide)
  have hhb := h4 _ _ hbh nhb (by rw [tyAt_of hbh]; decide)
  have ll := ld_own w0 hlb
  have lh := ld_own w0 hhb
  have lt := ld_own w0 h1
  obtain ⟨l0, _⟩ := Tb.en (w0 := w0) htb
  have hen := Tb.en (w0 := w0) htb
  refine acalls_of Try.func42 rfl Try.ntmps42 r42 (by simp) ?_
  simp -implicitDefEqProofs only [go_sem, Nat.reduceEqDiff, Nat.reduceLT, Nat.reduceAdd, Nat.reduceMul, Int.reduceEq, Int.reduceLT, Int.reduceLE, Int.reduceNe, Int.reduceBEq, Int.reduceToNat, ↓reduceIte]
  refine vdraw_t [⟨0, .p, [], []⟩, ⟨1, .p, [], []⟩, ⟨2, .p, [], []⟩, ⟨3, .n, [], []⟩, ⟨4, .n, [], []⟩, ⟨5, .c, [], []⟩] [0, 1, 3, 0, 0, 31] mixed (by kernel_rfl) ?_
  simp -implicitDefEqProofs only [go_sem, Nat.reduceEqDiff, Nat.reduceLT, Nat.reduceAdd, Nat.reduceMul, Int.reduceEq, Int.reduceLT, Int.reduceLE, Int.reduceNe, Int.reduceBEq, Int.reduceToNat, ↓reduceIte, ll, lh]
  refine (ent_dead hen hlog hb hz).mono ?_
  rintro r H2 ⟨rfl, rfl⟩
  have hpush := idsT_push (sts := sts) (hz := hz) hk
  cases hd : deadE sts hz t.e
  · rw [hd] at hpush
    simp only [Bool.false_eq_true, if_false] at hpush
    simp -implicitDefEqProofs only [go_sem, Nat.reduceEqDiff, Nat.reduceLT, Nat.reduceAdd, Nat.reduceMul, Int.reduceEq, Int.reduceLT, Int.reduceLE, Int.reduceNe, Int.reduceBEq, Int.reduceToNat, ↓reduceIte]
    refine vdraw_t [⟨0, .p, [], []⟩, ⟨1, .p, [], []⟩, ⟨2, .p, [], []⟩, ⟨3, .n, [], []⟩, ⟨4, .n, [], []⟩, ⟨5, .c, [], []⟩, ⟨6, .p, [], []⟩] [0, 1, 3, 0, 0, 31, 63] mixed (by kernel_rfl) ?_
    simp -implicitDefEqProofs only [go_sem, Nat.reduceEqDiff, Nat.reduceLT, Nat.reduceAdd, Nat.reduceMul, Int.reduceEq, Int.reduceLT, Int.reduceLE, Int.reduceNe, Int.reduceBEq, Int.reduceToNat, ↓reduceIte, ll, lh]
    refine (ent_dead hen hlog hb hz).mono ?_
    rintro r H3 ⟨rfl, rfl⟩
    rw [hd]
    simp -implicitDefEqProofs only [go_sem, Nat.reduceEqDiff, Nat.reduceLT, Nat.reduceAdd, Nat.reduceMul, Int.reduceEq, Int.reduceLT, Int.reduceLE, Int.reduceNe, Int.reduceBEq, Int.reduceToNat, ↓reduceIte]
    exact ⟨⟨v, h1, by rw [hpush]; exact h2, h3, h4, h5⟩, fun _ _ _ h => h⟩
  · rw [hd] at hpush
    simp only [if_true] at hpush
    simp -implicitDefEqProofs only [go_sem, Nat.reduceEqDiff, Nat.reduceLT, Nat.reduceAdd, Nat.reduceMul, Int.reduceEq, Int.reduceLT, Int.reduceLE, Int.reduceNe, Int.reduceBEq, Int.reduceToNat, ↓reduceIte]
    have bs1 : bsCells Try.prog 27 1 #[(0, .int .u64 (t.e.id : Int))] = some #[.int .u64 (t.e.id : Int)] := by kernel_rfl
    refine vdraw_t [⟨0, .n, [], []⟩, ⟨1, .p, [], []⟩, ⟨2, .p, [], []⟩, ⟨3, .p, [], []⟩, ⟨4, .p, [], []⟩, ⟨5, .n, [], []⟩, ⟨6, .c, [0], []⟩, ⟨7, .c, [], []⟩, ⟨8, .c, [], []⟩] [0, 0, 2, 6, 14, 30, 62, 127, 255] mixed (by kernel_rfl) ?_
    simp -implicitDefEqProofs only [go_sem, Nat.reduceEqDiff, Nat.reduceLT, Nat.reduceAdd, Nat.reduceMul, Int.reduceEq, Int.reduceLT, Int.reduceLE, Int.reduceNe, Int.reduceBEq, Int.reduceToNat, ↓reduceIte, l0, lt, bs1, allocOf_bs Try.underlying32]
    refine newK_of ?_
    intro nb H5 hnb hnn h5n s5 g5
    have lt5 := ld_own w0 (s5 _ _ h1)
    simp -implicitDefEqProofs only [go_sem, Nat.reduceEqDiff, Nat.reduceLT, Nat.reduceAdd, Nat.reduceMul, Int.reduceEq, Int.reduceLT, Int.reduceLE, Int.reduceNe, Int.reduceBEq, Int.reduceToNat, ↓reduceIte, l0, lt, lt5, allocOf_bs Try.underlying32]
    refine aop_append_lit (t := 32) (x := .tmp 12) (y := .tmp 18) (c := 1) Try.underlying32 s27 b27 z27 rfl (v := v) (by simp -implicitDefEqProofs only [go_sem, Nat.reduceEqDiff, Nat.reduceLT, Nat.reduceAdd, Nat.reduceMul, Int.reduceEq, Int.reduceLT, Int.reduceLE, Int.reduceNe, Int.reduceBEq, Int.reduceToNat, ↓reduceIte]) (h2.keep fun b o _ ho => s5 b o ho) h5n (by simp -implicitDefEqProofs only [go_sem, Nat.reduceEqDiff, Nat.reduceLT, Nat.reduceAdd, Nat.reduceMul, Int.reduceEq, Int.reduceLT, Int.reduceLE, Int.reduceNe, Int.reduceBEq, Int.reduceToNat, ↓reduceIte]) rfl (by simp [cell1_int]) (by omega) (by omega) (by omega) ?_
    intro g H6 hg hH6 cap hrow6
    have nbt : g ≠ bt := by
      rintro rfl
      rcases hg with e | ⟨e1, e2⟩
      · have := Row.tyAt h2 e.symm
        rw [tyAt_of h1] at this
        exact absurd this (by decide)
      · rw [s5 _ _ h1] at e1; cases e1
    have hfr : H0 g = none ∧ w0.heap.size ≤ g := by
      rcases hg with e | ⟨e1, e2⟩
      · exact h3 g e.symm
      · exact ⟨h5 g (s5.none e1), e2⟩
    have hgT : ∀ c, tyAt H2 c = some 79 → c ≠ g := fun c hc e => by
      rcases hg with e1 | ⟨e1, _⟩
      · have := Row.tyAt h2 e1.symm
        rw [← e, hc] at this
        exact absurd this (by decide)
      · have := s5.none e1
        unfold tyAt at hc
        rw [e, this] at hc; cases hc
    have h6t : H6 bt = some (.cells #[v] 32 (0, 0)) := by rw [hH6 bt nbt.symm]; exact s5 _ _ h1
    have lt6 := ld_own w0 h6t
    have hw6 := wr_own h6t 0 (by simp)
    simp -implicitDefEqProofs only [go_sem, Nat.reduceEqDiff, Nat.reduceLT, Nat.reduceAdd, Nat.reduceMul, Int.reduceEq, Int.reduceLT, Int.reduceLE, Int.reduceNe, Int.reduceBEq, Int.reduceToNat, ↓reduceIte, lt6, hw6]
    have g7 : ∀ i, i ≠ bt → (H6.set bt (.cells #[.slice (some ⟨g, 0, none⟩) ((idsT sts hz ts k).length + 1) cap] 32 (0, 0))) i = H6 i := fun i hi => Hp.set_ne _ _ _ _ hi
    have h7t := Hp.set_same H6 bt (.cells #[.slice (some ⟨g, 0, none⟩) ((idsT sts hz ts k).length + 1) cap] 32 (0, 0))
    generalize H6.set bt (.cells #[.slice (some ⟨g, 0, none⟩) ((idsT sts hz ts k).length + 1) cap] 32 (0, 0)) = H7 at g7 h7t ⊢
    have k7 : ∀ b o, b ≠ bt → b ≠ g → H2 b = some o → H7 b = some o := fun b o n1 n2 ho => by rw [g7 b n1, hH6 b n2]; exact s5 _ _ ho
    have hJ7 : PJ w0 H0 79 bt (idsT sts hz ts) (k + 1) H7 := by
      refine ⟨_, h7t, ?_, fun b hb => ?_, fun b o hb n1 ht => k7 b o n1 (fun e => by rw [e, hfr.1] at hb; cases hb) (h4 b o hb n1 ht), fun b hb => ?_⟩
      · rw [hpush, u64s_push, List.length_append, List.length_singleton]
        exact hrow6.keep fun b o hb ho => by
          rw [g7 b (fun e => by simp only [blk, Option.some.injEq] at hb; exact nbt (hb.trans e))]; exact ho
      · simp only [blk, Option.some.injEq] at hb
        rw [← hb]; exact hfr
      · by_cases e : b = bt
        · rw [e, h7t] at hb; cases hb
        · by_cases e2 : b = g
          · rw [e2]; exact hfr.1
          · rw [g7 b e, hH6 b e2] at hb
            exact h5 b (s5.none hb)
    have htb7 := k7 _ _ ntb (fun e => by rw [← e, hts t htm] at hfr; cases hfr.1) htb
    have hlb7 := k7 _ _ nlb (fun e => by rw [← e, hbl] at hfr; cases hfr.1) hlb
    have hhb7 := k7 _ _ nhb (fun e => by rw [← e, hbh] at hfr; cases hfr.1) hhb
    have ll7 := ld_own w0 hlb7
    have lh7 := ld_own w0 hhb7
    refine vdraw_t [⟨0, .p, [], []⟩, ⟨1, .p, [], []⟩, ⟨2, .p, [], []⟩, ⟨3, .n, [], []⟩, ⟨4, .n, [], []⟩, ⟨5, .c, [], []⟩, ⟨6, .p, [], []⟩] [0, 1, 3, 0, 0, 31, 63] mixed (by kernel_rfl) ?_
    simp -implicitDefEqProofs only [go_sem, Nat.reduceEqDiff, Nat.reduceLT, Nat.reduceAdd, Nat.reduceMul, Int.reduceEq, Int.reduceLT, Int.reduceLE, Int.reduceNe, Int.reduceBEq, Int.reduceToNat, ↓reduceIte, ll7, lh7]
    refine (ent_dead (Tb.en (w0 := w0) htb7) (hJ7.log hl hbt (by decide) (by decide)) hb hz).mono ?_
    rintro r H8 ⟨rfl, rfl⟩
    rw [hd]
    simp -implicitDefEqProofs only [go_sem, Nat.reduceEqDiff, Nat.reduceLT, Nat.reduceAdd, Nat.reduceMul, Int.reduceEq, Int.reduceLT, Int.reduceLE, Int.reduceNe, Int.reduceBEq, Int.reduceToNat, ↓reduceIte]
    exact ⟨hJ7, fun c o hc ho => k7 c o (fun e => by rw [e, tyAt_of h1] at hc; exact absurd hc (by decide)) (hgT c hc) ho⟩
def dX (sts : List Nat) (hz : Nat) (tabs : List Nat) (x : Ix) : Bool := deadE sts hz x.e || tabs.contains x.tab
def idsX (sts : List Nat) (hz : Nat) (tabs : List Nat) (xs : List Ix) (k : Nat) : List Nat := ((xs.take k).filter (dX sts hz tabs)).map fun x => x.e.id
theorem idsX_len (tabs : List Nat) (xs : List Ix) (k : Nat) : (idsX sts hz tabs xs k).length ≤ k := by
  unfold idsX
  rw [List.length_map]
  refine Nat.le_trans (List.length_filter_le _ _) ?_
  rw [List.length_take]; omega
theorem idsX_push {tabs : List Nat} {xs : List Ix} {k : Nat} {x : Ix} (h : xs[k]? = some x) : idsX sts hz tabs xs (k + 1) = if dX sts hz tabs x = true then idsX sts hz tabs xs k ++ [x.e.id] else idsX sts hz tabs xs k := by
  unfold idsX
  rw [filter_take h, List.map_append]
  split <;> simp
theorem prune2_ok {xs : List Ix} {tabs : List Nat} {bx : Nat} {vt : Value} (hts : ∀ x ∈ xs, H0 x.b = some (.cells x.cells.toArray 94 (0, 0))) (hn : xs.length < 1000000) (hl : LogAt H0 l S 1 sts) (hb : 1 + sts.length < 10000000000000)
    (hbl : H0 bl = some (.cells #[ptr l] 23 (0, 0))) (hbh : H0 bh = some (.cells #[.int .u64 (hz : Int)] 27 (0, 0))) (hbt : H0 bt = some (.cells #[vt] 32 (0, 0))) (nxt : bt ≠ bx) (hvt : Row H0 27 1 vt tabs.length (u64s tabs)) (hvn : tabs.length < 1000000)
    (hbx : tyAt H0 bx = some 32) {k : Nat} {x : Ix} (hk : xs[k]? = some x) {H : Hp} (h : PJ w0 H0 92 bx (idsX sts hz tabs xs) k H) :
    ACalls Try.prog w0 45 #[ptr x.b, ptr bl, ptr bh, ptr bt, ptr bx] H fun r H' => r = .bool (dX sts hz tabs x) ∧ PJ w0 H0 92 bx (idsX sts hz tabs xs) (k + 1) H' ∧ ∀ c o, tyAt H c = some 92 → H c = some o → H' c = some o := by
  have hlog := h.log hl hbx (by decide) (by decide)
  have h' := h
  obtain ⟨v, h1, h2, h3, h4, h5⟩ := h
  have htm := List.mem_of_getElem? hk
  have hkl : k < xs.length := (List.getElem?_eq_some_iff.1 hk).1
  have hlen : (idsX sts hz tabs xs k).length ≤ k := idsX_len tabs xs k
  have nxb : x.b ≠ bx := fun e => by rw [← e, tyAt_of (hts x htm)] at hbx; exact absurd hbx (by decide)
  have nlb : bl ≠ bx := fun e => by rw [← e, tyAt_of hbl] at hbx; exact absurd hbx (by decide)
  have nhb : bh ≠ bx := fun e => by rw [← e, tyAt_of hbh] at hbx; exact absurd hbx (by decide)
  have hxb := h4 _ _ (hts x htm) nxb (by rw [tyAt_of (hts x htm)]; decide)
  have hlb := h4 _ _ hbl nlb (by rw [tyAt_of hbl]; decide)
  have hhb := h4 _ _ hbh nhb (by rw [tyAt_of hbh]; decide)
  have htb := h4 _ _ hbt nxt (by rw [tyAt_of hbt]; decide)
  have hvt' := hvt.keep (H' := H) fun b o hb ho => h4 b o ho (fun e => by have := Row.tyAt hvt hb; rw [e, hbx] at this; exact absurd this (by decide)) (by rw [Row.tyAt hvt hb]; decide)
  have ll := ld_own w0 hlb
  have lh := ld_own w0 hhb
  have ltt := ld_own w0 htb
  have lt := ld_own w0 h1
  have lx := ld_own w0 hxb
  have x0 : x.cells.toArray[0]? = some (.int .u64 (x.e.id : Int)) := rfl
  have x4 : x.cells.toArray[4]? = some (.int .u64 (x.tab : Int)) := rfl
  have hen := Ix.en (w0 := w0) hxb
  have hpush := idsX_push (sts := sts) (hz := hz) (tabs := tabs) hk
  have cns : cell1 (.slice none 0 0) = true := rfl
  refine acalls_of Try.func45 rfl Try.ntmps45 r45 (by simp) ?_
  simp -implicitDefEqProofs only [go_sem, Nat.reduceEqDiff, Nat.reduceLT, Nat.reduceAdd, Nat.reduceMul, Int.reduceEq, Int.reduceLT, Int.reduceLE, Int.reduceNe, Int.reduceBEq, Int.reduceToNat, ↓reduceIte]
  refine vdraw_t [⟨0, .p, [], []⟩, ⟨1, .p, [], []⟩, ⟨2, .p, [], []⟩, ⟨3, .n, [], []⟩, ⟨4, .n, [], []⟩, ⟨5, .c, [], []⟩, ⟨6, .p, [], []⟩, ⟨7, .n, [], []⟩, ⟨8, .p, [], []⟩, ⟨9, .p, [], []⟩, ⟨10, .p, [], []⟩, ⟨11, .n, [], []⟩, ⟨12, .c, [], []⟩, ⟨13, .p, [], []⟩, ⟨14, .p, [], []⟩] [0, 1, 3, 0, 0, 31, 63, 127, 127, 383, 895, 1919, 4095, 8191, 16383] mixed (by kernel_rfl) ?_
  simp -implicitDefEqProofs only [go_sem, Nat.reduceEqDiff, Nat.reduceLT, Nat.reduceAdd, Nat.reduceMul, Int.reduceEq, Int.reduceLT, Int.reduceLE, Int.reduceNe, Int.reduceBEq, Int.reduceToNat, ↓reduceIte, ll, lh]
  refine (ent_dead hen hlog hb hz).mono ?_
  rintro r H2 ⟨rfl, rfl⟩
  cases hd : deadE sts hz x.e
  · have hdx : dX sts hz tabs x = tabs.contains x.tab := by unfold dX; rw [hd]; rfl
    simp -implicitDefEqProofs only [go_sem, Nat.reduceEqDiff, Nat.reduceLT, Nat.reduceAdd, Nat.reduceMul, Int.reduceEq, Int.reduceLT, Int.reduceLE, Int.reduceNe, Int.reduceBEq, Int.reduceToNat, ↓reduceIte, ll, lh, ltt, lx, x4]
    refine (contains_row hvt' (by omega) x.tab).mono ?_
    rintro r H2 ⟨rfl, rfl⟩
    rw [← hdx]
    cases hdd : dX sts hz tabs x
    · rw [hdd] at hpush
      simp only [Bool.false_eq_true, if_false] at hpush
      simp -implicitDefEqProofs only [go_sem, Nat.reduceEqDiff, Nat.reduceLT, Nat.reduceAdd, Nat.reduceMul, Int.reduceEq, Int.reduceLT, Int.reduceLE, Int.reduceNe, Int.reduceBEq, Int.reduceToNat, ↓reduceIte, ll, lh, ltt, lx, x4]
      exact ⟨⟨v, h1, by rw [hpush]; exact h2, h3, h4, h5⟩, fun _ _ _ h => h⟩
    · rw [hdd] at hpush
      simp only [if_true] at hpush
      simp -implicitDefEqProofs only [go_sem, Nat.reduceEqDiff, Nat.reduceLT, Nat.reduceAdd, Nat.reduceMul, Int.reduceEq, Int.reduceLT, Int.reduceLE, Int.reduceNe, Int.reduceBEq, Int.reduceToNat, ↓reduceIte, ll, lh, ltt, lx, x4]
      have bs1 : bsCells Try.prog 27 1 #[(0, .int .u64 (x.e.id : Int))] = some #[.int .u64 (x.e.id : Int)] := by kernel_rfl
      refine vdraw_t [⟨0, .n, [], []⟩, ⟨1, .p, [], []⟩, ⟨2, .p, [], []⟩, ⟨3, .p, [], []⟩, ⟨4, .p, [], []⟩, ⟨5, .n, [], []⟩, ⟨6, .c, [0], []⟩, ⟨7, .c, [], []⟩, ⟨8, .c, [], []⟩] [0, 0, 2, 6, 14, 30, 62, 127, 255] mixed (by kernel_rfl) ?_
      simp -implicitDefEqProofs only [go_sem, Nat.reduceEqDiff, Nat.reduceLT, Nat.reduceAdd, Nat.reduceMul, Int.reduceEq, Int.reduceLT, Int.reduceLE, Int.reduceNe, Int.reduceBEq, Int.reduceToNat, ↓reduceIte, lx, x0, lt, bs1, allocOf_bs Try.underlying32]
      refine newK_of ?_
      intro nb H5 hnb hnn h5n s5 g5
      have lt5 := ld_own w0 (s5 _ _ h1)
      simp -implicitDefEqProofs only [go_sem, Nat.reduceEqDiff, Nat.reduceLT, Nat.reduceAdd, Nat.reduceMul, Int.reduceEq, Int.reduceLT, Int.reduceLE, Int.reduceNe, Int.reduceBEq, Int.reduceToNat, ↓reduceIte, lx, x0, lt, lt5, allocOf_bs Try.underlying32]
      refine aop_append_lit (t := 32) (x := .tmp 23) (y := .tmp 29) (c := 1) Try.underlying32 s27 b27 z27 rfl (v := v) (by simp -implicitDefEqProofs only [go_sem, Nat.reduceEqDiff, Nat.reduceLT, Nat.reduceAdd, Nat.reduceMul, Int.reduceEq, Int.reduceLT, Int.reduceLE, Int.reduceNe, Int.reduceBEq, Int.reduceToNat, ↓reduceIte]) (h2.keep fun b o _ ho => s5 b o ho) h5n (by simp -implicitDefEqProofs only [go_sem, Nat.reduceEqDiff, Nat.reduceLT, Nat.reduceAdd, Nat.reduceMul, Int.reduceEq, Int.reduceLT, Int.reduceLE, Int.reduceNe, Int.reduceBEq, Int.reduceToNat, ↓reduceIte]) rfl (by simp [cell1_int]) (by omega) (by omega) (by omega) ?_
      intro g H6 hg hH6 cap hrow6
      have nbx : g ≠ bx := by
        rintro rfl
        rcases hg with e | ⟨e1, e2⟩
        · have := Row.tyAt h2 e.symm
          rw [tyAt_of h1] at this
          exact absurd this (by decide)
        · rw [s5 _ _ h1] at e1; cases e1
      have hfr : H0 g = none ∧ w0.heap.size ≤ g := by
        rcases hg with e | ⟨e1, e2⟩
        · exact h3 g e.symm
        · exact ⟨h5 g (s5.none e1), e2⟩
      have hgT : ∀ c, tyAt H2 c = some 92 → c ≠ g := fun c hc e => by
        rcases hg with e1 | ⟨e1, _⟩
        · have := Row.tyAt h2 e1.symm
          rw [← e, hc] at this
          exact absurd this (by decide)
        · have := s5.none e1
          unfold tyAt at hc
          rw [e, this] at hc; cases hc
      have h6t : H6 bx = some (.cells #[v] 32 (0, 0)) := by rw [hH6 bx nbx.symm]; exact s5 _ _ h1
      have lt6 := ld_own w0 h6t
      have hw6 := wr_own h6t 0 (by simp)
      simp -implicitDefEqProofs only [go_sem, Nat.reduceEqDiff, Nat.reduceLT, Nat.reduceAdd, Nat.reduceMul, Int.reduceEq, Int.reduceLT, Int.reduceLE, Int.reduceNe, Int.reduceBEq, Int.reduceToNat, ↓reduceIte, lt6, hw6]
      have g7 : ∀ i, i ≠ bx → (H6.set bx (.cells #[.slice (some ⟨g, 0, none⟩) ((idsX sts hz tabs xs k).length + 1) cap] 32 (0, 0))) i = H6 i := fun i hi => Hp.set_ne _ _ _ _ hi
      have h7t := Hp.set_same H6 bx (.cells #[.slice (some ⟨g, 0, none⟩) ((idsX sts hz tabs xs k).length + 1) cap] 32 (0, 0))
      generalize H6.set bx (.cells #[.slice (some ⟨g, 0, none⟩) ((idsX sts hz tabs xs k).length + 1) cap] 32 (0, 0)) = H7 at g7 h7t ⊢
      have k7 : ∀ b o, b ≠ bx → b ≠ g → H2 b = some o → H7 b = some o := fun b o n1 n2 ho => by rw [g7 b n1, hH6 b n2]; exact s5 _ _ ho
      have hJ7 : PJ w0 H0 92 bx (idsX sts hz tabs xs) (k + 1) H7 := by
        refine ⟨_, h7t, ?_, fun b hb => ?_, fun b o hb n1 ht => k7 b o n1 (fun e => by rw [e, hfr.1] at hb; cases hb) (h4 b o hb n1 ht), fun b hb => ?_⟩
        · rw [hpush, u64s_push, List.length_append, List.length_singleton]
          exact hrow6.keep fun b o hb ho => by
            rw [g7 b (fun e => by simp only [blk, Option.some.injEq] at hb; exact nbx (hb.trans e))]; exact ho
        · simp only [blk, Option.some.injEq] at hb
          rw [← hb]; exact hfr
        · by_cases e : b = bx
          · rw [e, h7t] at hb; cases hb
          · by_cases e2 : b = g
            · rw [e2]; exact hfr.1
            · rw [g7 b e, hH6 b e2] at hb
              exact h5 b (s5.none hb)
      exact ⟨hJ7, fun c o hc ho => k7 c o (fun e => by rw [e, tyAt_of h1] at hc; exact absurd hc (by decide)) (hgT c hc) ho⟩
  · have hdd : dX sts hz tabs x = true := by unfold dX; rw [hd]; rfl
    rw [hdd] at hpush
    simp only [if_true] at hpush
    simp -implicitDefEqProofs only [go_sem, Nat.reduceEqDiff, Nat.reduceLT, Nat.reduceAdd, Nat.reduceMul, Int.reduceEq, Int.reduceLT, Int.reduceLE, Int.reduceNe, Int.reduceBEq, Int.reduceToNat, ↓reduceIte, ll, lh, ltt, lx, x4]
    rw [hdd]
    have bs1 : bsCells Try.prog 27 1 #[(0, .int .u64 (x.e.id : Int))] = some #[.int .u64 (x.e.id : Int)] := by kernel_rfl
    refine vdraw_t [⟨0, .n, [], []⟩, ⟨1, .p, [], []⟩, ⟨2, .p, [], []⟩, ⟨3, .p, [], []⟩, ⟨4, .p, [], []⟩, ⟨5, .n, [], []⟩, ⟨6, .c, [0], []⟩, ⟨7, .c, [], []⟩, ⟨8, .c, [], []⟩] [0, 0, 2, 6, 14, 30, 62, 127, 255] mixed (by kernel_rfl) ?_
    simp -implicitDefEqProofs only [go_sem, Nat.reduceEqDiff, Nat.reduceLT, Nat.reduceAdd, Nat.reduceMul, Int.reduceEq, Int.reduceLT, Int.reduceLE, Int.reduceNe, Int.reduceBEq, Int.reduceToNat, ↓reduceIte, lx, x0, lt, bs1, allocOf_bs Try.underlying32]
    refine newK_of ?_
    intro nb H5 hnb hnn h5n s5 g5
    have lt5 := ld_own w0 (s5 _ _ h1)
    simp -implicitDefEqProofs only [go_sem, Nat.reduceEqDiff, Nat.reduceLT, Nat.reduceAdd, Nat.reduceMul, Int.reduceEq, Int.reduceLT, Int.reduceLE, Int.reduceNe, Int.reduceBEq, Int.reduceToNat, ↓reduceIte, lx, x0, lt, lt5, allocOf_bs Try.underlying32]
    refine aop_append_lit (t := 32) (x := .tmp 23) (y := .tmp 29) (c := 1) Try.underlying32 s27 b27 z27 rfl (v := v) (by simp -implicitDefEqProofs only [go_sem, Nat.reduceEqDiff, Nat.reduceLT, Nat.reduceAdd, Nat.reduceMul, Int.reduceEq, Int.reduceLT, Int.reduceLE, Int.reduceNe, Int.reduceBEq, Int.reduceToNat, ↓reduceIte]) (h2.keep fun b o _ ho => s5 b o ho) h5n (by simp -implicitDefEqProofs only [go_sem, Nat.reduceEqDiff, Nat.reduceLT, Nat.reduceAdd, Nat.reduceMul, Int.reduceEq, Int.reduceLT, Int.reduceLE, Int.reduceNe, Int.reduceBEq, Int.reduceToNat, ↓reduceIte]) rfl (by simp [cell1_int]) (by omega) (by omega) (by omega) ?_
    intro g H6 hg hH6 cap hrow6
    have nbx : g ≠ bx := by
      rintro rfl
      rcases hg with e | ⟨e1, e2⟩
      · have := Row.tyAt h2 e.symm
        rw [tyAt_of h1] at this
        exact absurd this (by decide)
      · rw [s5 _ _ h1] at e1; cases e1
    have hfr : H0 g = none ∧ w0.heap.size ≤ g := by
      rcases hg with e | ⟨e1, e2⟩
      · exact h3 g e.symm
      · exact ⟨h5 g (s5.none e1), e2⟩
    have hgT : ∀ c, tyAt H2 c = some 92 → c ≠ g := fun c hc e => by
      rcases hg with e1 | ⟨e1, _⟩
      · have := Row.tyAt h2 e1.symm
        rw [← e, hc] at this
        exact absurd this (by decide)
      · have := s5.none e1
        unfold tyAt at hc
        rw [e, this] at hc; cases hc
    have h6t : H6 bx = some (.cells #[v] 32 (0, 0)) := by rw [hH6 bx nbx.symm]; exact s5 _ _ h1
    have lt6 := ld_own w0 h6t
    have hw6 := wr_own h6t 0 (by simp)
    simp -implicitDefEqProofs only [go_sem, Nat.reduceEqDiff, Nat.reduceLT, Nat.reduceAdd, Nat.reduceMul, Int.reduceEq, Int.reduceLT, Int.reduceLE, Int.reduceNe, Int.reduceBEq, Int.reduceToNat, ↓reduceIte, lt6, hw6]
    have g7 : ∀ i, i ≠ bx → (H6.set bx (.cells #[.slice (some ⟨g, 0, none⟩) ((idsX sts hz tabs xs k).length + 1) cap] 32 (0, 0))) i = H6 i := fun i hi => Hp.set_ne _ _ _ _ hi
    have h7t := Hp.set_same H6 bx (.cells #[.slice (some ⟨g, 0, none⟩) ((idsX sts hz tabs xs k).length + 1) cap] 32 (0, 0))
    generalize H6.set bx (.cells #[.slice (some ⟨g, 0, none⟩) ((idsX sts hz tabs xs k).length + 1) cap] 32 (0, 0)) = H7 at g7 h7t ⊢
    have k7 : ∀ b o, b ≠ bx → b ≠ g → H2 b = some o → H7 b = some o := fun b o n1 n2 ho => by rw [g7 b n1, hH6 b n2]; exact s5 _ _ ho
    have hJ7 : PJ w0 H0 92 bx (idsX sts hz tabs xs) (k + 1) H7 := by
      refine ⟨_, h7t, ?_, fun b hb => ?_, fun b o hb n1 ht => k7 b o n1 (fun e => by rw [e, hfr.1] at hb; cases hb) (h4 b o hb n1 ht), fun b hb => ?_⟩
      · rw [hpush, u64s_push, List.length_append, List.length_singleton]
        exact hrow6.keep fun b o hb ho => by
          rw [g7 b (fun e => by simp only [blk, Option.some.injEq] at hb; exact nbx (hb.trans e))]; exact ho
      · simp only [blk, Option.some.injEq] at hb
        rw [← hb]; exact hfr
      · by_cases e : b = bx
        · rw [e, h7t] at hb; cases hb
        · by_cases e2 : b = g
          · rw [e2]; exact hfr.1
          · rw [g7 b e, hH6 b e2] at hb
            exact h5 b (s5.none hb)
    exact ⟨hJ7, fun c o hc ho => k7 c o (fun e => by rw [e, tyAt_of h1] at hc; exact absurd hc (by decide)) (hgT c hc) ho⟩
end
end Go.Proofs.Ytcpeiejabbdeiaa
