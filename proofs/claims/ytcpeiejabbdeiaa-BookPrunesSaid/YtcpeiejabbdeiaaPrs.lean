/-
  BookPrunes: what lies in memory between its steps.
  Conditions: as each theorem states them.
-/
import Derived.Test.YtcpeiejabbdeiaaPrl
import Derived.Test.YtcpeiejabbdeiaaArx
namespace Go.Proofs.Ytcpeiejabbdeiaa
open Go Go.RowKit Go.Proofs.YtcpeiejabbdeiaaW
set_option maxRecDepth 100000
set_option linter.unusedSimpArgs false
set_option linter.unusedVariables false

theorem imap_ty {H : Hp} {r : Nat} {ik : IntKind} {l : Ents} (h : IMap H r ik l) : tyAt H r = none := by
  obtain ⟨es, ck, q1, _⟩ := h
  unfold tyAt; rw [q1]
def PrAt (H : Hp) (l : Nat) (S : Nat → Prop) (st : List Nat) (bk : Nat) (ts : List Tb) (xs : List Ix) (last r : Nat) (ps : Ents) (lv : Live) (ov : Value) (os : List Nat) : Prop :=
  LogAt H l S 1 st ∧ BookAt H bk ts xs last ∧ IMap H r .u64 ps ∧ (∀ x z, lv x = some z → ShotAt H z) ∧ Row H 27 1 ov os.length (u64s os) ∧ ∀ x z b, lv x = some z → blk ov = some b → blk z.v ≠ some b
section
variable {H H' : Hp} {l : Nat} {S S' : Nat → Prop} {st st' : List Nat} {bk : Nat} {ts ts' : List Tb} {xs xs' : List Ix} {last last' r : Nat} {ps ps' : Ents} {lv lv' : Live} {ov ov' : Value} {os os' : List Nat}
theorem PrAt.sub (h : PrAt H l S st bk ts xs last r ps lv ov os) (hs : Sub H H') : PrAt H' l S st bk ts xs last r ps lv ov os := by
  obtain ⟨h1, h2, h3, h4, h5, h6⟩ := h
  exact ⟨h1.keep fun b o _ ho => hs b o ho, h2.sub hs, h3.keep fun o ho => hs r o ho, fun x z hz => (h4 x z hz).sub hs, h5.keep fun b o _ ho => hs b o ho, h6⟩
theorem PrAt.out (h : PrAt H l S st bk ts xs last r ps lv ov os) (ho : Out H H') (hb : BookAt H' bk ts' xs' last') : PrAt H' l S st bk ts' xs' last' r ps lv ov os := by
  obtain ⟨h1, h2, h3, h4, h5, h6⟩ := h
  exact ⟨h1.outB ho, hb, h3.keep fun o hh => ho r o (by rw [imap_ty h3]; rfl) hh, fun x z hz => (h4 x z hz).outB ho, h5.keep fun b o hb hh => ho b o (by rw [Row.tyAt h5 hb]; rfl) hh, h6⟩
theorem PrAt.log (h : PrAt H l S st bk ts xs last r ps lv ov os) (hl : LogAt H' l S' 1 st') (hf : ∀ b o, ¬ S b → H b = some o → H' b = some o) : PrAt H' l S' st' bk ts xs last r ps lv ov os := by
  obtain ⟨h1, h2, h3, h4, h5, h6⟩ := h
  exact ⟨hl, h2.log h1 hf, h3.keep fun o ho => log_out h1 hf ho (by rw [imap_ty h3]; exact fun e => by cases e) (by rw [imap_ty h3]; exact fun e => by cases e), fun x z hz => (h4 x z hz).log h1 hf, log_row h1 hf h5 (by decide) (by decide), h6⟩
/-- What has no type changes. -/
theorem PrAt.odd (h : PrAt H l S st bk ts xs last r ps lv ov os) {c : Nat} (hc : tyAt H c = none) (hf : ∀ b, b ≠ c → H' b = H b) (hm : IMap H' r .u64 ps') (hl : ∀ x z, lv' x = some z → ShotAt H z ∧ ∀ b, blk ov = some b → blk z.v ≠ some b) : PrAt H' l S st bk ts xs last r ps' lv' ov os := by
  obtain ⟨h1, h2, h3, h4, h5, h6⟩ := h
  have k : ∀ b o, tyAt H b ≠ none → H b = some o → H' b = some o := fun b o ht ho => by rw [hf b (fun e => ht (by rw [e, hc]))]; exact ho
  refine ⟨h1.keep fun b o hb ho => k b o (by rcases h1.ty hb with e | e <;> rw [e] <;> exact fun e => by cases e) ho, h2.keep fun b o hb ho => k b o (fun e => by rw [e] at hb; cases hb) ho, hm, fun x z hz => ?_, h5.keep fun b o hb ho => k b o (by rw [Row.tyAt h5 hb]; exact fun e => by cases e) ho, fun x z b hz hb => (hl x z hz).2 b hb⟩
  have q := (hl x z hz).1
  exact ⟨q.1.keep fun b o hb ho => k b o (by rw [Row.tyAt q.1 hb]; exact fun e => by cases e) ho, q.2⟩
/-- The row of orders grows. -/
theorem PrAt.app (h : PrAt H l S st bk ts xs last r ps lv ov os) {g : Nat} (hg : some g = blk ov ∨ H g = none) (hf : ∀ b, b ≠ g → H' b = H b) (hr : Row H' 27 1 ov' os'.length (u64s os')) (hv : blk ov' = some g) : PrAt H' l S st bk ts xs last r ps lv ov' os' := by
  obtain ⟨h1, h2, h3, h4, h5, h6⟩ := h
  have k : ∀ b o, tyAt H b ≠ some 27 → H b = some o → H' b = some o := fun b o ht ho => by
    rw [hf b (fun e => ?_)]
    · exact ho
    · rcases hg with e1 | e1
      · exact ht (by rw [e]; exact Row.tyAt h5 e1.symm)
      · rw [e, e1] at ho; cases ho
  have sep : ∀ x z, lv x = some z → blk z.v ≠ some g := fun x z hz e => by
    rcases hg with e1 | e1
    · exact h6 x z g hz e1.symm e
    · obtain ⟨o, ho⟩ := Row.own (h4 x z hz).1 e
      rw [e1] at ho; cases ho
  refine ⟨h1.keep fun b o hb ho => k b o (by rcases h1.ty hb with e | e <;> rw [e] <;> decide) ho, h2.keep fun b o hb ho => k b o (fun e => by rw [e] at hb; cases hb) ho, h3.keep fun o ho => k r o (by rw [imap_ty h3]; exact fun e => by cases e) ho, fun x z hz => ?_, hr, fun x z b hz hb => ?_⟩
  · exact ⟨(h4 x z hz).1.keep fun b o hb ho => by rw [hf b (fun e => sep x z hz (by rw [hb, e]))]; exact ho, (h4 x z hz).2⟩
  · rw [hv] at hb
    cases hb
    exact sep x z hz
end
/-- The live snapshots of the first k of the order. -/
def zsOf (lv : Live) (os : List Nat) (k : Nat) : List Shot := (os.take k).filterMap lv
theorem zsOf_push {lv : Live} {os : List Nat} {k x : Nat} (h : os[k]? = some x) : zsOf lv os (k + 1) = zsOf lv os k ++ (lv x).toList := by
  unfold zsOf
  rw [take_push h, List.filterMap_append]
  cases q : lv x <;> simp [q]
theorem zsOf_len (lv : Live) (os : List Nat) (k : Nat) : (zsOf lv os k).length ≤ k := by
  unfold zsOf
  refine Nat.le_trans (List.length_filterMap_le _ _) ?_
  rw [List.length_take]; omega
def WasOk (st : List Nat) (ts : List Tb) (xs : List Ix) (lv : Live) (nm : ByteArray) (zs : List Shot) (wm : Ents) : Prop :=
  ∀ p ∈ wm, ∃ (x : Nat) (z : Shot), lv x = some z ∧ z ∈ zs ∧ p = ((x : Int), .int .u64 (pvOf st z ts xs nm : Nat))
theorem WasOk.put {st : List Nat} {ts : List Tb} {xs : List Ix} {lv : Live} {nm : ByteArray} {zs : List Shot} {wm : Ents} (h : WasOk st ts xs lv nm zs wm) {x : Nat} {z : Shot} (hx : lv x = some z) : WasOk st ts xs lv nm (zs ++ [z]) (wm.put (x : Int) (.int .u64 (pvOf st z ts xs nm : Nat))) := fun p hp => by
  rcases Ents.put_mem hp with rfl | hp
  · exact ⟨x, z, hx, by simp, rfl⟩
  · obtain ⟨y, u, h1, h2, h3⟩ := h p hp
    exact ⟨y, u, h1, by simp [h2], h3⟩
theorem few_size (s : ByteArray) : (s.extract 0 (min s.size 30)).size < 1000000 := by
  rw [ByteArray.size_extract]; omega
def unseenN (es : Array MapEntry) (seen : Array Nat) : Nat := (es.toList.filter fun e => !seen.contains e.born).length
theorem unseenN_push {es : Array MapEntry} {seen : Array Nat} {e : MapEntry} (he : e ∈ es.toList) (hs : e.born ∉ seen) : unseenN es (seen.push e.born) < unseenN es seen := by
  unfold unseenN
  generalize es.toList = l at he
  induction l with
  | nil => cases he
  | cons a l ih =>
    have hle : ∀ (l : List MapEntry), (l.filter fun e' => !(seen.push e.born).contains e'.born).length ≤ (l.filter fun e' => !seen.contains e'.born).length := fun l => by
      induction l with
      | nil => exact Nat.le_refl _
      | cons b l ih =>
        by_cases c : seen.contains b.born = true
        · have c2 : (seen.push e.born).contains b.born = true := by
            rw [Array.contains_iff_mem] at c ⊢; exact Array.mem_push_of_mem _ c
          rw [List.filter_cons_of_neg (by rw [c2]; decide), List.filter_cons_of_neg (by rw [c]; decide)]; exact ih
        · rw [List.filter_cons_of_pos (l := l) (p := fun e' => !seen.contains e'.born) (by simpa using c)]
          rw [List.filter_cons]
          split
          · simp only [List.length_cons]; omega
          · simp only [List.length_cons]; omega
    rcases List.mem_cons.1 he with rfl | he
    · rw [List.filter_cons_of_neg (by simp), List.filter_cons_of_pos (by simpa using hs)]
      have := hle l
      simp only [List.length_cons]; omega
    · have := ih he
      rw [List.filter_cons, List.filter_cons]
      by_cases c : seen.contains a.born = true
      · have c2 : (seen.push e.born).contains a.born = true := by
          rw [Array.contains_iff_mem] at c ⊢; exact Array.mem_push_of_mem _ c
        rw [if_neg (by rw [c2]; decide), if_neg (by rw [c]; decide)]; exact this
      · rw [if_pos (c := (!seen.contains a.born) = true) (by simpa using c)]
        split
        · simp only [List.length_cons]; omega
        · simp only [List.length_cons]; omega
end Go.Proofs.Ytcpeiejabbdeiaa
