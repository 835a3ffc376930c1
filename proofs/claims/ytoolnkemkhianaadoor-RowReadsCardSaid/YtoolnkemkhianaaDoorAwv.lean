/-
  append of strings and of nothing.
  No condition: every theorem here is general.
-/
import Derived.Test.YtoolnkemkhianaaDoorAwb
namespace Go.Proofs.YtoolnkemkhianaaDoorW
open Go Go.RowKit
set_option linter.unusedSimpArgs false
set_option linter.unusedVariables false
section
variable {P : Program} {w0 : World} {F : Fr} {H : Hp} {K : Value → Hp → Prop} {dst : Option Tmp} {ty : TypeId} {pos : String} {after : Array Edge} {g : Option (Nat × Bool)}
theorem awp_append_str {t t2 e ty bytes : Nat} {z : Value} (ht : P.underlying t = some (.slice e)) (ht2 : P.underlying t2 = some .string) (hsz : szOf P e = some 1) (hby : byOf P e = some bytes) (hz : zrOf P e = some z)
    (hzs : z.cells.size = 1) {v : Value} {n : Nat} {xs : List Value} (hrow : Row H e 1 v n xs)
    {s : ByteArray} {m : Nat} {ys : List Value} (hm' : s.size = m) (hys : Builtin.firstCells 1 m (.string s) = pure ys.toArray) (hyl : ys.length = m * 1) (h1 : ∀ u ∈ ys, cell1 u = true) (hm : 0 < m)
    (hb : (n + m) * bytes ≤ 140737488355328) (hi : n + m ≤ 9223372036854775807) {K : Value → Hp → Prop}
    (hK : ∀ g cap cur, (v = .slice (some ⟨g, 0, none⟩) n cap ∨ (H g = none ∧ w0.heap.size ≤ g)) → n + m ≤ cap → cur.size = cap * 1 → cur.toList.take ((n + m) * 1) = xs ++ ys →
      K (.slice (some ⟨g, 0, none⟩) (n + m) cap) (H.set g (.cells cur e (0, 0)))) :
    awp P w0 (Builtin.append_ #[t, t2] ty #[v, .string s]) K H := by
  obtain ⟨hxl, hv⟩ := hrow
  have hbi : ∃ i, P.info? e = some i ∧ i.bytes = bytes := by
    unfold byOf at hby
    cases hi : P.info? e with
    | none => rw [hi] at hby; cases hby
    | some i => rw [hi] at hby; exact ⟨i, rfl, by simpa using hby⟩
  obtain ⟨inf, hinf, hinfb⟩ := hbi
  have hi' : ((n + m : Nat) : Int) ≤ 9223372036854775807 := by omega
  -- the new row
  have fresh : ∀ (cap : Nat) (base : Option Addr), n + m > cap → (firstv : awp P w0 (Builtin.firstCells 1 n (.slice base n cap)) (fun l H' => l = xs.toArray ∧ H' = H) H) → v = .slice base n cap →
      awp P w0 (Builtin.append_ #[t, t2] ty #[v, .string s]) K H := by
    intro cap base hcap hfirst hvv
    have hg1 : ¬ (Builtin.nextslicecap (n + m) cap * bytes > 281474976710656) := by have := growslice_fits (need := n + m) (old := cap) (bytes := bytes) (by omega) hb; omega
    subst hvv
    unfold Builtin.append_
    simp only [awp_bind, awp_underlying, ht, ht2, hm', OptK, BindK, awp_sizeOf, hsz, awp_pure, Builtin.lenOf, List.getElem?_toArray, List.getElem?_cons_zero, List.getElem?_cons_succ]
    simp only [Bool.false_eq_true, if_false, awp_bind, awp_pure, BindK]
    rw [if_neg (show ¬ (n + m ≤ cap) by omega)]
    simp only [awp_bind, awp_typeInfo, hinf, OptK, BindK, hinfb]
    rw [if_neg (by simp [IntKind.max, IntKind.bits, IntKind.signed]; omega)]
    simp only [awp_bind, awp_typeInfo, hinf, OptK, BindK, hinfb]
    rw [if_neg (by simpa using hg1)]
    simp only [awp_bind, choose, awp, Question.forced, Bool.false_eq_true, if_false]
    intro q
    simp only [BindK, awp_bind, awp_typeInfo, hinf, OptK, hinfb]
    have hroom : ∀ (x : Nat) (Q : Unit → Hp → Prop), Q () H → awp P w0 (askRoom x) Q H := by
      intro x Q h; unfold askRoom; split
      · exact h
      · exact h
    refine hroom _ _ ?_
    simp only [BindK, awp_bind]
    refine awp_mono P w0 _ hfirst ?_
    rintro l H' ⟨rfl, rfl⟩
    simp only [BindK, awp_bind, Bool.not_false, if_true, hys, OptK, awp_zeroValue, hz, newRow, newObj, awp, awp_pure]
    intro g hg0 hgn
    generalize hcut : (Question.appendCap (n + m) cap e).cut q = cap'
    have hcap' : n + m ≤ cap' := by rw [← hcut]; simp only [Question.cut]; omega
    have hsz' : (Builtin.zeroCells z.cells (cap' - (n + m))).size = (cap' - (n + m)) * 1 := by rw [size_zeroCells, hzs]
    refine hK g cap' _ (.inr ⟨hgn, hg0⟩) hcap' ?_ ?_
    · simp only [Array.size_append, hsz', List.size_toArray, hxl, hyl, Array.append_empty, Array.empty_append]
      rw [← Nat.add_mul, ← Nat.add_mul]
      congr 1; omega
    · have hl : (xs ++ ys).length = (n + m) * 1 := by rw [List.length_append, hxl, hyl, Nat.add_mul]
      simp only [Array.toList_append, Array.append_empty, Array.empty_append]
      rw [List.take_append_of_le_length (by rw [hl]; exact Nat.le_refl _), ← hl, List.take_length]
  rcases hv with ⟨rfl, rfl⟩ | ⟨g, cap, cur, rfl, hg, hn, hcs, htk⟩
  · refine fresh 0 none (by omega) ?_ rfl
    have : xs = [] := List.eq_nil_of_length_eq_zero (by simpa using hxl)
    subst this
    exact ⟨rfl, rfl⟩
  · by_cases hroom : n + m ≤ cap
    · unfold Builtin.append_
      simp only [awp_bind, awp_underlying, ht, ht2, hm', OptK, BindK, awp_sizeOf, hsz, awp_pure, Builtin.lenOf, List.getElem?_toArray, List.getElem?_cons_zero, List.getElem?_cons_succ]
      simp only [Bool.false_eq_true, if_false, awp_bind, awp_pure, BindK]
      rw [if_pos hroom]
      simp only [awp_bind, Bool.not_false, if_true, hys, awp_pure, OptK, BindK, add_at, awp_storeCells]
      have hfit : n * 1 + 0 + ys.length ≤ cur.size := by rw [hcs, hyl, Nat.add_zero, ← Nat.add_mul]; exact Nat.mul_le_mul_right _ hroom
      obtain ⟨cur', hst, hcur'⟩ := stCells_row w0 g (0 + n * 1) e ys 0 cur H hg (by rw [Nat.zero_add]; exact hfit) h1
      simp only [hst]
      simp only [Nat.zero_add, Nat.add_zero] at hcur'
      have hnle : n * 1 ≤ cur.toList.length := by rw [Array.length_toList]; omega
      refine hK g cap cur' (.inl rfl) hroom ?_ ?_
      · rw [← hcs, ← Array.length_toList, hcur']
        simp only [List.length_append, List.length_take, List.length_drop, Array.length_toList]
        omega
      · rw [hcur', htk, List.take_append_of_le_length]
        · rw [List.take_of_length_le]
          rw [List.length_append, hxl, hyl, Nat.add_mul]; exact Nat.le_refl _
        · rw [List.length_append, hxl, hyl, Nat.add_mul]; exact Nat.le_refl _
    · refine fresh cap (some ⟨g, 0, none⟩) (by omega) ?_ rfl
      simp only [Builtin.firstCells, loadCells, awp_loadCellsFrom]
      rw [ldCells_row hg 0 (n * 1) 0 (by rw [hcs]; have := Nat.mul_le_mul_right 1 hn; omega)]
      rw [Nat.mul_one] at htk
      simp [OptK, htk]


theorem first_str (s : ByteArray) : Builtin.firstCells 1 s.size (.string s) = pure (u8s s.data.toList).toArray := by
  show pure ((s.extract 0 s.size).data.map fun b => Value.int .u8 b.toNat) = _
  congr 1
  apply Array.toList_inj.1
  rw [ByteArray.extract_zero_size]
  simp [u8s]
/-- What an append leaves. -/
def App (w0 : World) (H : Hp) (v r : Value) (H' : Hp) : Prop :=
  (∀ b, blk r = some b → some b = blk v ∨ (H b = none ∧ w0.heap.size ≤ b)) ∧ ∀ b, blk r ≠ some b → H' b = H b
theorem aop_app {t e sz bytes : Nat} {z : Value} {x y : Operand} (ht : P.underlying t = some (.slice e)) (hsz : szOf P e = some sz) (hby : byOf P e = some bytes) (hz : zrOf P e = some z)
    (hzs : z.cells.size = sz) {v : Value} (hx : evF F x = v) {n : Nat} {xs : List Value} (hrow : Row H e sz v n xs) {u : Value} (hy : evF F y = u) {m : Nat} {ys : List Value} (hr : Rd w0 H sz u m ys) (h1 : ∀ u ∈ ys, cell1 u = true)
    (hb : (n + m) * bytes ≤ 140737488355328) (hi : n + m ≤ 9223372036854775807)
    (hK : ∀ r H', Row H' e sz r (n + m) (xs ++ ys) → App w0 H v r H' → K r H') :
    AOp P w0 F ⟨dst, .call { callee := .builtin .append, args := #[x, y], argTypes := #[t, t] }, ty, pos, after, g⟩ K H := by
  rcases Nat.eq_zero_or_pos m with h0 | hm
  · subst h0
    have hy0 : ys = [] := List.eq_nil_of_length_eq_zero (by rw [hr.len]; simp)
    subst hy0
    obtain ⟨ua, uc, hu, _⟩ := hr.slice
    subst hu
    have fin : AOp P w0 F ⟨dst, .call { callee := .builtin .append, args := #[x, y], argTypes := #[t, t] }, ty, pos, after, g⟩ K H ↔ K v H := by
      have hf : ∀ Q, awp P w0 (Builtin.firstCells sz 0 (.slice ua 0 uc)) Q H = Q #[] H := fun Q => by
        cases ua with
        | none => rfl
        | some a => simp only [Builtin.firstCells, loadCells, Nat.zero_mul, awp_loadCellsFrom, ldCells, OptK]; simp
      obtain ⟨hl, ⟨hv, hn0⟩ | ⟨q, cap, cur, hv, hq, hc, hs, htk⟩⟩ := hrow
      · unfold AOp
        simp only [execOp, resolve, awp_bind, awp_pure, BindK, invoke, builtin, List.map_toArray, List.map_cons, List.map_nil, hx, hy, hv, Builtin.append_, List.getElem?_toArray, List.getElem?_cons_zero, List.getElem?_cons_succ, awp_underlying, ht, OptK, awp_sizeOf, hsz, Builtin.lenOf]
        simp only [Bool.false_eq_true, if_false, awp_bind, awp_pure, BindK, Nat.add_zero, Nat.le_refl, if_true, Bool.not_false, hf, ANx]
      · unfold AOp
        simp only [execOp, resolve, awp_bind, awp_pure, BindK, invoke, builtin, List.map_toArray, List.map_cons, List.map_nil, hx, hy, hv, Builtin.append_, List.getElem?_toArray, List.getElem?_cons_zero, List.getElem?_cons_succ, awp_underlying, ht, OptK, awp_sizeOf, hsz, Builtin.lenOf]
        simp only [Bool.false_eq_true, if_false, awp_bind, awp_pure, BindK, Nat.add_zero, hc, if_true, Bool.not_false, hf, awp_storeCells, stCells, ANx]
    rw [fin]
    rw [List.append_nil] at hK
    exact hK v H hrow ⟨fun b hb => .inl hb.symm, fun b _ => rfl⟩
  · obtain ⟨a, c, hu, _, hys⟩ := hr.open hm
    refine aop_append P w0 F K H dst ty pos after g ht hsz hby hz hzs hx hrow (hy.trans hu) (ys := ys) hys hr.len h1 hm hb hi ?_
    intro q cap cur hq hcap hcur htk
    have hl : (xs ++ ys).length = (n + m) * sz := by rw [List.length_append, hrow.1, hr.len, Nat.add_mul]
    refine hK _ _ (Row.of_append hl hcap hcur htk) ⟨fun b hb => ?_, fun b hb => Hp.set_ne _ _ _ _ (fun e => hb (by rw [e]; rfl))⟩
    simp only [blk, Option.some.injEq] at hb
    subst hb
    exact hq.imp (fun e => by rw [e]; rfl) id
theorem aop_app_str {t t2 e bytes : Nat} {z : Value} {x y : Operand} (ht : P.underlying t = some (.slice e)) (ht2 : P.underlying t2 = some .string) (hsz : szOf P e = some 1) (hby : byOf P e = some bytes) (hz : zrOf P e = some z)
    (hzs : z.cells.size = 1) {v : Value} (hx : evF F x = v) {n : Nat} {xs : List Value} (hrow : Row H e 1 v n xs) {s : ByteArray} (hy : evF F y = .string s)
    (hb : (n + s.size) * bytes ≤ 140737488355328) (hi : n + s.size ≤ 9223372036854775807)
    (hK : ∀ r H', Row H' e 1 r (n + s.size) (xs ++ u8s s.data.toList) → App w0 H v r H' → K r H') :
    AOp P w0 F ⟨dst, .call { callee := .builtin .append, args := #[x, y], argTypes := #[t, t2] }, ty, pos, after, g⟩ K H := by
  have hsl : s.data.toList.length = s.size := by rw [Array.length_toList]; rfl
  rcases Nat.eq_zero_or_pos s.size with h0 | hm
  · have hn : s.data.toList = [] := List.eq_nil_of_length_eq_zero (by omega)
    rw [hn, h0] at hK
    have hf := first_str s
    rw [h0, hn] at hf
    have fin : AOp P w0 F ⟨dst, .call { callee := .builtin .append, args := #[x, y], argTypes := #[t, t2] }, ty, pos, after, g⟩ K H ↔ K v H := by
      obtain ⟨hl, ⟨hv, hn0⟩ | ⟨q, cap, cur, hv, hq, hc, hs, htk⟩⟩ := hrow
      · unfold AOp
        simp only [execOp, resolve, awp_bind, awp_pure, BindK, invoke, builtin, List.map_toArray, List.map_cons, List.map_nil, hx, hy, hv, Builtin.append_, List.getElem?_toArray, List.getElem?_cons_zero, List.getElem?_cons_succ, awp_underlying, ht, ht2, OptK, awp_sizeOf, hsz, Builtin.lenOf, h0]
        simp only [Bool.false_eq_true, if_false, awp_bind, awp_pure, BindK, Nat.add_zero, Nat.le_refl, if_true, Bool.not_false, hf, ANx]
      · unfold AOp
        simp only [execOp, resolve, awp_bind, awp_pure, BindK, invoke, builtin, List.map_toArray, List.map_cons, List.map_nil, hx, hy, hv, Builtin.append_, List.getElem?_toArray, List.getElem?_cons_zero, List.getElem?_cons_succ, awp_underlying, ht, ht2, OptK, awp_sizeOf, hsz, Builtin.lenOf, h0]
        simp only [Bool.false_eq_true, if_false, awp_bind, awp_pure, BindK, Nat.add_zero, hc, if_true, Bool.not_false, hf, awp_storeCells, u8s, List.map_nil, stCells, ANx]
    rw [fin]
    rw [show u8s [] = [] from rfl, List.append_nil] at hK
    exact hK v H hrow ⟨fun b hb => .inl hb.symm, fun b _ => rfl⟩
  · unfold AOp
    simp only [execOp, resolve, awp_bind, awp_pure, BindK, invoke, builtin, List.map_toArray, List.map_cons, List.map_nil, hx, hy]
    refine awp_append_str (m := s.size) ht ht2 hsz hby hz hzs hrow rfl (first_str s) (by rw [u8s_len, hsl, Nat.mul_one]) (fun u hu => ?_) hm hb hi ?_
    · unfold u8s at hu
      obtain ⟨b, _, rfl⟩ := List.mem_map.1 hu
      exact cell1_int
    · intro q cap cur hq hcap hcur htk
      have hl : (xs ++ u8s s.data.toList).length = (n + s.size) * 1 := by rw [List.length_append, hrow.1, u8s_len, hsl]; omega
      refine hK _ _ (Row.of_append hl hcap hcur htk) ⟨fun b hb => ?_, fun b hb => Hp.set_ne _ _ _ _ (fun e => hb (by rw [e]; rfl))⟩
      simp only [blk, Option.some.injEq] at hb
      subst hb
      exact hq.imp (fun e => by rw [e]; rfl) id
end
end Go.Proofs.YtoolnkemkhianaaDoorW
