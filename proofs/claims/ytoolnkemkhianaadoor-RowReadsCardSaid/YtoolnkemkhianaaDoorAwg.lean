/-
  Small words on heaps: what an own block reads as; forgetting; keeping.
  No condition: every theorem here is general.
-/
import Derived.Test.YtoolnkemkhianaaDoorAwd
set_option linter.unusedSimpArgs false
set_option linter.unusedVariables false
namespace Go.Proofs.YtoolnkemkhianaaDoorW
open Go Go.RowKit

theorem ld_own (w0 : World) {H : Hp} {b : Nat} {c : Array Value} {e : TypeId} {fr : Nat × Nat} (h : H b = some (.cells c e fr)) (i : Nat) : ld w0 H ⟨b, i, none⟩ = c[i]? := by simp [ld, h]
theorem wr_own {H : Hp} {b : Nat} {c : Array Value} {e : TypeId} (h : H b = some (.cells c e (0, 0))) (i : Nat) (hi : i < c.size) : wr H ⟨b, i, none⟩ = some (.cells c e (0, 0)) := by simp [wr, h, hi]

/-- All of H is in H'. -/
def Sub (H H' : Hp) : Prop := ∀ b o, H b = some o → H' b = some o
theorem Sub.refl (H : Hp) : Sub H H := fun _ _ h => h
theorem Sub.trans {A B C : Hp} (h : Sub A B) (h' : Sub B C) : Sub A C := fun b o hb => h' b o (h b o hb)
theorem Sub.set {A B : Hp} (h : Sub A B) {b : Nat} (hb : A b = none) (o : Obj) : Sub A (B.set b o) := fun x ob hx => by
  rw [Hp.set_ne _ _ _ _ (fun e => by rw [e, hb] at hx; cases hx)]; exact h x ob hx

theorem ACalls.forget {P : Program} {w0 : World} {f : FuncId} {args : Array Value} {H : Hp} {Q Q' : Value → Hp → Prop}
    (h : ACalls P w0 f args H Q) (hq : ∀ r H', Q r H' → ∃ H'', Sub H'' H' ∧ Q' r H'') : ACalls P w0 f args H Q' := by
  intro R w hd hr
  refine (h R w hd hr).mono ?_
  rintro e w' ⟨r, H', rfl, hd', hr', hQ⟩
  obtain ⟨H'', hs, hQ'⟩ := hq r H' hQ
  have hdj : H''.disj R := fun b => by
    cases hb : H'' b with
    | none => exact .inl rfl
    | some o => exact .inr (disj_none hd' (hs b o hb))
  refine ⟨r, H'', rfl, hdj, ⟨fun b o hb => ?_, hr'.below⟩, hQ'⟩
  cases h'' : H'' b with
  | some o' =>
    rw [Hp.join_left h''] at hb
    cases hb
    exact hr'.own b _ (Hp.join_left (hs b _ h''))
  | none =>
    rw [Hp.join_right h''] at hb
    have hH' : H' b = none := by
      rcases hd' b with e | e
      · exact e
      · rw [e] at hb; cases hb
    exact hr'.own b o (by rw [Hp.join_right hH']; exact hb)
/-- What only reads, but for what it leaves behind. -/
theorem ACalls.quiet {P : Program} {w0 : World} {f : FuncId} {args : Array Value} {H : Hp} {v : Value} (h : ACalls P w0 f args H fun r H' => r = v ∧ Sub H H') :
    ACalls P w0 f args H fun r H' => r = v ∧ H' = H := h.forget fun _ _ ⟨e, hs⟩ => ⟨H, hs, e, rfl⟩

/-! stores -/
section
variable {P : Program} {w0 : World} {H : Hp} {K : Value → Hp → Prop} {b i : Nat} {v : Value} {t : TypeId}
def StW (K : Value → Hp → Prop) (H : Hp) (b i : Nat) (v : Value) : Option Obj → Prop
  | some o => K undef (H.set b (Obj.put o i v))
  | none => False
theorem stW_some {o : Obj} : StW K H b i v (some o) = K undef (H.set b (Obj.put o i v)) := rfl
theorem put_cells {c : Array Value} {e : TypeId} {fr : Nat × Nat} : Obj.put (.cells c e fr) i v = .cells (c.setIfInBounds i v) e fr := rfl
theorem storeK_cell (hv : cell1 v = true) : StoreK P w0 t K H v (.pointer (some ⟨b, i, none⟩)) = (some 1 = szOf P t ∧ StW K H b i v (wr H ⟨b, i, none⟩)) := by
  have hc : v.cells = #[v] := by cases v <;> first | rfl | cases hv
  unfold StoreK
  simp only [hc, stCells, hv, if_true, add_at, Nat.add_zero]
  cases wr H ⟨b, i, none⟩ <;> rfl
theorem cell1_int {k : IntKind} {n : Int} : cell1 (.int k n) = true := by unfold cell1; rfl
theorem cell1_bool {x : Bool} : cell1 (.bool x) = true := by unfold cell1; rfl
theorem cell1_ptr {a : Option Addr} : cell1 (.pointer a) = true := by unfold cell1; rfl
theorem cell1_slice {a : Option Addr} {n c : Nat} : cell1 (.slice a n c) = true := by unfold cell1; rfl
theorem cell1_string {s : ByteArray} : cell1 (.string s) = true := by unfold cell1; rfl
theorem cell1_map {r : Option Nat} : cell1 (.map r) = true := by unfold cell1; rfl
theorem storeK_all {cs cur : Array Value} {e : TypeId} (hb : H b = some (.cells cur e (0, 0))) (hs : cs.size = cur.size) (h1 : ∀ u ∈ cs.toList, cell1 u = true) :
    StoreK P w0 t K H (.agg cs) (.pointer (some ⟨b, 0, none⟩)) = (some cs.size = szOf P t ∧ K undef (H.set b (.cells cs e (0, 0)))) := by
  obtain ⟨cur', hst, hc⟩ := stCells_row w0 b 0 e cs.toList 0 cur H hb (by simp [hs]) h1
  have : cur' = cs := by
    apply Array.toList_inj.1
    rw [hc]
    simp [hs]
  subst this
  unfold StoreK
  simp only [Value.cells, hst]
end

/-- append of what a block of its own holds. -/
theorem aop_append_lit {P : Program} {w0 : World} {F : Fr} {K : Value → Hp → Prop} {H : Hp} {dst : Option Tmp} {ty : TypeId} {pos : String} {after : Array Edge} {g : Option (Nat × Bool)}
    {t e sz bytes : Nat} {z : Value} {x y : Operand} (ht : P.underlying t = some (.slice e)) (hsz : szOf P e = some sz) (hby : byOf P e = some bytes) (hz : zrOf P e = some z)
    (hzs : z.cells.size = sz) {v : Value} (hx : evF F x = v) {n : Nat} {xs : List Value} (hrow : Row H e sz v n xs)
    {nb m c : Nat} {cs : Array Value} {fr : Nat × Nat} (hnb : H nb = some (.cells cs e fr)) (hy : evF F y = .slice (some ⟨nb, 0, none⟩) m c) (hcs : cs.size = m * sz) (h1 : cs.toList.all cell1 = true) (hm : 0 < m)
    (hb : (n + m) * bytes ≤ 140737488355328) (hi : n + m ≤ 9223372036854775807)
    (hK : ∀ g H', (some g = blk v ∨ (H g = none ∧ w0.heap.size ≤ g)) → (∀ b, b ≠ g → H' b = H b) → ∀ cap, Row H' e sz (.slice (some ⟨g, 0, none⟩) (n + m) cap) (n + m) (xs ++ cs.toList) → K (.slice (some ⟨g, 0, none⟩) (n + m) cap) H') :
    AOp P w0 F ⟨dst, .call { callee := .builtin .append, args := #[x, y], argTypes := #[t, t] }, ty, pos, after, g⟩ K H := by
  have hl : (xs ++ cs.toList).length = (n + m) * sz := by rw [List.length_append, hrow.1, Array.length_toList, hcs, Nat.add_mul]
  refine aop_append P w0 F K H dst ty pos after g ht hsz hby hz hzs hx hrow hy (ys := cs.toList) ?_ (by rw [Array.length_toList]; exact hcs) (fun u hu => List.all_eq_true.1 h1 u hu) hm hb hi ?_
  · rw [ldCells_row hnb 0 (m * sz) 0 (by omega)]
    simp only [Nat.zero_add, List.drop_zero, ← hcs]
    rw [List.take_of_length_le (by simp)]
  · intro g' cap cur hg' hcap hcur htk
    refine hK g' _ (hg'.imp (fun e => by rw [e]; rfl) id) (fun b hb => Hp.set_ne _ _ _ _ hb) _ (Row.of_append hl hcap hcur htk)

/-- A row that isn't empty, opened. -/
theorem Row.open1 {H : Hp} {e : TypeId} {v : Value} {n : Nat} {xs : List Value} (h : Row H e 1 v n xs) (hn : 0 < n) :
    ∃ g cap cur, v = .slice (some ⟨g, 0, none⟩) n cap ∧ H g = some (.cells cur e (0, 0)) ∧ n ≤ cap ∧ cur.size = cap ∧ (∀ i, i < n → cur[i]? = xs[i]?) ∧ cur.toList.take n = xs := by
  obtain ⟨hl, ⟨_, h0⟩ | ⟨g, cap, cur, hv, hg, hc, hs, ht⟩⟩ := h
  · omega
  · rw [Nat.mul_one] at ht hs
    refine ⟨g, cap, cur, hv, hg, hc, hs, fun i hi => ?_, ht⟩
    rw [← ht, List.getElem?_take_of_lt hi, Array.getElem?_toList]

theorem Row.keep {H H' : Hp} {e sz : TypeId} {v : Value} {n : Nat} {xs : List Value} (h : Row H e sz v n xs) (hk : ∀ b o, blk v = some b → H b = some o → H' b = some o) : Row H' e sz v n xs := by
  obtain ⟨hl, h0 | ⟨g, cap, cur, hv, hg, r⟩⟩ := h
  · exact ⟨hl, .inl h0⟩
  · exact ⟨hl, .inr ⟨g, cap, cur, hv, hk g _ (by rw [hv]; rfl) hg, r⟩⟩
theorem Row.own {H : Hp} {e sz : TypeId} {v : Value} {n : Nat} {xs : List Value} (h : Row H e sz v n xs) {b : Nat} (hb : blk v = some b) : ∃ o, H b = some o := by
  obtain ⟨hl, ⟨rfl, _⟩ | ⟨g, cap, cur, rfl, hg, r⟩⟩ := h
  · cases hb
  · cases hb; exact ⟨_, hg⟩
theorem Row.slice {H : Hp} {e sz : TypeId} {v : Value} {n : Nat} {xs : List Value} (h : Row H e sz v n xs) : ∃ a c, v = .slice a n c := by
  obtain ⟨hl, ⟨rfl, rfl⟩ | ⟨g, cap, cur, rfl, hg, r⟩⟩ := h
  · exact ⟨none, 0, rfl⟩
  · exact ⟨_, _, rfl⟩
attribute [go_sem] vc_skip vc_region vc_seq vc_cond vc_block vc_exit vc_ret normK vops_nil vops_cons want_true want_false putK_eq putF_some putF_none seqK_normal seqK_exit seqK_ret blockK_normal blockK_ret blockK_exit blockE_true blockE_false condK_true condK_false retK_normal retK_ret resK_some resVal_none resVal_one resVal_tt resOne_tmp resOne_cell resCell_ptr wanted_none wanted_some yieldF_eq yieldK_some slotBool_bool beq_some_true beq_some_false okDst_none okDst_some ev_tmp ev_const ev_func ev_global argF_at upd_at pickK_true pickK_false pickK_or pickK_and nilK_some extK_eq optK_some binK_some fldK_some loadK_ptr ldVar_eq ldK_cell bdK_some not_bool notK_bool lenK_slice lenK_string aop_move aop_assign aop_pick aop_nilCheck aop_extract aop_makeFunc aop_alloc aop_box aop_load aop_store aop_fieldAddr aop_indexAddr aop_binOp aop_len aop_build aop_buildSlice bin_add bin_sub bin_mul bin_quo bin_rem bin_shl bin_shr bin_and bin_or bin_xor bin_andNot bin_eql bin_neq bin_lss bin_leq bin_gtr bin_geq bin_beq bin_bne bin_peq bin_peqn bin_pne bin_pnen bin_seq bin_sne bin_slt convV_int add_at decide_true decide_false Bool.not_true Bool.not_false Bool.true_or Bool.false_or Bool.or_true Bool.or_false Bool.true_and Bool.false_and Bool.and_true Bool.and_false true_and and_true beq_self_eq_true List.getElem?_toArray List.getElem?_cons_zero List.getElem?_cons_succ Option.bind_some Option.getD_some Option.map_some List.map_toArray List.map_cons List.map_nil List.size_toArray List.length_cons List.length_nil Nat.zero_add vc_draw vcd_nil vcd_cons vone_some vwnt_true vwnt_false vcls_p vcls_n vcls_a vcls_c exv_pur exv_q exv_eq eqK_eq forall_hp nxP_eq nxN_eq nxA_eq nxC_eq prN_eq prK_nil prK_cons prO_true prO_false wK_nil wK_cons wget_nil wget_cons qAt_eq allK_some allocOf_alloc allocOf_box allocOf_slice alS_eq aop_call_func idxS_eq idxI_true idxK_slice idxK_array Int.toNat_natCast Nat.mul_one Nat.one_mul aop_convert Option.isSome_some storeK_cell stW_some put_cells cell1_int cell1_bool cell1_ptr cell1_slice cell1_string cell1_map bsK_slice bsE_some List.setIfInBounds_toArray List.set_cons_zero List.set_cons_succ Hp.set_set Int.cast_ofNat_Int slotBool_undef beq_none_some eq_self
end Go.Proofs.YtoolnkemkhianaaDoorW
