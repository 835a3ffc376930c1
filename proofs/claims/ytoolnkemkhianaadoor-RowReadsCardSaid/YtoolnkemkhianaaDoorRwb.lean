/-
  row.Bytes, walked; the document's examples of the fourth layer.
  Conditions: as each theorem states them.
-/
import Derived.Test.YtoolnkemkhianaaDoorKnd
namespace Go.Proofs.YtoolnkemkhianaaDoor
open Go Go.RowKit Go.Proofs.YtoolnkemkhianaaDoorW
set_option maxRecDepth 100000
set_option maxHeartbeats 1000000
set_option linter.unusedSimpArgs false
set_option linter.unusedVariables false
theorem or_mask : ∀ i : Fin 8, ∀ m : Fin 128, m.val < 2 ^ i.val → orI .u8 (m.val : Int) (IntKind.u8.wrap (1 * 2 ^ min i.val 8)) = ((m.val + 2 ^ i.val : Nat) : Int) := by decide +kernel
theorem or_mask' {i m : Nat} (hi : i < 8) (hm : m < 2 ^ i) : orI .u8 (m : Int) (IntKind.u8.wrap (1 * 2 ^ min i 8)) = ((m + 2 ^ i : Nat) : Int) := by
  have h1 : 2 ^ i ≤ 2 ^ 7 := Nat.pow_le_pow_right (by decide) (by omega)
  exact or_mask ⟨i, hi⟩ ⟨m, by omega⟩ hm
theorem shr_signed (i : Int) {j : Nat} (hj : j < 8) : IntKind.u8.wrap (i.fdiv (2 ^ min (8 * j) 64)) = ((UInt8.ofNat (un i / 256 ^ j)).toNat : Int) := by
  have e := pow_law ⟨j, hj⟩
  simp only [] at e
  rw [e, Int.fdiv_eq_ediv_of_nonneg _ (Int.natCast_nonneg _), u8_mod, UInt8.toNat_ofNat']
  show _ = ((un i / 256 ^ j % 256 : Nat) : Int)
  unfold un
  have : j = 0 ∨ j = 1 ∨ j = 2 ∨ j = 3 ∨ j = 4 ∨ j = 5 ∨ j = 6 ∨ j = 7 := by omega
  rcases this with rfl | rfl | rfl | rfl | rfl | rfl | rfl | rfl <;> simp only [Nat.reducePow, Nat.div_one] <;> omega
theorem ofNat_lt {n : Nat} (h : n < 256) : (UInt8.ofNat n).toNat = n := by
  rw [UInt8.toNat_ofNat']
  exact Nat.mod_eq_of_lt (by omega)
def xi1 : Va := ⟨1, 1, [], false⟩
theorem bsx : bsCells Tryd.prog 36 2 #[(0, .agg #[.int .u8 1, .int .i64 1, .string ⟨#[]⟩, .bool false]), (1, .agg #[.int .u8 2, .int .i64 0, .string ⟨#[97]⟩, .bool false])] = some ([xi1, xa].flatMap vc).toArray := by kernel_rfl
theorem zr2 : zrow (.agg #[.int .u8 0, .int .i64 0, .string ⟨#[]⟩, .bool false]) (2 * 4) = ([xn, xn].flatMap vc).toArray := by kernel_rfl
theorem bse : bsCells Tryd.prog 5 11 #[(0, .int .u8 0), (1, .int .u8 1), (2, .int .u8 0), (3, .int .u8 0), (4, .int .u8 0), (5, .int .u8 0), (6, .int .u8 0), (7, .int .u8 0), (8, .int .u8 0), (9, .int .u8 1), (10, .int .u8 97)] = some (u8s [0, 1, 0, 0, 0, 0, 0, 0, 0, 1, 97]).toArray := by kernel_rfl
section
variable {w0 : World} {H Hb : Hp}
theorem Own.put (w0 : World) {s : Value} {b : UInt8} {p : List UInt8} (h : Own H s (b :: p)) : ∃ g cap cur, s = .slice (some ⟨g, 0, none⟩) (p.length + 1) cap ∧ H g = some (.cells cur 5 (0, 0)) ∧ ld w0 H ⟨g, 0, none⟩ = some (.int .u8 (b.toNat : Int)) ∧ wr H ⟨g, 0, none⟩ = some (.cells cur 5 (0, 0)) ∧
    ∀ c : UInt8, Own (H.set g (.cells (cur.setIfInBounds 0 (.int .u8 (c.toNat : Int))) 5 (0, 0))) s (c :: p) := by
  obtain ⟨g, cap, cur, hr, hg, hc, hcs, ht⟩ := Row.open h (by simp)
  have hpos : 0 < cap := by simp at hc; omega
  have hsz : 0 < cur.size := by omega
  refine ⟨g, cap, cur, by rw [hr]; rfl, hg, ?_, wr_own hg 0 hsz, fun c => ?_⟩
  · rw [ld_own w0 hg]
    have : cur.toList[0]? = some (.int .u8 (b.toNat : Int)) := by
      have h0 : ((cur.toList.take ((b :: p).length * 1)))[0]? = some (.int .u8 (b.toNat : Int)) := by rw [ht]; rfl
      rw [List.getElem?_take_of_lt (by simp)] at h0
      exact h0
    rw [← Array.getElem?_toList]; exact this
  · have := Row.put (by rw [u8s_len, Nat.mul_one]) hg hc hcs ht 0 (.int .u8 (c.toNat : Int))
    rw [hr]
    exact this
def BwQ (w0 : World) (H : Hp) (ks : List UInt8) (l : List Va) (r : Value) (H' : Hp) : Prop :=
  Sub H H' ∧ ((fitN ks l = 0 ∧ ∃ s, r = .tuple #[s, .int .i64 0] ∧ Own H' s (encW l) ∧ Fsh w0 H s) ∨ (fitN ks l ≠ 0 ∧ r = .tuple #[.slice none 0 0, .int .i64 (fitN ks l : Int)]))
theorem fitN_zero {ks : List UInt8} {l : List Va} (h : fitN ks l = 0) : rightK ks = true ∧ l.length = ks.length ∧ l.all rightB = true ∧ typesOk ks l = true ∧ 1 + (encB l).length ≤ 200 ∧ l.length ≤ 8 := by
  unfold fitN at h
  split at h
  · cases h
  split at h
  · cases h
  split at h
  · cases h
  split at h
  · cases h
  · rename_i h1 h2 h3 h4
    rw [Bool.not_eq_false, Bool.and_eq_true, decide_eq_true_eq] at h1
    have hk8 : ks.length ≤ 8 := by
      have := h1.1
      unfold rightK at this
      simp only [Bool.and_eq_true, decide_eq_true_eq] at this
      exact this.2.1
    exact ⟨h1.1, h1.2, by simpa using h2, by simpa using h3, by omega, by omega⟩
def BwI (w0 : World) (H0 : Hp) (lv : Value) (l : List Va) (m : Nat) (F : Fr) (H : Hp) : Prop :=
  ∃ k, k + m = l.length ∧ F 19 = lv ∧ F 20 = .int .i64 (l.length : Int) ∧ F 21 = .int .i64 (k : Int) ∧ ∃ s, F 7 = s ∧ Own H s (UInt8.ofNat (maskN (l.take k)) :: encB (l.take k)) ∧ Fsh w0 H0 s ∧ Sub H0 H
def BwJ (w0 : World) (H0 : Hp) (lv : Value) (l : List Va) (k : Nat) (H1 : Hp) (b9 : Nat) (x : Va) (p : List UInt8) (m : Nat) (F : Fr) (H : Hp) : Prop :=
  ∃ d, d + m = 8 ∧ F 19 = lv ∧ F 20 = .int .i64 (l.length : Int) ∧ F 21 = .int .i64 (k : Int) ∧ F 9 = .pointer (some ⟨b9, 0, none⟩) ∧ F 45 = .int .i64 (d : Int) ∧ H b9 = some (.cells (vc x).toArray 36 (0, 0)) ∧ ∃ s, F 7 = s ∧ blk s ≠ some b9 ∧ Own H s (p ++ (le8 (un x.i)).take d) ∧ Fsh w0 H0 s ∧ Sub H0 H
theorem wbytes_ok {kv lv : Value} {ks : List UInt8} {l : List Va} (ht : Tbl w0) (hkv : Bt w0 H kv ks) (hlv : Vs w0 H lv l) (hn : ks.length < 1000000000) (hn2 : l.length < 1000000) (hw : ∀ x ∈ l, x.wf) : ACalls Tryd.prog w0 32 #[kv, lv] H (BwQ w0 H ks l) := by
  obtain ⟨la', lc, el, _⟩ := Rd.slice hlv
  subst el
  refine acalls_of Tryd.func32 rfl Tryd.ntmps32 r32 (by simp) ?_
  simp -implicitDefEqProofs only [go_sem, Nat.reduceEqDiff, Nat.reduceLT, Nat.reduceAdd, Nat.reduceMul, Int.reduceEq, Int.reduceLT, Int.reduceLE, Int.reduceNe, Int.reduceBEq, Int.reduceToNat, ↓reduceIte]
  refine (fits_ok ht hkv hlv hn hn2).mono ?_
  rintro r H1 ⟨rfl, rfl⟩
  by_cases hf0 : fitN ks l = 0
  · obtain ⟨hrk, hlen, hall, hty, hsum, hl8⟩ := fitN_zero hf0
    have d0 : decide ((fitN ks l : Int) = 0) = true := decide_eq_true (by omega)
    simp -implicitDefEqProofs only [go_sem, Nat.reduceEqDiff, Nat.reduceLT, Nat.reduceAdd, Nat.reduceMul, Int.reduceEq, Int.reduceLT, Int.reduceLE, Int.reduceNe, Int.reduceBEq, Int.reduceToNat, ↓reduceIte, d0]
    refine newK_of ?_
    intro b2 H2 hb2 hn2' h2 s2 g2
    simp -implicitDefEqProofs only [go_sem, Nat.reduceEqDiff, Nat.reduceLT, Nat.reduceAdd, Nat.reduceMul, Int.reduceEq, Int.reduceLT, Int.reduceLE, Int.reduceNe, Int.reduceBEq, Int.reduceToNat, ↓reduceIte]
    refine AC.loopH (BwI w0 H1 (.slice la' l.length lc) l) (n := l.length) ⟨0, by omega, by simp -implicitDefEqProofs only [go_sem, Nat.reduceEqDiff, Nat.reduceLT, Nat.reduceAdd, Nat.reduceMul, Int.reduceEq, Int.reduceLT, Int.reduceLE, Int.reduceNe, Int.reduceBEq, Int.reduceToNat, ↓reduceIte], by simp -implicitDefEqProofs only [go_sem, Nat.reduceEqDiff, Nat.reduceLT, Nat.reduceAdd, Nat.reduceMul, Int.reduceEq, Int.reduceLT, Int.reduceLE, Int.reduceNe, Int.reduceBEq, Int.reduceToNat, ↓reduceIte], by simp -implicitDefEqProofs only [go_sem, Nat.reduceEqDiff, Nat.reduceLT, Nat.reduceAdd, Nat.reduceMul, Int.reduceEq, Int.reduceLT, Int.reduceLE, Int.reduceNe, Int.reduceBEq, Int.reduceToNat, ↓reduceIte] <;> rfl, _, rfl, ?_, ?_, ?_⟩ ?_
    · simp -implicitDefEqProofs only [go_sem, Nat.reduceEqDiff, Nat.reduceLT, Nat.reduceAdd, Nat.reduceMul, Int.reduceEq, Int.reduceLT, Int.reduceLE, Int.reduceNe, Int.reduceBEq, Int.reduceToNat, ↓reduceIte]
      exact Own.lit (p := [0]) h2 rfl
    · simp -implicitDefEqProofs only [go_sem, Nat.reduceEqDiff, Nat.reduceLT, Nat.reduceAdd, Nat.reduceMul, Int.reduceEq, Int.reduceLT, Int.reduceLE, Int.reduceNe, Int.reduceBEq, Int.reduceToNat, ↓reduceIte]
      exact fun b hb => by simp only [blk, Option.some.injEq] at hb; subst hb; exact ⟨hn2', hb2⟩
    · exact s2
    rintro m F H3 ⟨k, hk, f19, f20, f21, s, f7, hown, hf, hs⟩ hh
    have hmlt := mask_lt (l.take k)
    by_cases ck : k < l.length
    · have d1 : decide ((k : Int) < (l.length : Int)) = true := decide_eq_true (by omega)
      have dk0 : decide ((0 : Int) ≤ (k : Int)) = true := decide_eq_true (by omega)
      have d2 : IntKind.i64.wrap ((k : Int) + 1) = (k + 1 : Nat) := by rw [i64_in] <;> omega
      obtain ⟨x, hx⟩ : ∃ x, l[k]? = some x := ⟨_, List.getElem?_eq_getElem ck⟩
      have hr := List.all_eq_true.1 hall x (List.mem_of_getElem? hx)
      have hxw := hw x (List.mem_of_getElem? hx)
      have hmk := mask_take hx
      have hbk := encB_snoc hx
      have hkl : (l.take k).length = k := by rw [List.length_take]; omega
      rw [hkl] at hmlt
      have h128 : 2 ^ k ≤ 2 ^ 7 := Nat.pow_le_pow_right (by decide) (by omega)
      obtain ⟨a, c, ea, l1⟩ := (hlv.sub hs hh).at hx
      have ea' : la' = some a := by injection ea
      rw [ea'] at f19
      have hbl : (encB (l.take k)).length ≤ 61 * 8 := by
        have h1 : (l.take k).all rightB = true := by rw [List.all_eq_true] at *; exact fun x hx => hall x (List.mem_of_mem_take hx)
        have h2 := encB_len h1
        omega
      simp -implicitDefEqProofs only [go_sem, Nat.reduceEqDiff, Nat.reduceLT, Nat.reduceAdd, Nat.reduceMul, Int.reduceEq, Int.reduceLT, Int.reduceLE, Int.reduceNe, Int.reduceBEq, Int.reduceToNat, ↓reduceIte, f7, f19, f20, f21, d1, dk0, l1]
      refine newK_of ?_
      intro b9 H4 hb9 hn9 h4 s4' g4
      simp -implicitDefEqProofs only [go_sem, Nat.reduceEqDiff, Nat.reduceLT, Nat.reduceAdd, Nat.reduceMul, Int.reduceEq, Int.reduceLT, Int.reduceLE, Int.reduceNe, Int.reduceBEq, Int.reduceToNat, ↓reduceIte]
      refine store_all (cs := (vc x).toArray) h4 rfl rfl s36 ?_
      intro H5 h5 g5
      have q5 := ld_own w0 (c := (vc x).toArray) h5
      have s5' : Sub H3 H5 := Sub.ne2 hn9 g4 g5
      have hown5 := hown.sub s5'
      have hs5 := hs.trans s5'
      have ns9 := hown.ne hn9
      by_cases k0 : x.k = 0
      · have e0 : decide ((x.k : Int) = 0) = true := decide_eq_true (by omega)
        have he : encv x = [] := by unfold encv; rw [if_pos k0]
        rw [if_pos k0] at hmk
        have om := or_mask' (i := k) (by omega) hmlt
        have wb : IntKind.u8.bits = 8 := rfl
        obtain ⟨g, cap, cur, es, hg, lg, wg, hput⟩ := hown5.put w0
        rw [ofNat_lt (by omega)] at lg
        subst es
        have dn : decide ((0 : Int) < (((encB (l.take k)).length + 1 : Nat) : Int)) = true := decide_eq_true (by omega)
        simp -implicitDefEqProofs only [go_sem, Nat.reduceEqDiff, Nat.reduceLT, Nat.reduceAdd, Nat.reduceMul, Int.reduceEq, Int.reduceLT, Int.reduceLE, Int.reduceNe, Int.reduceBEq, Int.reduceToNat, ↓reduceIte, q5, e0]
        refine vdraw_t [⟨0, .p, [], []⟩, ⟨1, .p, [], []⟩, ⟨2, .n, [], []⟩, ⟨3, .p, [], []⟩, ⟨4, .p, [], []⟩, ⟨5, .p, [], []⟩, ⟨6, .p, [], []⟩, ⟨7, .c, [], []⟩] [0, 1, 3, 0, 8, 31, 63, 127] mixed (by kernel_rfl) ?_
        simp -implicitDefEqProofs only [go_sem, Nat.reduceEqDiff, Nat.reduceLT, Nat.reduceAdd, Nat.reduceMul, Int.reduceEq, Int.reduceLT, Int.reduceLE, Int.reduceNe, Int.reduceBEq, Int.reduceToNat, ↓reduceIte, f7, dk0, dn, lg, wb, om, wg]
        simp -implicitDefEqProofs only [go_sem, Nat.reduceEqDiff, Nat.reduceLT, Nat.reduceAdd, Nat.reduceMul, Int.reduceEq, Int.reduceLT, Int.reduceLE, Int.reduceNe, Int.reduceBEq, Int.reduceToNat, ↓reduceIte, f21, d2]
        have hp := hput (UInt8.ofNat (maskN (l.take (k + 1))))
        rw [ofNat_lt (by omega), hmk] at hp
        have hge : H1 g = none := (hf g rfl).1
        refine ⟨m - 1, by omega, k + 1, by omega, by simp -implicitDefEqProofs only [go_sem, Nat.reduceEqDiff, Nat.reduceLT, Nat.reduceAdd, Nat.reduceMul, Int.reduceEq, Int.reduceLT, Int.reduceLE, Int.reduceNe, Int.reduceBEq, Int.reduceToNat, ↓reduceIte, f19]; rw [ea'], by simp -implicitDefEqProofs only [go_sem, Nat.reduceEqDiff, Nat.reduceLT, Nat.reduceAdd, Nat.reduceMul, Int.reduceEq, Int.reduceLT, Int.reduceLE, Int.reduceNe, Int.reduceBEq, Int.reduceToNat, ↓reduceIte, f20], by simp -implicitDefEqProofs only [go_sem, Nat.reduceEqDiff, Nat.reduceLT, Nat.reduceAdd, Nat.reduceMul, Int.reduceEq, Int.reduceLT, Int.reduceLE, Int.reduceNe, Int.reduceBEq, Int.reduceToNat, ↓reduceIte], _, by simp -implicitDefEqProofs only [go_sem, Nat.reduceEqDiff, Nat.reduceLT, Nat.reduceAdd, Nat.reduceMul, Int.reduceEq, Int.reduceLT, Int.reduceLE, Int.reduceNe, Int.reduceBEq, Int.reduceToNat, ↓reduceIte, f7] <;> rfl, ?_, hf, ?_⟩
        · rw [hbk, he, List.append_nil, hmk]; exact hp
        · exact fun i o hi => (Hp.set_ne _ _ _ _ (fun e => by rw [e, hge] at hi; cases hi)).trans (hs5 i o hi)
      have e0 : decide ((x.k : Int) = 0) = false := decide_eq_false (by omega)
      have hmk : maskN (l.take (k + 1)) = maskN (l.take k) := by rw [hmk, if_neg k0]; rfl
      by_cases k1 : x.k = 1
      · have e1 : decide ((x.k : Int) = 1) = true := decide_eq_true (by omega)
        have he : encv x = le8 (un x.i) := by unfold encv; rw [if_neg k0, if_pos k1]
        simp -implicitDefEqProofs only [go_sem, Nat.reduceEqDiff, Nat.reduceLT, Nat.reduceAdd, Nat.reduceMul, Int.reduceEq, Int.reduceLT, Int.reduceLE, Int.reduceNe, Int.reduceBEq, Int.reduceToNat, ↓reduceIte, q5, e0, e1]
        refine AC.loop (BwJ w0 H1 (.slice (some a) l.length lc) l k H5 b9 x (UInt8.ofNat (maskN (l.take k)) :: encB (l.take k))) (n := 8) ⟨0, by omega, by simp -implicitDefEqProofs only [go_sem, Nat.reduceEqDiff, Nat.reduceLT, Nat.reduceAdd, Nat.reduceMul, Int.reduceEq, Int.reduceLT, Int.reduceLE, Int.reduceNe, Int.reduceBEq, Int.reduceToNat, ↓reduceIte, f19], by simp -implicitDefEqProofs only [go_sem, Nat.reduceEqDiff, Nat.reduceLT, Nat.reduceAdd, Nat.reduceMul, Int.reduceEq, Int.reduceLT, Int.reduceLE, Int.reduceNe, Int.reduceBEq, Int.reduceToNat, ↓reduceIte, f20], by simp -implicitDefEqProofs only [go_sem, Nat.reduceEqDiff, Nat.reduceLT, Nat.reduceAdd, Nat.reduceMul, Int.reduceEq, Int.reduceLT, Int.reduceLE, Int.reduceNe, Int.reduceBEq, Int.reduceToNat, ↓reduceIte, f21], by simp -implicitDefEqProofs only [go_sem, Nat.reduceEqDiff, Nat.reduceLT, Nat.reduceAdd, Nat.reduceMul, Int.reduceEq, Int.reduceLT, Int.reduceLE, Int.reduceNe, Int.reduceBEq, Int.reduceToNat, ↓reduceIte], by simp -implicitDefEqProofs only [go_sem, Nat.reduceEqDiff, Nat.reduceLT, Nat.reduceAdd, Nat.reduceMul, Int.reduceEq, Int.reduceLT, Int.reduceLE, Int.reduceNe, Int.reduceBEq, Int.reduceToNat, ↓reduceIte] <;> rfl, h5, s, by simp -implicitDefEqProofs only [go_sem, Nat.reduceEqDiff, Nat.reduceLT, Nat.reduceAdd, Nat.reduceMul, Int.reduceEq, Int.reduceLT, Int.reduceLE, Int.reduceNe, Int.reduceBEq, Int.reduceToNat, ↓reduceIte, f7], ns9, by simpa using hown5, hf, hs5⟩ ?_
        clear f7 f19 f20 f21
        rintro m2 F H6 ⟨d, hd, f19, f20, f21, f9, f45, h69, s6, f7, n6, o6, hf6, hs6⟩
        have q6 := ld_own w0 (c := (vc x).toArray) h69
        by_cases cd : d < 8
        · have c1 : decide ((d : Int) < 8) = true := decide_eq_true (by omega)
          have w8 : IntKind.i64.wrap (8 * (d : Int)) = ((8 * d : Nat) : Int) := by rw [i64_in] <;> omega
          have c2 : decide ((0 : Int) ≤ ((8 * d : Nat) : Int)) = true := decide_eq_true (by omega)
          have wb : IntKind.i64.bits = 64 := rfl
          have w9 : IntKind.i64.wrap ((d : Int) + 1) = ((d + 1 : Nat) : Int) := by rw [i64_in] <;> omega
          have ws := shr_signed x.i cd
          simp -implicitDefEqProofs only [go_sem, Nat.reduceEqDiff, Nat.reduceLT, Nat.reduceAdd, Nat.reduceMul, Int.reduceEq, Int.reduceLT, Int.reduceLE, Int.reduceNe, Int.reduceBEq, Int.reduceToNat, ↓reduceIte, f7, f9, f19, f20, f21, f45, c1, q6, w8, c2, wb, ws]
          refine newK_of ?_
          intro bx H8 hbx hnx hx8 sx gx
          simp -implicitDefEqProofs only [go_sem, Nat.reduceEqDiff, Nat.reduceLT, Nat.reduceAdd, Nat.reduceMul, Int.reduceEq, Int.reduceLT, Int.reduceLE, Int.reduceNe, Int.reduceBEq, Int.reduceToNat, ↓reduceIte, f7]
          have hl8 : ((le8 (un x.i)).take d).length ≤ 8 := by rw [List.length_take, le8_len]; omega
          refine app_b (Hb := H1) (by simp -implicitDefEqProofs only [go_sem, Nat.reduceEqDiff, Nat.reduceLT, Nat.reduceAdd, Nat.reduceMul, Int.reduceEq, Int.reduceLT, Int.reduceLE, Int.reduceNe, Int.reduceBEq, Int.reduceToNat, ↓reduceIte, f7]) (o6.sub sx) (by simp -implicitDefEqProofs only [go_sem, Nat.reduceEqDiff, Nat.reduceLT, Nat.reduceAdd, Nat.reduceMul, Int.reduceEq, Int.reduceLT, Int.reduceLE, Int.reduceNe, Int.reduceBEq, Int.reduceToNat, ↓reduceIte]) (Own.lit (p := [UInt8.ofNat (un x.i / 256 ^ d)]) hx8 rfl).bt (by simp only [List.length_append, List.length_cons, List.length_nil]; omega) hf6 (hs6.trans sx) ?_
          intro r9 H9 o9 f9' s9 a9
          obtain ⟨h99, n99⟩ := App.keep a9 (sx _ _ h69) n6
          have e9 : (le8 (un x.i)).take (d + 1) = (le8 (un x.i)).take d ++ [UInt8.ofNat (un x.i / 256 ^ d)] := by rw [List.take_add_one, le8_at _ _ cd]; rfl
          rw [List.append_assoc, ← e9] at o9
          simp -implicitDefEqProofs only [go_sem, Nat.reduceEqDiff, Nat.reduceLT, Nat.reduceAdd, Nat.reduceMul, Int.reduceEq, Int.reduceLT, Int.reduceLE, Int.reduceNe, Int.reduceBEq, Int.reduceToNat, ↓reduceIte, f45, w9]
          exact ⟨m2 - 1, by omega, d + 1, by omega, by simp -implicitDefEqProofs only [go_sem, Nat.reduceEqDiff, Nat.reduceLT, Nat.reduceAdd, Nat.reduceMul, Int.reduceEq, Int.reduceLT, Int.reduceLE, Int.reduceNe, Int.reduceBEq, Int.reduceToNat, ↓reduceIte, f19], by simp -implicitDefEqProofs only [go_sem, Nat.reduceEqDiff, Nat.reduceLT, Nat.reduceAdd, Nat.reduceMul, Int.reduceEq, Int.reduceLT, Int.reduceLE, Int.reduceNe, Int.reduceBEq, Int.reduceToNat, ↓reduceIte, f20], by simp -implicitDefEqProofs only [go_sem, Nat.reduceEqDiff, Nat.reduceLT, Nat.reduceAdd, Nat.reduceMul, Int.reduceEq, Int.reduceLT, Int.reduceLE, Int.reduceNe, Int.reduceBEq, Int.reduceToNat, ↓reduceIte, f21], by simp -implicitDefEqProofs only [go_sem, Nat.reduceEqDiff, Nat.reduceLT, Nat.reduceAdd, Nat.reduceMul, Int.reduceEq, Int.reduceLT, Int.reduceLE, Int.reduceNe, Int.reduceBEq, Int.reduceToNat, ↓reduceIte, f9], by simp -implicitDefEqProofs only [go_sem, Nat.reduceEqDiff, Nat.reduceLT, Nat.reduceAdd, Nat.reduceMul, Int.reduceEq, Int.reduceLT, Int.reduceLE, Int.reduceNe, Int.reduceBEq, Int.reduceToNat, ↓reduceIte], h99, r9, by simp -implicitDefEqProofs only [go_sem, Nat.reduceEqDiff, Nat.reduceLT, Nat.reduceAdd, Nat.reduceMul, Int.reduceEq, Int.reduceLT, Int.reduceLE, Int.reduceNe, Int.reduceBEq, Int.reduceToNat, ↓reduceIte], n99, o9, f9', s9⟩
        · have c1 : decide ((d : Int) < 8) = false := decide_eq_false (by omega)
          have h8 : (le8 (un x.i)).take d = le8 (un x.i) := List.take_of_length_le (by rw [le8_len]; omega)
          rw [h8] at o6
          simp -implicitDefEqProofs only [go_sem, Nat.reduceEqDiff, Nat.reduceLT, Nat.reduceAdd, Nat.reduceMul, Int.reduceEq, Int.reduceLT, Int.reduceLE, Int.reduceNe, Int.reduceBEq, Int.reduceToNat, ↓reduceIte, f7, f9, f19, f20, f21, f45, c1, d2]
          have ho := o6
          rw [List.cons_append, ← he, ← hbk, ← hmk] at ho
          exact ⟨m - 1, by omega, k + 1, by omega, by simp -implicitDefEqProofs only [go_sem, Nat.reduceEqDiff, Nat.reduceLT, Nat.reduceAdd, Nat.reduceMul, Int.reduceEq, Int.reduceLT, Int.reduceLE, Int.reduceNe, Int.reduceBEq, Int.reduceToNat, ↓reduceIte, f19]; rw [ea'], by simp -implicitDefEqProofs only [go_sem, Nat.reduceEqDiff, Nat.reduceLT, Nat.reduceAdd, Nat.reduceMul, Int.reduceEq, Int.reduceLT, Int.reduceLE, Int.reduceNe, Int.reduceBEq, Int.reduceToNat, ↓reduceIte, f20], by simp -implicitDefEqProofs only [go_sem, Nat.reduceEqDiff, Nat.reduceLT, Nat.reduceAdd, Nat.reduceMul, Int.reduceEq, Int.reduceLT, Int.reduceLE, Int.reduceNe, Int.reduceBEq, Int.reduceToNat, ↓reduceIte], s6, by simp -implicitDefEqProofs only [go_sem, Nat.reduceEqDiff, Nat.reduceLT, Nat.reduceAdd, Nat.reduceMul, Int.reduceEq, Int.reduceLT, Int.reduceLE, Int.reduceNe, Int.reduceBEq, Int.reduceToNat, ↓reduceIte, f7], ho, hf6, hs6⟩
      have e1 : decide ((x.k : Int) = 1) = false := decide_eq_false (by omega)
      by_cases k2 : x.k = 2
      · have e2 : decide ((x.k : Int) = 2) = true := decide_eq_true (by omega)
        have he : encv x = UInt8.ofNat x.s.length :: x.s := by unfold encv; rw [if_neg k0, if_neg k1, if_pos k2]
        have h60 : x.s.length ≤ 60 := by
          unfold rightB at hr
          simp only [Bool.and_eq_true, decide_eq_true_eq] at hr
          exact hr.2.2.1
        have wl := u8_of x.s.length
        simp -implicitDefEqProofs only [go_sem, Nat.reduceEqDiff, Nat.reduceLT, Nat.reduceAdd, Nat.reduceMul, Int.reduceEq, Int.reduceLT, Int.reduceLE, Int.reduceNe, Int.reduceBEq, Int.reduceToNat, ↓reduceIte, q5, e0, e1, e2]
        refine vdraw_t [⟨0, .p, [], []⟩, ⟨1, .p, [], []⟩, ⟨2, .n, [], []⟩, ⟨3, .n, [], []⟩, ⟨4, .n, [], []⟩, ⟨7, .p, [], []⟩, ⟨8, .n, [], []⟩, ⟨5, .c, [8], []⟩, ⟨6, .c, [8], []⟩, ⟨9, .c, [], []⟩, ⟨10, .p, [], []⟩] [0, 0, 2, 6, 14, 30, 63, 0, 128, 511, 1023] mixed (by kernel_rfl) ?_
        simp -implicitDefEqProofs only [go_sem, Nat.reduceEqDiff, Nat.reduceLT, Nat.reduceAdd, Nat.reduceMul, Int.reduceEq, Int.reduceLT, Int.reduceLE, Int.reduceNe, Int.reduceBEq, Int.reduceToNat, ↓reduceIte, q5, f7, str_size, wl]
        refine newK_of ?_
        intro bx H6 hbx hnx hx6 sx gx
        have q6 := ld_own w0 (c := (vc x).toArray) (sx _ _ h5)
        simp -implicitDefEqProofs only [go_sem, Nat.reduceEqDiff, Nat.reduceLT, Nat.reduceAdd, Nat.reduceMul, Int.reduceEq, Int.reduceLT, Int.reduceLE, Int.reduceNe, Int.reduceBEq, Int.reduceToNat, ↓reduceIte, q6, f7]
        refine app_b (Hb := H1) (by simp -implicitDefEqProofs only [go_sem, Nat.reduceEqDiff, Nat.reduceLT, Nat.reduceAdd, Nat.reduceMul, Int.reduceEq, Int.reduceLT, Int.reduceLE, Int.reduceNe, Int.reduceBEq, Int.reduceToNat, ↓reduceIte, f7]) (hown5.sub sx) (by simp -implicitDefEqProofs only [go_sem, Nat.reduceEqDiff, Nat.reduceLT, Nat.reduceAdd, Nat.reduceMul, Int.reduceEq, Int.reduceLT, Int.reduceLE, Int.reduceNe, Int.reduceBEq, Int.reduceToNat, ↓reduceIte]) (Own.lit (p := [UInt8.ofNat x.s.length]) hx6 rfl).bt (by simp only [List.length_cons, List.length_nil]; omega) hf (hs5.trans sx) ?_
        intro r7 H7 o7 f7' s7 a7
        obtain ⟨h79, n79⟩ := App.keep a7 (sx _ _ h5) ns9
        have q7 := ld_own w0 (c := (vc x).toArray) h79
        simp -implicitDefEqProofs only [go_sem, Nat.reduceEqDiff, Nat.reduceLT, Nat.reduceAdd, Nat.reduceMul, Int.reduceEq, Int.reduceLT, Int.reduceLE, Int.reduceNe, Int.reduceBEq, Int.reduceToNat, ↓reduceIte, q7]
        refine app_s (Hb := H1) (q := x.s) (by simp -implicitDefEqProofs only [go_sem, Nat.reduceEqDiff, Nat.reduceLT, Nat.reduceAdd, Nat.reduceMul, Int.reduceEq, Int.reduceLT, Int.reduceLE, Int.reduceNe, Int.reduceBEq, Int.reduceToNat, ↓reduceIte]) o7 (by simp -implicitDefEqProofs only [go_sem, Nat.reduceEqDiff, Nat.reduceLT, Nat.reduceAdd, Nat.reduceMul, Int.reduceEq, Int.reduceLT, Int.reduceLE, Int.reduceNe, Int.reduceBEq, Int.reduceToNat, ↓reduceIte]) (by simp only [List.length_append, List.length_cons, List.length_nil]; omega) f7' s7 ?_
        intro rr H8 ho hf' hs' _
        rw [List.append_assoc, List.singleton_append] at ho
        simp -implicitDefEqProofs only [go_sem, Nat.reduceEqDiff, Nat.reduceLT, Nat.reduceAdd, Nat.reduceMul, Int.reduceEq, Int.reduceLT, Int.reduceLE, Int.reduceNe, Int.reduceBEq, Int.reduceToNat, ↓reduceIte, f21, d2]
        rw [List.cons_append, ← he, ← hbk, ← hmk] at ho
        exact ⟨m - 1, by omega, k + 1, by omega, by simp -implicitDefEqProofs only [go_sem, Nat.reduceEqDiff, Nat.reduceLT, Nat.reduceAdd, Nat.reduceMul, Int.reduceEq, Int.reduceLT, Int.reduceLE, Int.reduceNe, Int.reduceBEq, Int.reduceToNat, ↓reduceIte, f19]; rw [ea'], by simp -implicitDefEqProofs only [go_sem, Nat.reduceEqDiff, Nat.reduceLT, Nat.reduceAdd, Nat.reduceMul, Int.reduceEq, Int.reduceLT, Int.reduceLE, Int.reduceNe, Int.reduceBEq, Int.reduceToNat, ↓reduceIte, f20], by simp -implicitDefEqProofs only [go_sem, Nat.reduceEqDiff, Nat.reduceLT, Nat.reduceAdd, Nat.reduceMul, Int.reduceEq, Int.reduceLT, Int.reduceLE, Int.reduceNe, Int.reduceBEq, Int.reduceToNat, ↓reduceIte], rr, by simp -implicitDefEqProofs only [go_sem, Nat.reduceEqDiff, Nat.reduceLT, Nat.reduceAdd, Nat.reduceMul, Int.reduceEq, Int.reduceLT, Int.reduceLE, Int.reduceNe, Int.reduceBEq, Int.reduceToNat, ↓reduceIte], ho, hf', hs'⟩
      have e2 : decide ((x.k : Int) = 2) = false := decide_eq_false (by omega)
      cases eb : x.b with
      | true =>
        have he : encv x = [1] := by unfold encv; rw [if_neg k0, if_neg k1, if_neg k2, if_pos eb]
        simp -implicitDefEqProofs only [go_sem, Nat.reduceEqDiff, Nat.reduceLT, Nat.reduceAdd, Nat.reduceMul, Int.reduceEq, Int.reduceLT, Int.reduceLE, Int.reduceNe, Int.reduceBEq, Int.reduceToNat, ↓reduceIte, q5, e0, e1, e2, eb]
        refine newK_of ?_
        intro bx H6 hbx hnx hx6 sx gx
        simp -implicitDefEqProofs only [go_sem, Nat.reduceEqDiff, Nat.reduceLT, Nat.reduceAdd, Nat.reduceMul, Int.reduceEq, Int.reduceLT, Int.reduceLE, Int.reduceNe, Int.reduceBEq, Int.reduceToNat, ↓reduceIte, f7]
        refine app_b (Hb := H1) (by simp -implicitDefEqProofs only [go_sem, Nat.reduceEqDiff, Nat.reduceLT, Nat.reduceAdd, Nat.reduceMul, Int.reduceEq, Int.reduceLT, Int.reduceLE, Int.reduceNe, Int.reduceBEq, Int.reduceToNat, ↓reduceIte, f7]) (hown5.sub sx) (by simp -implicitDefEqProofs only [go_sem, Nat.reduceEqDiff, Nat.reduceLT, Nat.reduceAdd, Nat.reduceMul, Int.reduceEq, Int.reduceLT, Int.reduceLE, Int.reduceNe, Int.reduceBEq, Int.reduceToNat, ↓reduceIte]) (Own.lit (p := [1]) hx6 rfl).bt (by simp only [List.length_cons, List.length_nil]; omega) hf (hs5.trans sx) ?_
        intro rr H8 ho hf' hs' _
        simp -implicitDefEqProofs only [go_sem, Nat.reduceEqDiff, Nat.reduceLT, Nat.reduceAdd, Nat.reduceMul, Int.reduceEq, Int.reduceLT, Int.reduceLE, Int.reduceNe, Int.reduceBEq, Int.reduceToNat, ↓reduceIte, f21, d2]
        rw [List.cons_append, ← he, ← hbk, ← hmk] at ho
        exact ⟨m - 1, by omega, k + 1, by omega, by simp -implicitDefEqProofs only [go_sem, Nat.reduceEqDiff, Nat.reduceLT, Nat.reduceAdd, Nat.reduceMul, Int.reduceEq, Int.reduceLT, Int.reduceLE, Int.reduceNe, Int.reduceBEq, Int.reduceToNat, ↓reduceIte, f19]; rw [ea'], by simp -implicitDefEqProofs only [go_sem, Nat.reduceEqDiff, Nat.reduceLT, Nat.reduceAdd, Nat.reduceMul, Int.reduceEq, Int.reduceLT, Int.reduceLE, Int.reduceNe, Int.reduceBEq, Int.reduceToNat, ↓reduceIte, f20], by simp -implicitDefEqProofs only [go_sem, Nat.reduceEqDiff, Nat.reduceLT, Nat.reduceAdd, Nat.reduceMul, Int.reduceEq, Int.reduceLT, Int.reduceLE, Int.reduceNe, Int.reduceBEq, Int.reduceToNat, ↓reduceIte], rr, by simp -implicitDefEqProofs only [go_sem, Nat.reduceEqDiff, Nat.reduceLT, Nat.reduceAdd, Nat.reduceMul, Int.reduceEq, Int.reduceLT, Int.reduceLE, Int.reduceNe, Int.reduceBEq, Int.reduceToNat, ↓reduceIte], ho, hf', hs'⟩
      | false =>
        have he : encv x = [0] := by unfold encv; rw [if_neg k0, if_neg k1, if_neg k2, if_neg (by rw [eb]; simp)]
        simp -implicitDefEqProofs only [go_sem, Nat.reduceEqDiff, Nat.reduceLT, Nat.reduceAdd, Nat.reduceMul, Int.reduceEq, Int.reduceLT, Int.reduceLE, Int.reduceNe, Int.reduceBEq, Int.reduceToNat, ↓reduceIte, q5, e0, e1, e2, eb]
        refine newK_of ?_
        intro bx H6 hbx hnx hx6 sx gx
        simp -implicitDefEqProofs only [go_sem, Nat.reduceEqDiff, Nat.reduceLT, Nat.reduceAdd, Nat.reduceMul, Int.reduceEq, Int.reduceLT, Int.reduceLE, Int.reduceNe, Int.reduceBEq, Int.reduceToNat, ↓reduceIte, f7]
        refine app_b (Hb := H1) (by simp -implicitDefEqProofs only [go_sem, Nat.reduceEqDiff, Nat.reduceLT, Nat.reduceAdd, Nat.reduceMul, Int.reduceEq, Int.reduceLT, Int.reduceLE, Int.reduceNe, Int.reduceBEq, Int.reduceToNat, ↓reduceIte, f7]) (hown5.sub sx) (by simp -implicitDefEqProofs only [go_sem, Nat.reduceEqDiff, Nat.reduceLT, Nat.reduceAdd, Nat.reduceMul, Int.reduceEq, Int.reduceLT, Int.reduceLE, Int.reduceNe, Int.reduceBEq, Int.reduceToNat, ↓reduceIte]) (Own.lit (p := [0]) hx6 rfl).bt (by simp only [List.length_cons, List.length_nil]; omega) hf (hs5.trans sx) ?_
        intro rr H8 ho hf' hs' _
        simp -implicitDefEqProofs only [go_sem, Nat.reduceEqDiff, Nat.reduceLT, Nat.reduceAdd, Nat.reduceMul, Int.reduceEq, Int.reduceLT, Int.reduceLE, Int.reduceNe, Int.reduceBEq, Int.reduceToNat, ↓reduceIte, f21, d2]
        rw [List.cons_append, ← he, ← hbk, ← hmk] at ho
        exact ⟨m - 1, by omega, k + 1, by omega, by simp -implicitDefEqProofs only [go_sem, Nat.reduceEqDiff, Nat.reduceLT, Nat.reduceAdd, Nat.reduceMul, Int.reduceEq, Int.reduceLT, Int.reduceLE, Int.reduceNe, Int.reduceBEq, Int.reduceToNat, ↓reduceIte, f19]; rw [ea'], by simp -implicitDefEqProofs only [go_sem, Nat.reduceEqDiff, Nat.reduceLT, Nat.reduceAdd, Nat.reduceMul, Int.reduceEq, Int.reduceLT, Int.reduceLE, Int.reduceNe, Int.reduceBEq, Int.reduceToNat, ↓reduceIte, f20], by simp -implicitDefEqProofs only [go_sem, Nat.reduceEqDiff, Nat.reduceLT, Nat.reduceAdd, Nat.reduceMul, Int.reduceEq, Int.reduceLT, Int.reduceLE, Int.reduceNe, Int.reduceBEq, Int.reduceToNat, ↓reduceIte], rr, by simp -implicitDefEqProofs only [go_sem, Nat.reduceEqDiff, Nat.reduceLT, Nat.reduceAdd, Nat.reduceMul, Int.reduceEq, Int.reduceLT, Int.reduceLE, Int.reduceNe, Int.reduceBEq, Int.reduceToNat, ↓reduceIte], ho, hf', hs'⟩
    · have d1 : decide ((k : Int) < (l.length : Int)) = false := decide_eq_false (by omega)
      have htk : l.take k = l := List.take_of_length_le (by omega)
      rw [htk] at hown
      simp -implicitDefEqProofs only [go_sem, Nat.reduceEqDiff, Nat.reduceLT, Nat.reduceAdd, Nat.reduceMul, Int.reduceEq, Int.reduceLT, Int.reduceLE, Int.reduceNe, Int.reduceBEq, Int.reduceToNat, ↓reduceIte, f7, f19, f20, f21, d1]
      exact ⟨hs, .inl ⟨hf0, s, rfl, hown, hf⟩⟩
  · have d0 : decide ((fitN ks l : Int) = 0) = false := decide_eq_false (by omega)
    simp -implicitDefEqProofs only [go_sem, Nat.reduceEqDiff, Nat.reduceLT, Nat.reduceAdd, Nat.reduceMul, Int.reduceEq, Int.reduceLT, Int.reduceLE, Int.reduceNe, Int.reduceBEq, Int.reduceToNat, ↓reduceIte, d0]
    exact ⟨Sub.refl _, .inr ⟨hf0, rfl⟩⟩
theorem awake4_ok (ht : Tbl w0) : ACalls Tryd.prog w0 31 #[] H fun r H' => r = .bool true ∧ H' = H := by
  refine ACalls.quiet ?_
  refine acalls_of Tryd.func31 rfl Tryd.ntmps31 r31 (by simp) ?_
  simp -implicitDefEqProofs only [go_sem, Nat.reduceEqDiff, Nat.reduceLT, Nat.reduceAdd, Nat.reduceMul, Int.reduceEq, Int.reduceLT, Int.reduceLE, Int.reduceNe, Int.reduceBEq, Int.reduceToNat, ↓reduceIte]
  refine newK_of ?_
  intro b1 H1 hb1 hn1 h1 s1 g1
  simp -implicitDefEqProofs only [go_sem, Nat.reduceEqDiff, Nat.reduceLT, Nat.reduceAdd, Nat.reduceMul, Int.reduceEq, Int.reduceLT, Int.reduceLE, Int.reduceNe, Int.reduceBEq, Int.reduceToNat, ↓reduceIte, bsx]
  refine newK_of ?_
  intro b2 H2 hb2 hn2 h2 s2 g2
  have ok1 : OwnK H1 (.slice (some ⟨b1, 0, none⟩) 2 2) [1, 2] := OwnK.lit (p := [1, 2]) h1 rfl
  simp -implicitDefEqProofs only [go_sem, Nat.reduceEqDiff, Nat.reduceLT, Nat.reduceAdd, Nat.reduceMul, Int.reduceEq, Int.reduceLT, Int.reduceLE, Int.reduceNe, Int.reduceBEq, Int.reduceToNat, ↓reduceIte]
  refine (wbytes_ok (ks := [1, 2]) (l := [xi1, xa]) ht (ok1.sub s2).bt (Vs.lit h2 rfl) (by decide) (by decide) (by simp [xi1, xa, Va.wf])).mono ?_
  rintro r H3 ⟨s3, h | h⟩
  · obtain ⟨_, p, rfl, hown, hf⟩ := h
    simp -implicitDefEqProofs only [go_sem, Nat.reduceEqDiff, Nat.reduceLT, Nat.reduceAdd, Nat.reduceMul, Int.reduceEq, Int.reduceLT, Int.reduceLE, Int.reduceNe, Int.reduceBEq, Int.reduceToNat, ↓reduceIte]
    refine aop_makeSlice (n := 2) Tryd.underlying28 s36 b36 z36 rfl rfl (by decide) (by decide) ?_
    refine newK_of ?_
    intro b4 H4 hb4 hn4 h4 s4' g4
    have h4' : H4 b4 = some (.cells ([xn, xn].flatMap vc).toArray 36 (0, 0)) := by rw [← zr2]; exact h4
    simp -implicitDefEqProofs only [go_sem, Nat.reduceEqDiff, Nat.reduceLT, Nat.reduceAdd, Nat.reduceMul, Int.reduceEq, Int.reduceLT, Int.reduceLE, Int.reduceNe, Int.reduceBEq, Int.reduceToNat, ↓reduceIte]
    refine (wbytes_ok (ks := [1, 2]) (l := [xn, xn]) ht (((ok1.sub s2).sub s3).sub s4').bt (Vs.lit h4' rfl) (by decide) (by decide) (by simp [xn, Va.wf])).mono ?_
    rintro r H5 ⟨t5, h | h⟩
    · obtain ⟨_, q, rfl, hown5, hf5⟩ := h
      have e1 : encW [xi1, xa] = [0, 1, 0, 0, 0, 0, 0, 0, 0, 1, 97] := by decide +kernel
      have e2 : encW [xn, xn] = [3] := by decide +kernel
      rw [e1] at hown
      rw [e2] at hown5
      simp -implicitDefEqProofs only [go_sem, Nat.reduceEqDiff, Nat.reduceLT, Nat.reduceAdd, Nat.reduceMul, Int.reduceEq, Int.reduceLT, Int.reduceLE, Int.reduceNe, Int.reduceBEq, Int.reduceToNat, ↓reduceIte, bse]
      refine newK_of ?_
      intro b6 H6 hb6 hn6 h6 s6 g6
      simp -implicitDefEqProofs only [go_sem, Nat.reduceEqDiff, Nat.reduceLT, Nat.reduceAdd, Nat.reduceMul, Int.reduceEq, Int.reduceLT, Int.reduceLE, Int.reduceNe, Int.reduceBEq, Int.reduceToNat, ↓reduceIte]
      refine (same_ok (((hown.sub s4').sub t5).sub s6).bt (Own.lit (p := [0, 1, 0, 0, 0, 0, 0, 0, 0, 1, 97]) h6 rfl).bt).mono ?_
      rintro r H7 ⟨rfl, rfl⟩
      have c1 : (([0, 1, 0, 0, 0, 0, 0, 0, 0, 1, 97] : List UInt8) == [0, 1, 0, 0, 0, 0, 0, 0, 0, 1, 97]) = true := by decide
      simp -implicitDefEqProofs only [go_sem, Nat.reduceEqDiff, Nat.reduceLT, Nat.reduceAdd, Nat.reduceMul, Int.reduceEq, Int.reduceLT, Int.reduceLE, Int.reduceNe, Int.reduceBEq, Int.reduceToNat, ↓reduceIte, c1]
      refine newK_of ?_
      intro b8 H8 hb8 hn8 h8 s8 g8
      simp -implicitDefEqProofs only [go_sem, Nat.reduceEqDiff, Nat.reduceLT, Nat.reduceAdd, Nat.reduceMul, Int.reduceEq, Int.reduceLT, Int.reduceLE, Int.reduceNe, Int.reduceBEq, Int.reduceToNat, ↓reduceIte]
      refine (same_ok ((hown5.sub s6).sub s8).bt (Own.lit (p := [3]) h8 rfl).bt).mono ?_
      rintro r H9 ⟨rfl, rfl⟩
      have c2 : (([3] : List UInt8) == [3]) = true := by decide
      simp -implicitDefEqProofs only [go_sem, Nat.reduceEqDiff, Nat.reduceLT, Nat.reduceAdd, Nat.reduceMul, Int.reduceEq, Int.reduceLT, Int.reduceLE, Int.reduceNe, Int.reduceBEq, Int.reduceToNat, ↓reduceIte, c2]
      first | exact s1.trans (s2.trans (s3.trans (s4'.trans (t5.trans (s6.trans s8))))) | exact ⟨rfl, s1.trans (s2.trans (s3.trans (s4'.trans (t5.trans (s6.trans s8)))))⟩
    · exact absurd (by decide +kernel) h.1
  · exact absurd (by decide +kernel) h.1
end
end Go.Proofs.YtoolnkemkhianaaDoor
