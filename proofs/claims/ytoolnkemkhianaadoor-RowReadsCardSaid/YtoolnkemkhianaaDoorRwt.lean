/-
  row.Read, walked.
  Conditions: as each theorem states them.
-/
import Derived.Test.YtoolnkemkhianaaDoorRwr
namespace Go.Proofs.YtoolnkemkhianaaDoor
open Go Go.RowKit Go.Proofs.YtoolnkemkhianaaDoorW
set_option maxRecDepth 100000
set_option maxHeartbeats 1000000
set_option linter.unusedSimpArgs false
set_option linter.unusedVariables false
theorem bsv9 (x : Va) : bsCells Tryd.prog 36 1 #[(0, va x)] = some (vc x).toArray := by kernel_rfl
attribute [go_sem] bsv9
theorem tkW_len {k : UInt8} {p q : List UInt8} {v : Va} (h : tkW k p = some (v, q)) : q.length ≤ p.length := by
  unfold tkW at h
  by_cases k1 : k.toNat = 1
  · rw [if_pos k1] at h
    split at h
    · cases h
    · cases h; rw [List.length_drop]; omega
  · rw [if_neg k1] at h
    cases p with
    | nil => cases h
    | cons b r =>
      simp only [] at h
      by_cases k2 : k.toNat = 2
      · rw [if_pos k2] at h
        split at h
        · cases h
        · split at h
          · cases h; rw [List.length_drop, List.length_cons]; omega
          · cases h
      · rw [if_neg k2] at h
        split at h
        · cases h; rw [List.length_cons]; omega
        · cases h
theorem rwd_at {ks : List UInt8} {i : Nat} {k : UInt8} (h : ks[i]? = some k) (n : Nat) (p : List UInt8) : rwd (ks.drop i) n p = if n % 2 = 1 then (rwd (ks.drop (i + 1)) (n / 2) p).map (⟨0, 0, [], false⟩ :: ·) else match tkW k p with
    | none => none
    | some (v, r) => (rwd (ks.drop (i + 1)) (n / 2) r).map (v :: ·) := by
  have hlt := (List.getElem?_eq_some_iff.1 h).1
  rw [List.drop_eq_getElem_cons hlt]
  rw [List.getElem?_eq_getElem hlt] at h
  rw [Option.some.inj h]
  rfl
theorem rightK_at {ks : List UInt8} (h : rightK ks = true) : 1 ≤ ks.length ∧ ks.length ≤ 8 ∧ ∀ (i : Nat) (k : UInt8), ks[i]? = some k → kindOk k = true := by
  unfold rightK at h
  simp only [Bool.and_eq_true, decide_eq_true_eq] at h
  exact ⟨h.1, h.2.1, fun i k hk => List.all_eq_true.1 h.2.2 k (List.mem_of_getElem? hk)⟩
theorem nul_law0 : ∀ n : Fin 256, ∀ i : Fin 8, andI .u8 ((n.val : Int).fdiv (2 ^ min i.val 8)) 1 = ((n.val / 2 ^ i.val % 2 : Nat) : Int) := by decide +kernel
theorem nul_law {n i : Nat} (hn : n < 256) (hi : i < 8) : andI .u8 ((n : Int).fdiv (2 ^ min i 8)) 1 = ((n / 2 ^ i % 2 : Nat) : Int) := nul_law0 ⟨n, hn⟩ ⟨i, hi⟩
theorem shr_len {h k : Nat} (hk : k ≤ 8) : (h : Int).fdiv (2 ^ min k 64) = ((h / 2 ^ k : Nat) : Int) := by
  rw [Nat.min_eq_left (by omega), show (2 : Int) ^ k = ((2 ^ k : Nat) : Int) from (Int.natCast_pow 2 k).symm, fdiv_nat]
theorem rdW_at {ks p : List UInt8} {h : UInt8} (hb : p[0]? = some h) : rdW ks p = if 200 < p.length then none else rwd ks h.toNat (p.drop 1) := by
  cases p with
  | nil => cases hb
  | cons b r => cases hb; rfl
theorem rdW_no {ks p : List UInt8} (h : p.length = 0) : rdW ks p = none := by rw [List.eq_nil_of_length_eq_zero h]; rfl
theorem map_snoc (o : Option (List Va)) (done : List Va) (x : Va) : (o.map (x :: ·)).map (done ++ ·) = o.map ((done ++ [x]) ++ ·) := by cases o <;> simp
/-- What a reading of a row of kinds gives: an error and values. -/
def rdR (ks p : List UInt8) : Nat × List Va := if rightK ks = false then (1, []) else match rdW ks p with
  | some l => (0, l)
  | none => (3, [])
def RwQ (w0 : World) (H : Hp) (ks p : List UInt8) (r : Value) (H' : Hp) : Prop :=
  Sub H H' ∧ ∃ s, r = .tuple #[s, .int .i64 ((rdR ks p).1 : Int)] ∧ OwnV H' s (rdR ks p).2
/-- A call that leaves memory as it was, seen from a greater heap. -/
theorem ACalls.from0 {P : Program} {w0 : World} {f : FuncId} {args : Array Value} {H0 H1 : Hp} {A : Value → Prop} (hs : Sub H0 H1) (h : ACalls P w0 f args H0 fun r H' => A r ∧ H' = H0) : ACalls P w0 f args H1 fun r H' => A r ∧ H' = H1 := by
  obtain ⟨R, hR⟩ : ∃ R : Hp, R = fun b => match H0 b with | some _ => none | none => H1 b := ⟨_, rfl⟩
  have hj : H0.join R = H1 := by
    funext b
    cases hb : H0 b with
    | some o => rw [Hp.join_left hb, hs b o hb]
    | none => rw [Hp.join_right hb, hR]; simp only [hb]
  have hd : H0.disj R := fun b => by
    cases hb : H0 b with
    | none => exact .inl rfl
    | some o => right; rw [hR]; simp only [hb]
  have := ACalls.frame h hd
  rw [hj] at this
  refine this.mono ?_
  rintro r H'' ⟨H', rfl, _, ha, rfl⟩
  exact ⟨ha, hj⟩
section
variable {w0 : World} {H Hb : Hp}
theorem RwQ.one {H' : Hp} {ks p : List UInt8} (hs : Sub H H') (h : rightK ks = false) : RwQ w0 H ks p (.tuple #[.slice none 0 0, .int .i64 1]) H' := by
  have e : rdR ks p = (1, []) := by unfold rdR; rw [if_pos h]
  unfold RwQ
  rw [e]
  exact ⟨hs, _, rfl, Row.nil _ _ _⟩
theorem RwQ.bad {H' : Hp} {ks p : List UInt8} (hs : Sub H H') (h : rightK ks = true) (hr : rdW ks p = none) : RwQ w0 H ks p (.tuple #[.slice none 0 0, .int .i64 3]) H' := by
  have e : rdR ks p = (3, []) := by unfold rdR; rw [if_neg (by rw [h]; simp), hr]
  unfold RwQ
  rw [e]
  exact ⟨hs, _, rfl, Row.nil _ _ _⟩
theorem RwQ.good {H' : Hp} {ks p : List UInt8} {l : List Va} {s : Value} (hs : Sub H H') (h : rightK ks = true) (hr : rdW ks p = some l) (ho : OwnV H' s l) : RwQ w0 H ks p (.tuple #[s, .int .i64 0]) H' := by
  have e : rdR ks p = (0, l) := by unfold rdR; rw [if_neg (by rw [h]; simp), hr]
  unfold RwQ
  rw [e]
  exact ⟨hs, _, rfl, ho⟩
def RwI (w0 : World) (H0 : Hp) (kv : Value) (ks t : List UInt8) (n : Nat) (m : Nat) (F : Fr) (H : Hp) : Prop :=
  ∃ i, i + m = ks.length ∧ F 39 = kv ∧ F 40 = .int .i64 (ks.length : Int) ∧ F 41 = .int .i64 (i : Int) ∧ F 6 = .int .u8 (n : Int) ∧ ∃ (rest : List UInt8) (v s : Value) (done : List Va), F 7 = v ∧ F 8 = s ∧ Bt w0 H0 v rest ∧ OwnV H s done ∧ Fsh w0 H0 s ∧ Sub H0 H ∧ done.length = i ∧ rest.length ≤ 200 ∧ (rwd (ks.drop i) (n / 2 ^ i) rest).map (done ++ ·) = rwd ks n t
theorem wread_ok {kv u : Value} {ks p : List UInt8} (ht : Tbl w0) (hkv : Bt w0 H kv ks) (hp : Bt w0 H u p) (hn : ks.length < 1000000000) : ACalls Tryd.prog w0 36 #[kv, u] H (RwQ w0 H ks p) := by
  obtain ⟨ka, kc, ek, hkc⟩ := Rd.slice hkv
  subst ek
  obtain ⟨pa, pc, eu, hpc⟩ := Rd.slice hp
  subst eu
  refine acalls_of Tryd.func36 rfl Tryd.ntmps36 r36 (by simp) ?_
  simp -implicitDefEqProofs only [go_sem, Nat.reduceEqDiff, Nat.reduceLT, Nat.reduceAdd, Nat.reduceMul, Int.reduceEq, Int.reduceLT, Int.reduceLE, Int.reduceNe, Int.reduceBEq, Int.reduceToNat, ↓reduceIte]
  refine (kright_ok hkv hn).mono ?_
  rintro r H1 ⟨rfl, rfl⟩
  cases hrk : rightK ks with
  | false =>
    simp -implicitDefEqProofs only [go_sem, Nat.reduceEqDiff, Nat.reduceLT, Nat.reduceAdd, Nat.reduceMul, Int.reduceEq, Int.reduceLT, Int.reduceLE, Int.reduceNe, Int.reduceBEq, Int.reduceToNat, ↓reduceIte]
    exact RwQ.one (Sub.refl _) hrk
  | true =>
  obtain ⟨hk1, hk8, hkk⟩ := rightK_at hrk
  rcases Nat.eq_zero_or_pos p.length with hz | hz
  · have dz : decide ((p.length : Int) = 0) = true := decide_eq_true (by omega)
    simp -implicitDefEqProofs only [go_sem, Nat.reduceEqDiff, Nat.reduceLT, Nat.reduceAdd, Nat.reduceMul, Int.reduceEq, Int.reduceLT, Int.reduceLE, Int.reduceNe, Int.reduceBEq, Int.reduceToNat, ↓reduceIte, dz]
    exact RwQ.bad (Sub.refl _) hrk (rdW_no hz)
  have dz : decide ((p.length : Int) = 0) = false := decide_eq_false (by omega)
  have dz' : decide ((0 : Int) < (p.length : Int)) = true := decide_eq_true (by omega)
  obtain ⟨h, hb⟩ : ∃ h, p[0]? = some h := ⟨_, List.getElem?_eq_getElem hz⟩
  have hb8 := UInt8.toNat_lt h
  obtain ⟨qa, qc, eq, lq⟩ := Rd.at1 hp (k := 0) (u8s_ix hb)
  have eqa : pa = some qa := by injection eq
  subst eqa
  have lq : ld w0 H1 qa = some (.int .u8 (h.toNat : Int)) := lq
  have er := rdW_at (ks := ks) hb
  by_cases c2 : 200 < p.length
  · have dl : decide ((200 : Int) < (p.length : Int)) = true := decide_eq_true (by omega)
    simp -implicitDefEqProofs only [go_sem, Nat.reduceEqDiff, Nat.reduceLT, Nat.reduceAdd, Nat.reduceMul, Int.reduceEq, Int.reduceLT, Int.reduceLE, Int.reduceNe, Int.reduceBEq, Int.reduceToNat, ↓reduceIte, dz, dl]
    exact RwQ.bad (Sub.refl _) hrk (by rw [er, if_pos c2])
  have dl : decide ((200 : Int) < (p.length : Int)) = false := decide_eq_false (by omega)
  rw [if_neg c2] at er
  have wc : IntKind.i64.wrap (h.toNat : Int) = (h.toNat : Int) := by rw [i64_in] <;> omega
  have dk0 : decide ((0 : Int) ≤ (ks.length : Int)) = true := decide_eq_true (by omega)
  have wb : IntKind.i64.bits = 64 := rfl
  obtain ⟨z, hzz⟩ : ∃ z, z = h.toNat / 2 ^ ks.length := ⟨_, rfl⟩
  have wsh := shr_len (h := h.toNat) hk8
  rw [← hzz] at wsh
  by_cases cz : z = 0
  · have dn : decide ((z : Int) = 0) = true := decide_eq_true (by omega)
    simp -implicitDefEqProofs only [go_sem, Nat.reduceEqDiff, Nat.reduceLT, Nat.reduceAdd, Nat.reduceMul, Int.reduceEq, Int.reduceLT, Int.reduceLE, Int.reduceNe, Int.reduceBEq, Int.reduceToNat, ↓reduceIte, dz, dz', dl, lq, wc, dk0, wb, wsh, dn]
    refine vdraw_t [⟨0, .p, [], []⟩, ⟨1, .p, [], []⟩, ⟨2, .n, [], []⟩, ⟨3, .p, [], []⟩, ⟨4, .n, [], []⟩, ⟨5, .p, [], []⟩, ⟨6, .p, [], []⟩] [0, 1, 3, 0, 8, 7, 63] mixed (by kernel_rfl) ?_
    simp -implicitDefEqProofs only [go_sem, Nat.reduceEqDiff, Nat.reduceLT, Nat.reduceAdd, Nat.reduceMul, Int.reduceEq, Int.reduceLT, Int.reduceLE, Int.reduceNe, Int.reduceBEq, Int.reduceToNat, ↓reduceIte, lq, dz']
    obtain ⟨a2, n2, c2', r2, e3, en2, hk2, hnc2, er2, hr2⟩ := Bt.low hp (k := 1) (by omega)
    have ea2 : a2 = some qa := by injection e3 with e; exact e.symm
    have ec2 : pc = c2' := by injection e3
    subst ea2 ec2 en2
    refine ⟨r2, ?_, ?_⟩
    · refine slice_lo (dst := none) (ty := 0) (pos := "") (after := #[]) (g := none) (a := some qa) (n := p.length) (c := pc) (l := 1) Tryd.underlying22 s5 (by simp -implicitDefEqProofs only [go_sem, Nat.reduceEqDiff, Nat.reduceLT, Nat.reduceAdd, Nat.reduceMul, Int.reduceEq, Int.reduceLT, Int.reduceLE, Int.reduceNe, Int.reduceBEq, Int.reduceToNat, ↓reduceIte]) rfl (by omega) ?_
      rw [er2]
      exact ⟨rfl, rfl⟩
    simp -implicitDefEqProofs only [go_sem, Nat.reduceEqDiff, Nat.reduceLT, Nat.reduceAdd, Nat.reduceMul, Int.reduceEq, Int.reduceLT, Int.reduceLE, Int.reduceNe, Int.reduceBEq, Int.reduceToNat, ↓reduceIte]
    refine AC.loopH (RwI w0 H1 (.slice ka ks.length kc) ks (p.drop 1) h.toNat) (n := ks.length) ⟨0, by omega, by simp -implicitDefEqProofs only [go_sem, Nat.reduceEqDiff, Nat.reduceLT, Nat.reduceAdd, Nat.reduceMul, Int.reduceEq, Int.reduceLT, Int.reduceLE, Int.reduceNe, Int.reduceBEq, Int.reduceToNat, ↓reduceIte], by simp -implicitDefEqProofs only [go_sem, Nat.reduceEqDiff, Nat.reduceLT, Nat.reduceAdd, Nat.reduceMul, Int.reduceEq, Int.reduceLT, Int.reduceLE, Int.reduceNe, Int.reduceBEq, Int.reduceToNat, ↓reduceIte], by simp -implicitDefEqProofs only [go_sem, Nat.reduceEqDiff, Nat.reduceLT, Nat.reduceAdd, Nat.reduceMul, Int.reduceEq, Int.reduceLT, Int.reduceLE, Int.reduceNe, Int.reduceBEq, Int.reduceToNat, ↓reduceIte] <;> rfl, by simp -implicitDefEqProofs only [go_sem, Nat.reduceEqDiff, Nat.reduceLT, Nat.reduceAdd, Nat.reduceMul, Int.reduceEq, Int.reduceLT, Int.reduceLE, Int.reduceNe, Int.reduceBEq, Int.reduceToNat, ↓reduceIte], p.drop 1, r2, .slice none 0 0, [], by simp -implicitDefEqProofs only [go_sem, Nat.reduceEqDiff, Nat.reduceLT, Nat.reduceAdd, Nat.reduceMul, Int.reduceEq, Int.reduceLT, Int.reduceLE, Int.reduceNe, Int.reduceBEq, Int.reduceToNat, ↓reduceIte], by simp -implicitDefEqProofs only [go_sem, Nat.reduceEqDiff, Nat.reduceLT, Nat.reduceAdd, Nat.reduceMul, Int.reduceEq, Int.reduceLT, Int.reduceLE, Int.reduceNe, Int.reduceBEq, Int.reduceToNat, ↓reduceIte], hr2, Row.nil _ _ _, fun b hb => (by simp [blk] at hb), Sub.refl _, rfl, by rw [List.length_drop]; omega, by simp⟩ ?_
    rintro m F H2 ⟨i, hi, f39, f40, f41, f6, rest, v, s, done, f7, f8, hbr, hov, hf, hs, hdl, hrl, hr⟩ hh
    obtain ⟨ra, rc, evr, hrc⟩ := Rd.slice hbr
    subst evr
    by_cases ci : i < ks.length
    · have d1 : decide ((i : Int) < (ks.length : Int)) = true := decide_eq_true (by omega)
      have d0 : decide ((0 : Int) ≤ (i : Int)) = true := decide_eq_true (by omega)
      have d2 : IntKind.i64.wrap ((i : Int) + 1) = (i + 1 : Nat) := by rw [i64_in] <;> omega
      obtain ⟨k, hk⟩ : ∃ k, ks[i]? = some k := ⟨_, List.getElem?_eq_getElem ci⟩
      obtain ⟨a, c, ea, la⟩ := Rd.at1 (hkv.sub hs hh) (u8s_ix hk)
      have ea' : ka = some a := by injection ea
      rw [ea'] at f39
      have hat := rwd_at hk (h.toNat / 2 ^ i) rest
      have hdiv : h.toNat / 2 ^ i / 2 = h.toNat / 2 ^ (i + 1) := by rw [Nat.div_div_eq_div_mul, ← Nat.pow_succ]
      rw [hdiv] at hat
      have nl := nul_law (n := h.toNat) (i := i) hb8 (by omega)
      have wb8 : IntKind.u8.bits = 8 := rfl
      simp -implicitDefEqProofs only [go_sem, Nat.reduceEqDiff, Nat.reduceLT, Nat.reduceAdd, Nat.reduceMul, Int.reduceEq, Int.reduceLT, Int.reduceLE, Int.reduceNe, Int.reduceBEq, Int.reduceToNat, ↓reduceIte, f6, f7, f8, f39, f40, f41, d0, d1, la]
      refine newK_of ?_
      intro b3 H3 hb3 hn3 h3 s3 g3
      simp -implicitDefEqProofs only [go_sem, Nat.reduceEqDiff, Nat.reduceLT, Nat.reduceAdd, Nat.reduceMul, Int.reduceEq, Int.reduceLT, Int.reduceLE, Int.reduceNe, Int.reduceBEq, Int.reduceToNat, ↓reduceIte]
      refine store_all (cs := (vc ⟨0, 0, [], false⟩).toArray) h3 rfl rfl s36 ?_
      intro H4 h4 g4
      have t4' : Sub H2 H4 := Sub.ne2 hn3 g3 g4
      have l4 := ldc w0 (l := vc ⟨0, 0, [], false⟩) h4 4
      have st4 := hs.trans t4'
      have hov4 := hov.sub t4'
      rcases Nat.mod_two_eq_zero_or_one (h.toNat / 2 ^ i) with hbit | hbit
      · rw [if_neg (by omega)] at hat
        rw [hbit] at nl
        have nl' : andI .u8 ((h.toNat : Int).fdiv (2 ^ min i 8)) 1 = 0 := nl
        simp -implicitDefEqProofs only [go_sem, Nat.reduceEqDiff, Nat.reduceLT, Nat.reduceAdd, Nat.reduceMul, Int.reduceEq, Int.reduceLT, Int.reduceLE, Int.reduceNe, Int.reduceBEq, Int.reduceToNat, ↓reduceIte, f6, f7, f8, d0, wb8, nl']
        refine (ACalls.from0 st4 (rtake_ok ht hbr (hkk i k hk) (by omega))).mono ?_
        rintro r H5 ⟨hq, rfl⟩
        unfold TwQ at hq
        cases hkt : tkW k rest with
        | none =>
          rw [hkt] at hq hat
          obtain ⟨y, s', rfl⟩ := hq
          rw [hat] at hr
          simp -implicitDefEqProofs only [go_sem, Nat.reduceEqDiff, Nat.reduceLT, Nat.reduceAdd, Nat.reduceMul, Int.reduceEq, Int.reduceLT, Int.reduceLE, Int.reduceNe, Int.reduceBEq, Int.reduceToNat, ↓reduceIte]
          refine store_all (cs := (vc y).toArray) h4 rfl rfl s36 ?_
          intro H6 h6 g6
          simp -implicitDefEqProofs only [go_sem, Nat.reduceEqDiff, Nat.reduceLT, Nat.reduceAdd, Nat.reduceMul, Int.reduceEq, Int.reduceLT, Int.reduceLE, Int.reduceNe, Int.reduceBEq, Int.reduceToNat, ↓reduceIte]
          refine RwQ.bad ?_ hrk (by rw [er, ← hr]; rfl)
          exact hs.trans fun j o hj => (g6 j (fun e => by rw [e, hn3] at hj; cases hj)).trans (t4' _ _ hj)
        | some zz =>
          obtain ⟨x, q⟩ := zz
          have hql := tkW_len hkt
          rw [hkt] at hq hat
          obtain ⟨s', rfl, hbq⟩ := hq
          simp only [] at hat
          rw [hat, map_snoc] at hr
          simp -implicitDefEqProofs only [go_sem, Nat.reduceEqDiff, Nat.reduceLT, Nat.reduceAdd, Nat.reduceMul, Int.reduceEq, Int.reduceLT, Int.reduceLE, Int.reduceNe, Int.reduceBEq, Int.reduceToNat, ↓reduceIte]
          refine store_all (cs := (vc x).toArray) h4 rfl rfl s36 ?_
          intro H6 h6 g6
          have tx : Sub H2 H6 := fun j o hj => (g6 j (fun e => by rw [e, hn3] at hj; cases hj)).trans (t4' _ _ hj)
          have lx := ldc w0 (l := vc x) h6 4
          have stx := hs.trans tx
          have hox := hov.sub tx
          simp -implicitDefEqProofs only [go_sem, Nat.reduceEqDiff, Nat.reduceLT, Nat.reduceAdd, Nat.reduceMul, Int.reduceEq, Int.reduceLT, Int.reduceLE, Int.reduceNe, Int.reduceBEq, Int.reduceToNat, ↓reduceIte, f8, lx]
          refine newK_of ?_
          intro bx H6 hbx hnx hx sx gx
          have hone : H6 bx = some (.cells ([x].flatMap vc).toArray 36 (0, 0)) := by rw [hx]; simp
          have hvs : Vs w0 H6 (.slice (some ⟨bx, 0, none⟩) 1 1) [x] := by
            refine .inr ⟨_, _, rfl, Nat.le_refl _, ?_⟩
            rw [ldCells_row hone 0 _ 0 (by simp [vc])]
            rfl
          simp -implicitDefEqProofs only [go_sem, Nat.reduceEqDiff, Nat.reduceLT, Nat.reduceAdd, Nat.reduceMul, Int.reduceEq, Int.reduceLT, Int.reduceLE, Int.reduceNe, Int.reduceBEq, Int.reduceToNat, ↓reduceIte, f8]
          refine app_v (Hb := H1) (by simp -implicitDefEqProofs only [go_sem, Nat.reduceEqDiff, Nat.reduceLT, Nat.reduceAdd, Nat.reduceMul, Int.reduceEq, Int.reduceLT, Int.reduceLE, Int.reduceNe, Int.reduceBEq, Int.reduceToNat, ↓reduceIte, f8]) (hox.sub sx) (by simp -implicitDefEqProofs only [go_sem, Nat.reduceEqDiff, Nat.reduceLT, Nat.reduceAdd, Nat.reduceMul, Int.reduceEq, Int.reduceLT, Int.reduceLE, Int.reduceNe, Int.reduceBEq, Int.reduceToNat, ↓reduceIte]) hvs (by simp; omega) hf (stx.trans sx) ?_
          intro r7 H7 o7 f7' s7 a7
          simp -implicitDefEqProofs only [go_sem, Nat.reduceEqDiff, Nat.reduceLT, Nat.reduceAdd, Nat.reduceMul, Int.reduceEq, Int.reduceLT, Int.reduceLE, Int.reduceNe, Int.reduceBEq, Int.reduceToNat, ↓reduceIte, f41, d2]
          exact ⟨m - 1, by omega, i + 1, by omega, by simp -implicitDefEqProofs only [go_sem, Nat.reduceEqDiff, Nat.reduceLT, Nat.reduceAdd, Nat.reduceMul, Int.reduceEq, Int.reduceLT, Int.reduceLE, Int.reduceNe, Int.reduceBEq, Int.reduceToNat, ↓reduceIte, f39]; rw [ea'], by simp -implicitDefEqProofs only [go_sem, Nat.reduceEqDiff, Nat.reduceLT, Nat.reduceAdd, Nat.reduceMul, Int.reduceEq, Int.reduceLT, Int.reduceLE, Int.reduceNe, Int.reduceBEq, Int.reduceToNat, ↓reduceIte, f40], by simp -implicitDefEqProofs only [go_sem, Nat.reduceEqDiff, Nat.reduceLT, Nat.reduceAdd, Nat.reduceMul, Int.reduceEq, Int.reduceLT, Int.reduceLE, Int.reduceNe, Int.reduceBEq, Int.reduceToNat, ↓reduceIte], by simp -implicitDefEqProofs only [go_sem, Nat.reduceEqDiff, Nat.reduceLT, Nat.reduceAdd, Nat.reduceMul, Int.reduceEq, Int.reduceLT, Int.reduceLE, Int.reduceNe, Int.reduceBEq, Int.reduceToNat, ↓reduceIte, f6], q, s', r7, done ++ [x], by simp -implicitDefEqProofs only [go_sem, Nat.reduceEqDiff, Nat.reduceLT, Nat.reduceAdd, Nat.reduceMul, Int.reduceEq, Int.reduceLT, Int.reduceLE, Int.reduceNe, Int.reduceBEq, Int.reduceToNat, ↓reduceIte], by simp -implicitDefEqProofs only [go_sem, Nat.reduceEqDiff, Nat.reduceLT, Nat.reduceAdd, Nat.reduceMul, Int.reduceEq, Int.reduceLT, Int.reduceLE, Int.reduceNe, Int.reduceBEq, Int.reduceToNat, ↓reduceIte], hbq, o7, f7', s7, by simp; omega, by omega, hr⟩
      · rw [if_pos hbit] at hat
        rw [hbit] at nl
        have nl' : andI .u8 ((h.toNat : Int).fdiv (2 ^ min i 8)) 1 = 1 := nl
        rw [hat, map_snoc] at hr
        have lx := l4
        have stx := st4
        have hox := hov4
        obtain ⟨x, hxe⟩ : ∃ x : Va, x = ⟨0, 0, [], false⟩ := ⟨_, rfl⟩
        rw [← hxe] at lx hr
        simp -implicitDefEqProofs only [go_sem, Nat.reduceEqDiff, Nat.reduceLT, Nat.reduceAdd, Nat.reduceMul, Int.reduceEq, Int.reduceLT, Int.reduceLE, Int.reduceNe, Int.reduceBEq, Int.reduceToNat, ↓reduceIte, f6, f7, f8, d0, wb8, nl']
        simp -implicitDefEqProofs only [go_sem, Nat.reduceEqDiff, Nat.reduceLT, Nat.reduceAdd, Nat.reduceMul, Int.reduceEq, Int.reduceLT, Int.reduceLE, Int.reduceNe, Int.reduceBEq, Int.reduceToNat, ↓reduceIte, f8, lx]
        refine newK_of ?_
        intro bx H6 hbx hnx hx sx gx
        have hone : H6 bx = some (.cells ([x].flatMap vc).toArray 36 (0, 0)) := by rw [hx]; simp
        have hvs : Vs w0 H6 (.slice (some ⟨bx, 0, none⟩) 1 1) [x] := by
          refine .inr ⟨_, _, rfl, Nat.le_refl _, ?_⟩
          rw [ldCells_row hone 0 _ 0 (by simp [vc])]
          rfl
        simp -implicitDefEqProofs only [go_sem, Nat.reduceEqDiff, Nat.reduceLT, Nat.reduceAdd, Nat.reduceMul, Int.reduceEq, Int.reduceLT, Int.reduceLE, Int.reduceNe, Int.reduceBEq, Int.reduceToNat, ↓reduceIte, f8]
        refine app_v (Hb := H1) (by simp -implicitDefEqProofs only [go_sem, Nat.reduceEqDiff, Nat.reduceLT, Nat.reduceAdd, Nat.reduceMul, Int.reduceEq, Int.reduceLT, Int.reduceLE, Int.reduceNe, Int.reduceBEq, Int.reduceToNat, ↓reduceIte, f8]) (hox.sub sx) (by simp -implicitDefEqProofs only [go_sem, Nat.reduceEqDiff, Nat.reduceLT, Nat.reduceAdd, Nat.reduceMul, Int.reduceEq, Int.reduceLT, Int.reduceLE, Int.reduceNe, Int.reduceBEq, Int.reduceToNat, ↓reduceIte]) hvs (by simp; omega) hf (stx.trans sx) ?_
        intro r7 H7 o7 f7' s7 a7
        simp -implicitDefEqProofs only [go_sem, Nat.reduceEqDiff, Nat.reduceLT, Nat.reduceAdd, Nat.reduceMul, Int.reduceEq, Int.reduceLT, Int.reduceLE, Int.reduceNe, Int.reduceBEq, Int.reduceToNat, ↓reduceIte, f41, d2]
        exact ⟨m - 1, by omega, i + 1, by omega, by simp -implicitDefEqProofs only [go_sem, Nat.reduceEqDiff, Nat.reduceLT, Nat.reduceAdd, Nat.reduceMul, Int.reduceEq, Int.reduceLT, Int.reduceLE, Int.reduceNe, Int.reduceBEq, Int.reduceToNat, ↓reduceIte, f39]; rw [ea'], by simp -implicitDefEqProofs only [go_sem, Nat.reduceEqDiff, Nat.reduceLT, Nat.reduceAdd, Nat.reduceMul, Int.reduceEq, Int.reduceLT, Int.reduceLE, Int.reduceNe, Int.reduceBEq, Int.reduceToNat, ↓reduceIte, f40], by simp -implicitDefEqProofs only [go_sem, Nat.reduceEqDiff, Nat.reduceLT, Nat.reduceAdd, Nat.reduceMul, Int.reduceEq, Int.reduceLT, Int.reduceLE, Int.reduceNe, Int.reduceBEq, Int.reduceToNat, ↓reduceIte], by simp -implicitDefEqProofs only [go_sem, Nat.reduceEqDiff, Nat.reduceLT, Nat.reduceAdd, Nat.reduceMul, Int.reduceEq, Int.reduceLT, Int.reduceLE, Int.reduceNe, Int.reduceBEq, Int.reduceToNat, ↓reduceIte, f6], rest, .slice ra rest.length rc, r7, done ++ [x], by simp -implicitDefEqProofs only [go_sem, Nat.reduceEqDiff, Nat.reduceLT, Nat.reduceAdd, Nat.reduceMul, Int.reduceEq, Int.reduceLT, Int.reduceLE, Int.reduceNe, Int.reduceBEq, Int.reduceToNat, ↓reduceIte, f7], by simp -implicitDefEqProofs only [go_sem, Nat.reduceEqDiff, Nat.reduceLT, Nat.reduceAdd, Nat.reduceMul, Int.reduceEq, Int.reduceLT, Int.reduceLE, Int.reduceNe, Int.reduceBEq, Int.reduceToNat, ↓reduceIte], hbr, o7, f7', s7, by simp; omega, hrl, hr⟩
    · have d1 : decide ((i : Int) < (ks.length : Int)) = false := decide_eq_false (by omega)
      have hil : i = ks.length := by omega
      have hnil : ks.drop i = [] := List.drop_eq_nil_of_le (by omega)
      have hz0 : h.toNat / 2 ^ i = 0 := by rw [hil, ← hzz]; exact cz
      rw [hnil, hz0] at hr
      cases rest with
      | nil =>
        have e0 : decide ((0 : Int) < (([] : List UInt8).length : Int)) = false := rfl
        have e0' : decide ((0 : Int) < 0) = false := rfl
        have e0'' : decide ((0 : Int) < ((0 : Nat) : Int)) = false := rfl
        simp -implicitDefEqProofs only [go_sem, Nat.reduceEqDiff, Nat.reduceLT, Nat.reduceAdd, Nat.reduceMul, Int.reduceEq, Int.reduceLT, Int.reduceLE, Int.reduceNe, Int.reduceBEq, Int.reduceToNat, ↓reduceIte, f7, f8, f40, f41, d1, e0, e0', e0'']
        refine RwQ.good hs hrk ?_ hov
        rw [er, ← hr]
        show some (done ++ []) = some done
        rw [List.append_nil]
      | cons b r =>
        have e0 : decide ((0 : Int) < ((b :: r).length : Int)) = true := decide_eq_true (by rw [List.length_cons]; omega)
        have e0' : decide ((0 : Int) < ((r.length + 1 : Nat) : Int)) = true := decide_eq_true (by omega)
        simp -implicitDefEqProofs only [go_sem, Nat.reduceEqDiff, Nat.reduceLT, Nat.reduceAdd, Nat.reduceMul, Int.reduceEq, Int.reduceLT, Int.reduceLE, Int.reduceNe, Int.reduceBEq, Int.reduceToNat, ↓reduceIte, f7, f8, f40, f41, d1, e0, e0']
        refine RwQ.bad hs hrk ?_
        rw [er, ← hr]
        rfl
  · have dn : decide ((z : Int) = 0) = false := decide_eq_false (by omega)
    simp -implicitDefEqProofs only [go_sem, Nat.reduceEqDiff, Nat.reduceLT, Nat.reduceAdd, Nat.reduceMul, Int.reduceEq, Int.reduceLT, Int.reduceLE, Int.reduceNe, Int.reduceBEq, Int.reduceToNat, ↓reduceIte, dz, dz', dl, lq, wc, dk0, wb, wsh, dn]
    exact RwQ.bad (Sub.refl _) hrk (by rw [er]; exact rw_high _ _ _ (by rw [← hzz]; exact cz))
end
end Go.Proofs.YtoolnkemkhianaaDoor
