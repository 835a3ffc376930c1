/-
  The document's reading of a row of kinds, walked.
  Conditions: as each theorem states them.
-/
import Derived.Test.YtoolnkemkhianaaDoorRwt
namespace Go.Proofs.YtoolnkemkhianaaDoor
open Go Go.RowKit Go.Proofs.YtoolnkemkhianaaDoorW
set_option maxRecDepth 100000
set_option maxHeartbeats 2000000
set_option linter.unusedSimpArgs false
set_option linter.unusedVariables false
theorem right0 : rightB ⟨0, 0, [], false⟩ = true := by decide +kernel
theorem right1 (i : Int) : rightB ⟨1, i, [], false⟩ = true := by rw [rightB_eq]; rfl
theorem right3 (b : Bool) : rightB ⟨3, 0, [], b⟩ = true := by rw [rightB_eq]; cases b <;> rfl
theorem le_step {l : List UInt8} {e : Nat} {b : UInt8} (h : l[e]? = some b) : leN (l.drop e) = leN (l.drop (e + 1)) * 256 + b.toNat := by
  have hlt := (List.getElem?_eq_some_iff.1 h).1
  rw [List.drop_eq_getElem_cons hlt]
  rw [List.getElem?_eq_getElem hlt] at h
  rw [Option.some.inj h]
  show b.toNat + 256 * leN (l.drop (e + 1)) = _
  omega
section
variable {w0 : World} {H Hb : Hp}
def RsI (w0 : World) (H0 : Hp) (kv : Value) (ks t : List UInt8) (n : Nat) (m : Nat) (F : Fr) (H : Hp) : Prop :=
  ∃ i, i + m = ks.length ∧ F 31 = kv ∧ F 32 = .int .i64 (ks.length : Int) ∧ F 33 = .int .i64 (i : Int) ∧ F 6 = .int .u8 ((n / 2 ^ i : Nat) : Int) ∧ ∃ (rest : List UInt8) (v s : Value) (done : List Va), F 1 = v ∧ F 7 = s ∧ Bt w0 H0 v rest ∧ OwnV H s done ∧ Fsh w0 H0 s ∧ Sub H0 H ∧ done.length = i ∧ rest.length ≤ 200 ∧ (rwd (ks.drop i) (n / 2 ^ i) rest).map (done ++ ·) = rwd ks n t
def RsJ (H0 : Hp) (kv v s : Value) (nk i M bx : Nat) (l : List UInt8) (m : Nat) (F : Fr) (H : Hp) : Prop :=
  m ≤ 8 ∧ F 31 = kv ∧ F 32 = .int .i64 (nk : Int) ∧ F 33 = .int .i64 (i : Int) ∧ F 6 = .int .u8 (M : Int) ∧ F 1 = v ∧ F 7 = s ∧ F 11 = .pointer (some ⟨bx, 0, none⟩) ∧ F 12 = .int .i64 8 ∧ F 13 = .int .u64 (leN (l.drop m) : Int) ∧ F 14 = .int .i64 ((m : Int) - 1) ∧ H0 = H
theorem brread_ok {kv u : Value} {ks p : List UInt8} (hkv : Bt w0 H kv ks) (hp : Bt w0 H u p) (hn : ks.length < 1000000000) : ACalls Tryd.prog w0 37 #[kv, u] H (RwQ w0 H ks p) := by
  obtain ⟨ka, kc, ek, hkc⟩ := Rd.slice hkv
  subst ek
  obtain ⟨pa, pc, eu, hpc⟩ := Rd.slice hp
  subst eu
  refine acalls_of Tryd.func37 rfl Tryd.ntmps37 r37 (by simp) ?_
  simp -implicitDefEqProofs only [go_sem, Nat.reduceEqDiff, Nat.reduceLT, Nat.reduceAdd, Nat.reduceMul, Int.reduceEq, Int.reduceLT, Int.reduceLE, Int.reduceNe, Int.reduceBEq, Int.reduceToNat, ↓reduceIte]
  refine (krright_ok hkv hn).mono ?_
  rintro r H1 ⟨rfl, rfl⟩
  cases hrk : rightK ks with
  | false =>
    simp -implicitDefEqProofs only [go_sem, Nat.reduceEqDiff, Nat.reduceLT, Nat.reduceAdd, Nat.reduceMul, Int.reduceEq, Int.reduceLT, Int.reduceLE, Int.reduceNe, Int.reduceBEq, Int.reduceToNat, ↓reduceIte]
    exact RwQ.one (Sub.refl _) hrk
  | true =>
  obtain ⟨hk1, hk8, hkk⟩ := rightK_at hrk
  rcases Nat.eq_zero_or_pos p.length with hz | hz
  · have dz : decide ((p.length : Int) < 1) = true := decide_eq_true (by omega)
    simp -implicitDefEqProofs only [go_sem, Nat.reduceEqDiff, Nat.reduceLT, Nat.reduceAdd, Nat.reduceMul, Int.reduceEq, Int.reduceLT, Int.reduceLE, Int.reduceNe, Int.reduceBEq, Int.reduceToNat, ↓reduceIte, dz]
    exact RwQ.bad (Sub.refl _) hrk (rdW_no hz)
  have dz : decide ((p.length : Int) < 1) = false := decide_eq_false (by omega)
  have dz' : decide ((0 : Int) < (p.length : Int)) = true := decide_eq_true (by omega)
  obtain ⟨h, hb⟩ : ∃ h, p[0]? = some h := ⟨_, List.getElem?_eq_getElem hz⟩
  have hb8 := UInt8.toNat_lt h
  obtain ⟨qa, qc, eq, lq⟩ := Rd.at1 hp (k := 0) (u8s_ix hb)
  have eqa : pa = some qa := by injection eq
  subst eqa
  have lq : ld w0 H1 qa = some (.int .u8 (h.toNat : Int)) := lq
  have er := rdW_at (ks := ks) hb
  by_cases c2 : 200 < p.length
  · have dl : decide ((200 : Int) < (p.length : Int)) = true := decide_eq_true (by omega)
    simp -implicitDefEqProofs only [go_sem, Nat.reduceEqDiff, Nat.reduceLT, Nat.reduceAdd, Nat.reduceMul, Int.reduceEq, Int.reduceLT, Int.reduceLE, Int.reduceNe, Int.reduceBEq, Int.reduceToNat, ↓reduceIte, dz, dl]
    exact RwQ.bad (Sub.refl _) hrk (by rw [er, if_pos c2])
  have dl : decide ((200 : Int) < (p.length : Int)) = false := decide_eq_false (by omega)
  rw [if_neg c2] at er
  simp -implicitDefEqProofs only [go_sem, Nat.reduceEqDiff, Nat.reduceLT, Nat.reduceAdd, Nat.reduceMul, Int.reduceEq, Int.reduceLT, Int.reduceLE, Int.reduceNe, Int.reduceBEq, Int.reduceToNat, ↓reduceIte, dz, dz', dl, lq]
  obtain ⟨a2, n2, c2', r2, e3, en2, hk2, hnc2, er2, hr2⟩ := Bt.low hp (k := 1) (by omega)
  have ea2 : a2 = some qa := by injection e3 with e; exact e.symm
  have ec2 : pc = c2' := by injection e3
  subst ea2 ec2 en2
  refine slice_lo (dst := none) (ty := 0) (pos := "") (after := #[]) (g := none) (a := some qa) (n := p.length) (c := pc) (l := 1) Tryd.underlying22 s5 (by simp -implicitDefEqProofs only [go_sem, Nat.reduceEqDiff, Nat.reduceLT, Nat.reduceAdd, Nat.reduceMul, Int.reduceEq, Int.reduceLT, Int.reduceLE, Int.reduceNe, Int.reduceBEq, Int.reduceToNat, ↓reduceIte]) rfl (by omega) ?_
  rw [er2]
  simp -implicitDefEqProofs only [go_sem, Nat.reduceEqDiff, Nat.reduceLT, Nat.reduceAdd, Nat.reduceMul, Int.reduceEq, Int.reduceLT, Int.reduceLE, Int.reduceNe, Int.reduceBEq, Int.reduceToNat, ↓reduceIte]
  refine AC.loopH (RsI w0 H1 (.slice ka ks.length kc) ks (p.drop 1) h.toNat) (n := ks.length) ⟨0, by omega, by simp -implicitDefEqProofs only [go_sem, Nat.reduceEqDiff, Nat.reduceLT, Nat.reduceAdd, Nat.reduceMul, Int.reduceEq, Int.reduceLT, Int.reduceLE, Int.reduceNe, Int.reduceBEq, Int.reduceToNat, ↓reduceIte], by simp -implicitDefEqProofs only [go_sem, Nat.reduceEqDiff, Nat.reduceLT, Nat.reduceAdd, Nat.reduceMul, Int.reduceEq, Int.reduceLT, Int.reduceLE, Int.reduceNe, Int.reduceBEq, Int.reduceToNat, ↓reduceIte], by simp -implicitDefEqProofs only [go_sem, Nat.reduceEqDiff, Nat.reduceLT, Nat.reduceAdd, Nat.reduceMul, Int.reduceEq, Int.reduceLT, Int.reduceLE, Int.reduceNe, Int.reduceBEq, Int.reduceToNat, ↓reduceIte] <;> rfl, by simp -implicitDefEqProofs only [go_sem, Nat.reduceEqDiff, Nat.reduceLT, Nat.reduceAdd, Nat.reduceMul, Int.reduceEq, Int.reduceLT, Int.reduceLE, Int.reduceNe, Int.reduceBEq, Int.reduceToNat, ↓reduceIte]; simp, p.drop 1, r2, .slice none 0 0, [], by simp -implicitDefEqProofs only [go_sem, Nat.reduceEqDiff, Nat.reduceLT, Nat.reduceAdd, Nat.reduceMul, Int.reduceEq, Int.reduceLT, Int.reduceLE, Int.reduceNe, Int.reduceBEq, Int.reduceToNat, ↓reduceIte], by simp -implicitDefEqProofs only [go_sem, Nat.reduceEqDiff, Nat.reduceLT, Nat.reduceAdd, Nat.reduceMul, Int.reduceEq, Int.reduceLT, Int.reduceLE, Int.reduceNe, Int.reduceBEq, Int.reduceToNat, ↓reduceIte], hr2, Row.nil _ _ _, fun b hb => (by simp [blk] at hb), Sub.refl _, rfl, by rw [List.length_drop]; omega, by simp⟩ ?_
  rintro m F H2 ⟨i, hi, f31, f32, f33, f6, rest, v, s, done, f1, f7, hbr, hov, hf, hs, hdl, hrl, hr⟩ hh
  obtain ⟨ra, rc, evr, hrc⟩ := Rd.slice hbr
  subst evr
  obtain ⟨M, hM⟩ : ∃ M, M = h.toNat / 2 ^ i := ⟨_, rfl⟩
  have hM8 : M < 256 := by rw [hM]; exact Nat.lt_of_le_of_lt (Nat.div_le_self _ _) hb8
  have hdiv : M / 2 = h.toNat / 2 ^ (i + 1) := by rw [hM, Nat.div_div_eq_div_mul, ← Nat.pow_succ]
  rw [← hM] at f6 hr
  by_cases ci : i < ks.length
  · have d1 : decide ((i : Int) < (ks.length : Int)) = true := decide_eq_true (by omega)
    have d0 : decide ((0 : Int) ≤ (i : Int)) = true := decide_eq_true (by omega)
    have d2 : IntKind.i64.wrap ((i : Int) + 1) = (i + 1 : Nat) := by rw [i64_in] <;> omega
    obtain ⟨k, hk⟩ : ∃ k, ks[i]? = some k := ⟨_, List.getElem?_eq_getElem ci⟩
    obtain ⟨a, c, ea, la⟩ := Rd.at1 (hkv.sub hs hh) (u8s_ix hk)
    have ea' : ka = some a := by injection ea
    rw [ea'] at f31
    have hat := rwd_at hk M rest
    rw [hdiv] at hat
    have wt : ((M : Int).tmod 2) = ((M % 2 : Nat) : Int) := tmod_nat M 2
    have wq : IntKind.u8.wrap ((M : Int).tdiv 2) = ((M / 2 : Nat) : Int) := by
      rw [show ((M : Int).tdiv 2) = ((M / 2 : Nat) : Int) from tdiv_nat M 2, u8_in] <;> omega
    have hkb := hkk i k hk
    have hk13 : 1 ≤ k.toNat ∧ k.toNat ≤ 3 := by unfold kindOk at hkb; simpa using hkb
    rcases Nat.mod_two_eq_zero_or_one M with hbit | hbit
    · have db : decide (((M % 2 : Nat) : Int) = 1) = false := decide_eq_false (by omega)
      rw [if_neg (by omega)] at hat
      have badT : tkW k rest = none → rdW ks p = none := fun e => by
        rw [e] at hat
        rw [hat] at hr
        rw [er, ← hr]; rfl
      have goodT : ∀ (x : Va) (q : List UInt8), tkW k rest = some (x, q) → (rwd (ks.drop (i + 1)) (h.toNat / 2 ^ (i + 1)) q).map ((done ++ [x]) ++ ·) = rwd ks h.toNat (p.drop 1) := fun x q e => by
        rw [e] at hat
        simp only [] at hat
        rw [hat, map_snoc] at hr
        exact hr
      simp -implicitDefEqProofs only [go_sem, Nat.reduceEqDiff, Nat.reduceLT, Nat.reduceAdd, Nat.reduceMul, Int.reduceEq, Int.reduceLT, Int.reduceLE, Int.reduceNe, Int.reduceBEq, Int.reduceToNat, ↓reduceIte, f6, f31, f32, f33, d0, d1, la, wt, db, wq]
      refine newK_of ?_
      intro b3 H3 hb3 hn3 h3 s3 g3
      simp -implicitDefEqProofs only [go_sem, Nat.reduceEqDiff, Nat.reduceLT, Nat.reduceAdd, Nat.reduceMul, Int.reduceEq, Int.reduceLT, Int.reduceLE, Int.reduceNe, Int.reduceBEq, Int.reduceToNat, ↓reduceIte]
      refine store_all (cs := (vc ⟨k.toNat, 0, [], false⟩).toArray) h3 rfl rfl s36 ?_
      intro H4 h4 g4
      have t4' : Sub H2 H4 := Sub.ne2 hn3 g3 g4
      have st4 := hs.trans t4'
      have hh4 : Hi w0 H4 := Hi.ne (Hi.ne hh hb3 g3) hb3 g4
      have hb4 := hbr.sub st4 hh4
      by_cases k1 : k.toNat = 1
      · have e1 : decide ((k.toNat : Int) = 1) = true := decide_eq_true (by omega)
        have et := tkW1 rest k1
        by_cases c8 : rest.length < 8
        · have g8 : decide ((rest.length : Int) < 8) = true := decide_eq_true (by omega)
          simp -implicitDefEqProofs only [go_sem, Nat.reduceEqDiff, Nat.reduceLT, Nat.reduceAdd, Nat.reduceMul, Int.reduceEq, Int.reduceLT, Int.reduceLE, Int.reduceNe, Int.reduceBEq, Int.reduceToNat, ↓reduceIte, e1, f1, g8]
          exact RwQ.bad st4 hrk (badT (by rw [et, if_pos c8]))
        · have g8 : decide ((rest.length : Int) < 8) = false := decide_eq_false (by omega)
          rw [if_neg c8] at et
          simp -implicitDefEqProofs only [go_sem, Nat.reduceEqDiff, Nat.reduceLT, Nat.reduceAdd, Nat.reduceMul, Int.reduceEq, Int.reduceLT, Int.reduceLE, Int.reduceNe, Int.reduceBEq, Int.reduceToNat, ↓reduceIte, e1, f1, g8]
          have hl8 : (rest.take 8).length = 8 := by rw [List.length_take]; omega
          obtain ⟨bb0, hbb0⟩ : ∃ b, rest[0]? = some b := ⟨_, List.getElem?_eq_getElem (by omega)⟩
          obtain ⟨ta0, tc0, et0, _⟩ := Rd.at1 hb4 (k := 0) (u8s_ix hbb0)
          have eta0 : ra = some ta0 := by injection et0
          subst eta0
          refine AC.loop (RsJ H4 (.slice (some a) ks.length kc) (.slice (some ta0) rest.length rc) s ks.length i (M / 2) b3 (rest.take 8)) (n := 8) ⟨by omega, by simp -implicitDefEqProofs only [go_sem, Nat.reduceEqDiff, Nat.reduceLT, Nat.reduceAdd, Nat.reduceMul, Int.reduceEq, Int.reduceLT, Int.reduceLE, Int.reduceNe, Int.reduceBEq, Int.reduceToNat, ↓reduceIte, f31], by simp -implicitDefEqProofs only [go_sem, Nat.reduceEqDiff, Nat.reduceLT, Nat.reduceAdd, Nat.reduceMul, Int.reduceEq, Int.reduceLT, Int.reduceLE, Int.reduceNe, Int.reduceBEq, Int.reduceToNat, ↓reduceIte, f32], by simp -implicitDefEqProofs only [go_sem, Nat.reduceEqDiff, Nat.reduceLT, Nat.reduceAdd, Nat.reduceMul, Int.reduceEq, Int.reduceLT, Int.reduceLE, Int.reduceNe, Int.reduceBEq, Int.reduceToNat, ↓reduceIte, f33], by simp -implicitDefEqProofs only [go_sem, Nat.reduceEqDiff, Nat.reduceLT, Nat.reduceAdd, Nat.reduceMul, Int.reduceEq, Int.reduceLT, Int.reduceLE, Int.reduceNe, Int.reduceBEq, Int.reduceToNat, ↓reduceIte], by simp -implicitDefEqProofs only [go_sem, Nat.reduceEqDiff, Nat.reduceLT, Nat.reduceAdd, Nat.reduceMul, Int.reduceEq, Int.reduceLT, Int.reduceLE, Int.reduceNe, Int.reduceBEq, Int.reduceToNat, ↓reduceIte, f1], by simp -implicitDefEqProofs only [go_sem, Nat.reduceEqDiff, Nat.reduceLT, Nat.reduceAdd, Nat.reduceMul, Int.reduceEq, Int.reduceLT, Int.reduceLE, Int.reduceNe, Int.reduceBEq, Int.reduceToNat, ↓reduceIte, f7], by simp -implicitDefEqProofs only [go_sem, Nat.reduceEqDiff, Nat.reduceLT, Nat.reduceAdd, Nat.reduceMul, Int.reduceEq, Int.reduceLT, Int.reduceLE, Int.reduceNe, Int.reduceBEq, Int.reduceToNat, ↓reduceIte], by simp -implicitDefEqProofs only [go_sem, Nat.reduceEqDiff, Nat.reduceLT, Nat.reduceAdd, Nat.reduceMul, Int.reduceEq, Int.reduceLT, Int.reduceLE, Int.reduceNe, Int.reduceBEq, Int.reduceToNat, ↓reduceIte], by simp -implicitDefEqProofs only [go_sem, Nat.reduceEqDiff, Nat.reduceLT, Nat.reduceAdd, Nat.reduceMul, Int.reduceEq, Int.reduceLT, Int.reduceLE, Int.reduceNe, Int.reduceBEq, Int.reduceToNat, ↓reduceIte]; rw [List.drop_eq_nil_of_le (by omega)]; rfl, by simp -implicitDefEqProofs only [go_sem, Nat.reduceEqDiff, Nat.reduceLT, Nat.reduceAdd, Nat.reduceMul, Int.reduceEq, Int.reduceLT, Int.reduceLE, Int.reduceNe, Int.reduceBEq, Int.reduceToNat, ↓reduceIte] <;> rfl, rfl⟩ ?_
          clear f1 f6 f7 f31 f32 f33
          rintro m2 F HL ⟨hm8, f31, f32, f33, f6, f1, f7, f11, f12, f13, f14, rfl⟩
          cases m2 with
          | succ e =>
            have f14' : ((e + 1 : Nat) : Int) - 1 = (e : Int) := by omega
            rw [f14'] at f14
            have g0 : decide ((0 : Int) ≤ (e : Int)) = true := decide_eq_true (by omega)
            have g1 : decide ((e : Int) < (rest.length : Int)) = true := decide_eq_true (by omega)
            obtain ⟨b, hbe⟩ : ∃ b, rest[e]? = some b := ⟨_, List.getElem?_eq_getElem (by omega)⟩
            have hbt : (rest.take 8)[e]? = some b := by rw [List.getElem?_take_of_lt (by omega)]; exact hbe
            have hb8' := UInt8.toNat_lt b
            obtain ⟨ta, tc, et1, lt⟩ := Rd.at1 hb4 (k := e) (u8s_ix hbe)
            have eta : ta0 = ta := by injection et1 with e; exact Option.some.inj e
            subst eta
            have hst := le_step hbt
            have hlt := leN_lt ((rest.take 8).drop (e + 1))
            have hle : 256 ^ ((rest.take 8).drop (e + 1)).length ≤ 256 ^ 7 := Nat.pow_le_pow_right (by decide) (by rw [List.length_drop]; omega)
            have h7 : 256 ^ 7 = 72057594037927936 := by decide
            obtain ⟨z, hz'⟩ : ∃ z, z = leN ((rest.take 8).drop (e + 1)) := ⟨_, rfl⟩
            rw [← hz'] at hst hlt f13
            have wc : IntKind.u64.wrap (b.toNat : Int) = (b.toNat : Int) := u64_in (by omega) (by omega)
            have wm : IntKind.u64.wrap ((z : Int) * 256) = ((z * 256 : Nat) : Int) := by rw [u64_in] <;> omega
            have wa : IntKind.u64.wrap (((z * 256 : Nat) : Int) + (b.toNat : Int)) = ((leN ((rest.take 8).drop e) : Nat) : Int) := by rw [hst, u64_in] <;> omega
            have ws : IntKind.i64.wrap ((e : Int) - 1) = (e : Int) - 1 := by rw [i64_in] <;> omega
            simp -implicitDefEqProofs only [go_sem, Nat.reduceEqDiff, Nat.reduceLT, Nat.reduceAdd, Nat.reduceMul, Int.reduceEq, Int.reduceLT, Int.reduceLE, Int.reduceNe, Int.reduceBEq, Int.reduceToNat, ↓reduceIte, f1, f13, f14, g0, g1, lt, wc, wm, wa, ws]
            exact ⟨e, by omega, by omega, by simp -implicitDefEqProofs only [go_sem, Nat.reduceEqDiff, Nat.reduceLT, Nat.reduceAdd, Nat.reduceMul, Int.reduceEq, Int.reduceLT, Int.reduceLE, Int.reduceNe, Int.reduceBEq, Int.reduceToNat, ↓reduceIte, f31], by simp -implicitDefEqProofs only [go_sem, Nat.reduceEqDiff, Nat.reduceLT, Nat.reduceAdd, Nat.reduceMul, Int.reduceEq, Int.reduceLT, Int.reduceLE, Int.reduceNe, Int.reduceBEq, Int.reduceToNat, ↓reduceIte, f32], by simp -implicitDefEqProofs only [go_sem, Nat.reduceEqDiff, Nat.reduceLT, Nat.reduceAdd, Nat.reduceMul, Int.reduceEq, Int.reduceLT, Int.reduceLE, Int.reduceNe, Int.reduceBEq, Int.reduceToNat, ↓reduceIte, f33], by simp -implicitDefEqProofs only [go_sem, Nat.reduceEqDiff, Nat.reduceLT, Nat.reduceAdd, Nat.reduceMul, Int.reduceEq, Int.reduceLT, Int.reduceLE, Int.reduceNe, Int.reduceBEq, Int.reduceToNat, ↓reduceIte, f6], by simp -implicitDefEqProofs only [go_sem, Nat.reduceEqDiff, Nat.reduceLT, Nat.reduceAdd, Nat.reduceMul, Int.reduceEq, Int.reduceLT, Int.reduceLE, Int.reduceNe, Int.reduceBEq, Int.reduceToNat, ↓reduceIte, f1], by simp -implicitDefEqProofs only [go_sem, Nat.reduceEqDiff, Nat.reduceLT, Nat.reduceAdd, Nat.reduceMul, Int.reduceEq, Int.reduceLT, Int.reduceLE, Int.reduceNe, Int.reduceBEq, Int.reduceToNat, ↓reduceIte, f7], by simp -implicitDefEqProofs only [go_sem, Nat.reduceEqDiff, Nat.reduceLT, Nat.reduceAdd, Nat.reduceMul, Int.reduceEq, Int.reduceLT, Int.reduceLE, Int.reduceNe, Int.reduceBEq, Int.reduceToNat, ↓reduceIte, f11], by simp -implicitDefEqProofs only [go_sem, Nat.reduceEqDiff, Nat.reduceLT, Nat.reduceAdd, Nat.reduceMul, Int.reduceEq, Int.reduceLT, Int.reduceLE, Int.reduceNe, Int.reduceBEq, Int.reduceToNat, ↓reduceIte, f12], by simp -implicitDefEqProofs only [go_sem, Nat.reduceEqDiff, Nat.reduceLT, Nat.reduceAdd, Nat.reduceMul, Int.reduceEq, Int.reduceLT, Int.reduceLE, Int.reduceNe, Int.reduceBEq, Int.reduceToNat, ↓reduceIte], by simp -implicitDefEqProofs only [go_sem, Nat.reduceEqDiff, Nat.reduceLT, Nat.reduceAdd, Nat.reduceMul, Int.reduceEq, Int.reduceLT, Int.reduceLE, Int.reduceNe, Int.reduceBEq, Int.reduceToNat, ↓reduceIte], rfl⟩
          | zero =>
            have g0 : decide ((0 : Int) ≤ ((0 : Nat) : Int) - 1) = false := rfl
            have g0' : decide ((0 : Int) ≤ -1) = false := rfl
            have f14 : F 14 = .int .i64 (-1) := f14
            have f13 : F 13 = .int .u64 (leN (rest.take 8) : Int) := f13
            have hw := wr_own h4 1 (by show 1 < 4; omega)
            simp -implicitDefEqProofs only [go_sem, Nat.reduceEqDiff, Nat.reduceLT, Nat.reduceAdd, Nat.reduceMul, Int.reduceEq, Int.reduceLT, Int.reduceLE, Int.reduceNe, Int.reduceBEq, Int.reduceToNat, ↓reduceIte, f11, f13, f14, g0, g0', hw]
            have hz := Hp.set_same H4 b3 (.cells ((vc ⟨k.toNat, 0, [], false⟩).set 1 (.int .i64 (IntKind.i64.wrap (leN (rest.take 8) : Int)))).toArray 36 (0, 0))
            have gz : ∀ j, j ≠ b3 → (H4.set b3 (.cells ((vc ⟨k.toNat, 0, [], false⟩).set 1 (.int .i64 (IntKind.i64.wrap (leN (rest.take 8) : Int)))).toArray 36 (0, 0))) j = H4 j := fun j hj => Hp.set_ne _ _ _ _ hj
            generalize H4.set b3 (.cells ((vc ⟨k.toNat, 0, [], false⟩).set 1 (.int .i64 (IntKind.i64.wrap (leN (rest.take 8) : Int)))).toArray 36 (0, 0)) = HX at hz gz ⊢
            have hz : HX b3 = some (.cells (vc ⟨1, IntKind.i64.wrap (leN (rest.take 8) : Int), [], false⟩).toArray 36 (0, 0)) := by rw [hz, k1]; rfl
            have lX := ldc w0 (l := vc ⟨1, IntKind.i64.wrap (leN (rest.take 8) : Int), [], false⟩) hz 4
            have tX : Sub H2 HX := fun j o hj => (gz j fun e => by rw [e, hn3] at hj; cases hj).trans (t4' _ _ hj)
            have stX := hs.trans tX
            have hovX := hov.sub tX
            simp -implicitDefEqProofs only [go_sem, Nat.reduceEqDiff, Nat.reduceLT, Nat.reduceAdd, Nat.reduceMul, Int.reduceEq, Int.reduceLT, Int.reduceLE, Int.reduceNe, Int.reduceBEq, Int.reduceToNat, ↓reduceIte, f11, lX]
            refine rright_ok.mono ?_
            rintro r H6 ⟨rfl, rfl⟩
            have rr := right1 (IntKind.i64.wrap (leN (rest.take 8) : Int))
            rw [rr]
            simp -implicitDefEqProofs only [go_sem, Nat.reduceEqDiff, Nat.reduceLT, Nat.reduceAdd, Nat.reduceMul, Int.reduceEq, Int.reduceLT, Int.reduceLE, Int.reduceNe, Int.reduceBEq, Int.reduceToNat, ↓reduceIte]
            refine vdraw_t [⟨0, .p, [], []⟩, ⟨1, .n, [], []⟩, ⟨4, .p, [], []⟩, ⟨5, .p, [], []⟩, ⟨6, .n, [], []⟩, ⟨2, .c, [6], []⟩, ⟨3, .c, [6], []⟩, ⟨7, .p, [], []⟩, ⟨8, .p, [], []⟩] [0, 0, 2, 7, 0, 0, 48, 15, 255] mixed (by kernel_rfl) ?_
            simp -implicitDefEqProofs only [go_sem, Nat.reduceEqDiff, Nat.reduceLT, Nat.reduceAdd, Nat.reduceMul, Int.reduceEq, Int.reduceLT, Int.reduceLE, Int.reduceNe, Int.reduceBEq, Int.reduceToNat, ↓reduceIte, f1, f7, f11, f12, lX]
            obtain ⟨a2, n2, c2, r2, e3, en2, hk2, hnc2, er2, hr2⟩ := Bt.low hbr (k := 8) (by omega)
            have ea2 : some ta0 = a2 := by injection e3
            have ec2 : rc = c2 := by injection e3
            subst ea2 ec2 en2
            refine ⟨r2, ?_, ?_⟩
            · refine slice_lo (dst := none) (ty := 0) (pos := "") (after := #[]) (g := none) (a := some ta0) (n := rest.length) (c := rc) (l := 8) Tryd.underlying22 s5 (by simp -implicitDefEqProofs only [go_sem, Nat.reduceEqDiff, Nat.reduceLT, Nat.reduceAdd, Nat.reduceMul, Int.reduceEq, Int.reduceLT, Int.reduceLE, Int.reduceNe, Int.reduceBEq, Int.reduceToNat, ↓reduceIte, f1, f7, f11, f12]) (by first | rfl | simp -implicitDefEqProofs only [go_sem, Nat.reduceEqDiff, Nat.reduceLT, Nat.reduceAdd, Nat.reduceMul, Int.reduceEq, Int.reduceLT, Int.reduceLE, Int.reduceNe, Int.reduceBEq, Int.reduceToNat, ↓reduceIte, f1, f7, f11, f12]) (by omega) ?_
              rw [er2]
              exact ⟨rfl, rfl⟩
            simp -implicitDefEqProofs only [go_sem, Nat.reduceEqDiff, Nat.reduceLT, Nat.reduceAdd, Nat.reduceMul, Int.reduceEq, Int.reduceLT, Int.reduceLE, Int.reduceNe, Int.reduceBEq, Int.reduceToNat, ↓reduceIte, f1, f7, f11, f12]
            refine newK_of ?_
            intro bw H8 hbw hnw hw8 sw gw
            have hone : H8 bw = some (.cells ([⟨1, IntKind.i64.wrap (leN (rest.take 8) : Int), [], false⟩].flatMap vc).toArray 36 (0, 0)) := by rw [hw8]; simp
            have hvs : Vs w0 H8 (.slice (some ⟨bw, 0, none⟩) 1 1) [⟨1, IntKind.i64.wrap (leN (rest.take 8) : Int), [], false⟩] := by
              refine .inr ⟨_, _, rfl, Nat.le_refl _, ?_⟩
              rw [ldCells_row hone 0 _ 0 (by simp [vc])]
              rfl
            simp -implicitDefEqProofs only [go_sem, Nat.reduceEqDiff, Nat.reduceLT, Nat.reduceAdd, Nat.reduceMul, Int.reduceEq, Int.reduceLT, Int.reduceLE, Int.reduceNe, Int.reduceBEq, Int.reduceToNat, ↓reduceIte, f1, f7, f11, f12]
            refine ⟨?_, ?_⟩
            · refine slice_lo (dst := none) (ty := 0) (pos := "") (after := #[]) (g := none) (a := some ta0) (n := rest.length) (c := rc) (l := 8) Tryd.underlying22 s5 (by simp -implicitDefEqProofs only [go_sem, Nat.reduceEqDiff, Nat.reduceLT, Nat.reduceAdd, Nat.reduceMul, Int.reduceEq, Int.reduceLT, Int.reduceLE, Int.reduceNe, Int.reduceBEq, Int.reduceToNat, ↓reduceIte, f1, f7, f11, f12]) (by first | rfl | simp -implicitDefEqProofs only [go_sem, Nat.reduceEqDiff, Nat.reduceLT, Nat.reduceAdd, Nat.reduceMul, Int.reduceEq, Int.reduceLT, Int.reduceLE, Int.reduceNe, Int.reduceBEq, Int.reduceToNat, ↓reduceIte, f1, f7, f11, f12]) (by omega) ?_
              rw [er2]
              exact ⟨rfl, rfl⟩
            refine app_v (Hb := H1) (by simp -implicitDefEqProofs only [go_sem, Nat.reduceEqDiff, Nat.reduceLT, Nat.reduceAdd, Nat.reduceMul, Int.reduceEq, Int.reduceLT, Int.reduceLE, Int.reduceNe, Int.reduceBEq, Int.reduceToNat, ↓reduceIte, f1, f7, f11, f12]) (hovX.sub sw) (by simp -implicitDefEqProofs only [go_sem, Nat.reduceEqDiff, Nat.reduceLT, Nat.reduceAdd, Nat.reduceMul, Int.reduceEq, Int.reduceLT, Int.reduceLE, Int.reduceNe, Int.reduceBEq, Int.reduceToNat, ↓reduceIte, f1, f7, f11, f12]) hvs (by simp; omega) hf (stX.trans sw) ?_
            intro r9 H9 o9 f9 s9 a9
            simp -implicitDefEqProofs only [go_sem, Nat.reduceEqDiff, Nat.reduceLT, Nat.reduceAdd, Nat.reduceMul, Int.reduceEq, Int.reduceLT, Int.reduceLE, Int.reduceNe, Int.reduceBEq, Int.reduceToNat, ↓reduceIte, f1, f7, f11, f12]
            refine ⟨?_, ?_⟩
            · refine slice_lo (dst := none) (ty := 0) (pos := "") (after := #[]) (g := none) (a := some ta0) (n := rest.length) (c := rc) (l := 8) Tryd.underlying22 s5 (by simp -implicitDefEqProofs only [go_sem, Nat.reduceEqDiff, Nat.reduceLT, Nat.reduceAdd, Nat.reduceMul, Int.reduceEq, Int.reduceLT, Int.reduceLE, Int.reduceNe, Int.reduceBEq, Int.reduceToNat, ↓reduceIte, f1, f7, f11, f12]) (by first | rfl | simp -implicitDefEqProofs only [go_sem, Nat.reduceEqDiff, Nat.reduceLT, Nat.reduceAdd, Nat.reduceMul, Int.reduceEq, Int.reduceLT, Int.reduceLE, Int.reduceNe, Int.reduceBEq, Int.reduceToNat, ↓reduceIte, f1, f7, f11, f12]) (by omega) ?_
              rw [er2]
              exact ⟨rfl, rfl⟩
            simp -implicitDefEqProofs only [go_sem, Nat.reduceEqDiff, Nat.reduceLT, Nat.reduceAdd, Nat.reduceMul, Int.reduceEq, Int.reduceLT, Int.reduceLE, Int.reduceNe, Int.reduceBEq, Int.reduceToNat, ↓reduceIte, f33, d2]
            exact ⟨m - 1, by omega, i + 1, by omega, by simp -implicitDefEqProofs only [go_sem, Nat.reduceEqDiff, Nat.reduceLT, Nat.reduceAdd, Nat.reduceMul, Int.reduceEq, Int.reduceLT, Int.reduceLE, Int.reduceNe, Int.reduceBEq, Int.reduceToNat, ↓reduceIte, f31]; rw [ea'], by simp -implicitDefEqProofs only [go_sem, Nat.reduceEqDiff, Nat.reduceLT, Nat.reduceAdd, Nat.reduceMul, Int.reduceEq, Int.reduceLT, Int.reduceLE, Int.reduceNe, Int.reduceBEq, Int.reduceToNat, ↓reduceIte, f32], by simp -implicitDefEqProofs only [go_sem, Nat.reduceEqDiff, Nat.reduceLT, Nat.reduceAdd, Nat.reduceMul, Int.reduceEq, Int.reduceLT, Int.reduceLE, Int.reduceNe, Int.reduceBEq, Int.reduceToNat, ↓reduceIte], by simp -implicitDefEqProofs only [go_sem, Nat.reduceEqDiff, Nat.reduceLT, Nat.reduceAdd, Nat.reduceMul, Int.reduceEq, Int.reduceLT, Int.reduceLE, Int.reduceNe, Int.reduceBEq, Int.reduceToNat, ↓reduceIte, f6]; rw [hdiv], rest.drop (8), r2, r9, done ++ [⟨1, IntKind.i64.wrap (leN (rest.take 8) : Int), [], false⟩], by simp -implicitDefEqProofs only [go_sem, Nat.reduceEqDiff, Nat.reduceLT, Nat.reduceAdd, Nat.reduceMul, Int.reduceEq, Int.reduceLT, Int.reduceLE, Int.reduceNe, Int.reduceBEq, Int.reduceToNat, ↓reduceIte], by simp -implicitDefEqProofs only [go_sem, Nat.reduceEqDiff, Nat.reduceLT, Nat.reduceAdd, Nat.reduceMul, Int.reduceEq, Int.reduceLT, Int.reduceLE, Int.reduceNe, Int.reduceBEq, Int.reduceToNat, ↓reduceIte], hr2, o9, f9, s9, by simp; omega, by rw [List.length_drop]; omega, goodT _ _ et⟩
      have e1 : decide ((k.toNat : Int) = 1) = false := decide_eq_false (by omega)
      rcases Nat.eq_zero_or_pos rest.length with hz0 | hz0
      · have g8 : decide ((rest.length : Int) < 1) = true := decide_eq_true (by omega)
        simp -implicitDefEqProofs only [go_sem, Nat.reduceEqDiff, Nat.reduceLT, Nat.reduceAdd, Nat.reduceMul, Int.reduceEq, Int.reduceLT, Int.reduceLE, Int.reduceNe, Int.reduceBEq, Int.reduceToNat, ↓reduceIte, e1, f1, g8]
        exact RwQ.bad st4 hrk (badT (tkW2n rest k1 hz0))
      have g8 : decide ((rest.length : Int) < 1) = false := decide_eq_false (by omega)
      have g8' : decide ((0 : Int) < (rest.length : Int)) = true := decide_eq_true (by omega)
      obtain ⟨b, hbe⟩ : ∃ b, rest[0]? = some b := ⟨_, List.getElem?_eq_getElem hz0⟩
      have hb8' := UInt8.toNat_lt b
      obtain ⟨ta, tc, et1, lt⟩ := Rd.at1 hb4 (k := 0) (u8s_ix hbe)
      have eta : ra = some ta := by injection et1
      subst eta
      have lt : ld w0 H4 ta = some (.int .u8 (b.toNat : Int)) := lt
      by_cases k2 : k.toNat = 2
      · have e2 : decide ((k.toNat : Int) = 2) = true := decide_eq_true (by omega)
        have et := tkW2 k2 hbe
        have wc : IntKind.i64.wrap (b.toNat : Int) = (b.toNat : Int) := by rw [i64_in] <;> omega
        have w1 : IntKind.i64.wrap (1 + (b.toNat : Int)) = ((1 + b.toNat : Nat) : Int) := by rw [i64_in] <;> omega
        by_cases cl : rest.length < 1 + b.toNat
        · have dl : decide ((rest.length : Int) < ((1 + b.toNat : Nat) : Int)) = true := decide_eq_true (by omega)
          simp -implicitDefEqProofs only [go_sem, Nat.reduceEqDiff, Nat.reduceLT, Nat.reduceAdd, Nat.reduceMul, Int.reduceEq, Int.reduceLT, Int.reduceLE, Int.reduceNe, Int.reduceBEq, Int.reduceToNat, ↓reduceIte, e1, e2, f1, g8, g8', lt, wc, w1, dl]
          exact RwQ.bad st4 hrk (badT (by rw [et, if_pos cl]))
        · have dl : decide ((rest.length : Int) < ((1 + b.toNat : Nat) : Int)) = false := decide_eq_false (by omega)
          rw [if_neg cl] at et
          obtain ⟨sx, hsx⟩ : ∃ sx, sx = (rest.drop 1).take b.toNat := ⟨_, rfl⟩
          obtain ⟨sl, hsl⟩ : ∃ sl, sl = Value.slice (if rc = 1 then some ta else (some ta).map (·.add (1 * 1))) (1 + b.toNat - 1) (rc - 1) := ⟨_, rfl⟩
          have hsb : Bt w0 H4 sl sx := by
            have h1 := (hb4.front (k := 1 + b.toNat) (by omega)).back (k := 1) (by rw [List.length_take]; omega)
            rw [List.drop_take, show 1 + b.toNat - 1 = b.toNat by omega] at h1
            rw [hsl, hsx, show 1 + b.toNat - 1 = b.toNat by omega]
            exact h1
          rw [← hsx] at et
          simp -implicitDefEqProofs only [go_sem, Nat.reduceEqDiff, Nat.reduceLT, Nat.reduceAdd, Nat.reduceMul, Int.reduceEq, Int.reduceLT, Int.reduceLE, Int.reduceNe, Int.reduceBEq, Int.reduceToNat, ↓reduceIte, e1, e2, f1, g8, g8', lt, wc, w1, dl]
          refine slice_both (dst := none) (ty := 0) (pos := "") (after := #[]) (g := none) (a := some ta) (n := rest.length) (c := rc) (l := 1) (h := 1 + b.toNat) Tryd.underlying22 s5 (by simp -implicitDefEqProofs only [go_sem, Nat.reduceEqDiff, Nat.reduceLT, Nat.reduceAdd, Nat.reduceMul, Int.reduceEq, Int.reduceLT, Int.reduceLE, Int.reduceNe, Int.reduceBEq, Int.reduceToNat, ↓reduceIte, f1]) rfl (by simp -implicitDefEqProofs only [go_sem, Nat.reduceEqDiff, Nat.reduceLT, Nat.reduceAdd, Nat.reduceMul, Int.reduceEq, Int.reduceLT, Int.reduceLE, Int.reduceNe, Int.reduceBEq, Int.reduceToNat, ↓reduceIte]) (by omega) (by omega) ?_
          rw [← hsl]
          simp -implicitDefEqProofs only [go_sem, Nat.reduceEqDiff, Nat.reduceLT, Nat.reduceAdd, Nat.reduceMul, Int.reduceEq, Int.reduceLT, Int.reduceLE, Int.reduceNe, Int.reduceBEq, Int.reduceToNat, ↓reduceIte]
          refine conv_bytes (dst := none) (ty := 0) (pos := "") (after := #[]) (g := none) Tryd.underlying22 Tryd.underlying5 Tryd.underlying9 (by simp -implicitDefEqProofs only [go_sem, Nat.reduceEqDiff, Nat.reduceLT, Nat.reduceAdd, Nat.reduceMul, Int.reduceEq, Int.reduceLT, Int.reduceLE, Int.reduceNe, Int.reduceBEq, Int.reduceToNat, ↓reduceIte]) hsb ?_
          have hw := wr_own h4 2 (by show 2 < 4; omega)
          simp -implicitDefEqProofs only [go_sem, Nat.reduceEqDiff, Nat.reduceLT, Nat.reduceAdd, Nat.reduceMul, Int.reduceEq, Int.reduceLT, Int.reduceLE, Int.reduceNe, Int.reduceBEq, Int.reduceToNat, ↓reduceIte, hw]
          have hz := Hp.set_same H4 b3 (.cells ((vc ⟨k.toNat, 0, [], false⟩).set 2 (.string (str sx))).toArray 36 (0, 0))
          have gz : ∀ j, j ≠ b3 → (H4.set b3 (.cells ((vc ⟨k.toNat, 0, [], false⟩).set 2 (.string (str sx))).toArray 36 (0, 0))) j = H4 j := fun j hj => Hp.set_ne _ _ _ _ hj
          generalize H4.set b3 (.cells ((vc ⟨k.toNat, 0, [], false⟩).set 2 (.string (str sx))).toArray 36 (0, 0)) = HX at hz gz ⊢
          have hz : HX b3 = some (.cells (vc ⟨2, 0, sx, false⟩).toArray 36 (0, 0)) := by rw [hz, k2]; rfl
          have lX := ldc w0 (l := vc ⟨2, 0, sx, false⟩) hz 4
          have tX : Sub H2 HX := fun j o hj => (gz j fun e => by rw [e, hn3] at hj; cases hj).trans (t4' _ _ hj)
          have stX := hs.trans tX
          have hovX := hov.sub tX
          simp -implicitDefEqProofs only [go_sem, Nat.reduceEqDiff, Nat.reduceLT, Nat.reduceAdd, Nat.reduceMul, Int.reduceEq, Int.reduceLT, Int.reduceLE, Int.reduceNe, Int.reduceBEq, Int.reduceToNat, ↓reduceIte, lX]
          refine rright_ok.mono ?_
          rintro r H6 ⟨rfl, rfl⟩
          cases hrb : rightB ⟨2, 0, sx, false⟩ with
          | false =>
            rw [if_neg (by rw [hrb]; simp)] at et
            simp -implicitDefEqProofs only [go_sem, Nat.reduceEqDiff, Nat.reduceLT, Nat.reduceAdd, Nat.reduceMul, Int.reduceEq, Int.reduceLT, Int.reduceLE, Int.reduceNe, Int.reduceBEq, Int.reduceToNat, ↓reduceIte]
            exact RwQ.bad stX hrk (badT (et))
          | true =>
            rw [if_pos hrb] at et
            simp -implicitDefEqProofs only [go_sem, Nat.reduceEqDiff, Nat.reduceLT, Nat.reduceAdd, Nat.reduceMul, Int.reduceEq, Int.reduceLT, Int.reduceLE, Int.reduceNe, Int.reduceBEq, Int.reduceToNat, ↓reduceIte]
            refine vdraw_t [⟨0, .p, [], []⟩, ⟨1, .n, [], []⟩, ⟨4, .p, [], []⟩, ⟨5, .p, [], []⟩, ⟨6, .n, [], []⟩, ⟨2, .c, [6], []⟩, ⟨3, .c, [6], []⟩, ⟨7, .p, [], []⟩, ⟨8, .p, [], []⟩] [0, 0, 2, 7, 0, 0, 48, 15, 255] mixed (by kernel_rfl) ?_
            simp -implicitDefEqProofs only [go_sem, Nat.reduceEqDiff, Nat.reduceLT, Nat.reduceAdd, Nat.reduceMul, Int.reduceEq, Int.reduceLT, Int.reduceLE, Int.reduceNe, Int.reduceBEq, Int.reduceToNat, ↓reduceIte, f1, f7, lX]
            obtain ⟨a2, n2, c2, r2, e3, en2, hk2, hnc2, er2, hr2⟩ := Bt.low hbr (k := 1 + b.toNat) (by omega)
            have ea2 : some ta = a2 := by injection e3
            have ec2 : rc = c2 := by injection e3
            subst ea2 ec2 en2
            refine ⟨r2, ?_, ?_⟩
            · refine slice_lo (dst := none) (ty := 0) (pos := "") (after := #[]) (g := none) (a := some ta) (n := rest.length) (c := rc) (l := 1 + b.toNat) Tryd.underlying22 s5 (by simp -implicitDefEqProofs only [go_sem, Nat.reduceEqDiff, Nat.reduceLT, Nat.reduceAdd, Nat.reduceMul, Int.reduceEq, Int.reduceLT, Int.reduceLE, Int.reduceNe, Int.reduceBEq, Int.reduceToNat, ↓reduceIte, f1, f7]) (by first | rfl | simp -implicitDefEqProofs only [go_sem, Nat.reduceEqDiff, Nat.reduceLT, Nat.reduceAdd, Nat.reduceMul, Int.reduceEq, Int.reduceLT, Int.reduceLE, Int.reduceNe, Int.reduceBEq, Int.reduceToNat, ↓reduceIte, f1, f7]) (by omega) ?_
              rw [er2]
              exact ⟨rfl, rfl⟩
            simp -implicitDefEqProofs only [go_sem, Nat.reduceEqDiff, Nat.reduceLT, Nat.reduceAdd, Nat.reduceMul, Int.reduceEq, Int.reduceLT, Int.reduceLE, Int.reduceNe, Int.reduceBEq, Int.reduceToNat, ↓reduceIte, f1, f7]
            refine newK_of ?_
            intro bw H8 hbw hnw hw8 sw gw
            have hone : H8 bw = some (.cells ([⟨2, 0, sx, false⟩].flatMap vc).toArray 36 (0, 0)) := by rw [hw8]; simp
            have hvs : Vs w0 H8 (.slice (some ⟨bw, 0, none⟩) 1 1) [⟨2, 0, sx, false⟩] := by
              refine .inr ⟨_, _, rfl, Nat.le_refl _, ?_⟩
              rw [ldCells_row hone 0 _ 0 (by simp [vc])]
              rfl
            simp -implicitDefEqProofs only [go_sem, Nat.reduceEqDiff, Nat.reduceLT, Nat.reduceAdd, Nat.reduceMul, Int.reduceEq, Int.reduceLT, Int.reduceLE, Int.reduceNe, Int.reduceBEq, Int.reduceToNat, ↓reduceIte, f1, f7]
            refine ⟨?_, ?_⟩
            · refine slice_lo (dst := none) (ty := 0) (pos := "") (after := #[]) (g := none) (a := some ta) (n := rest.length) (c := rc) (l := 1 + b.toNat) Tryd.underlying22 s5 (by simp -implicitDefEqProofs only [go_sem, Nat.reduceEqDiff, Nat.reduceLT, Nat.reduceAdd, Nat.reduceMul, Int.reduceEq, Int.reduceLT, Int.reduceLE, Int.reduceNe, Int.reduceBEq, Int.reduceToNat, ↓reduceIte, f1, f7]) (by first | rfl | simp -implicitDefEqProofs only [go_sem, Nat.reduceEqDiff, Nat.reduceLT, Nat.reduceAdd, Nat.reduceMul, Int.reduceEq, Int.reduceLT, Int.reduceLE, Int.reduceNe, Int.reduceBEq, Int.reduceToNat, ↓reduceIte, f1, f7]) (by omega) ?_
              rw [er2]
              exact ⟨rfl, rfl⟩
            refine app_v (Hb := H1) (by simp -implicitDefEqProofs only [go_sem, Nat.reduceEqDiff, Nat.reduceLT, Nat.reduceAdd, Nat.reduceMul, Int.reduceEq, Int.reduceLT, Int.reduceLE, Int.reduceNe, Int.reduceBEq, Int.reduceToNat, ↓reduceIte, f1, f7]) (hovX.sub sw) (by simp -implicitDefEqProofs only [go_sem, Nat.reduceEqDiff, Nat.reduceLT, Nat.reduceAdd, Nat.reduceMul, Int.reduceEq, Int.reduceLT, Int.reduceLE, Int.reduceNe, Int.reduceBEq, Int.reduceToNat, ↓reduceIte, f1, f7]) hvs (by simp; omega) hf (stX.trans sw) ?_
            intro r9 H9 o9 f9 s9 a9
            simp -implicitDefEqProofs only [go_sem, Nat.reduceEqDiff, Nat.reduceLT, Nat.reduceAdd, Nat.reduceMul, Int.reduceEq, Int.reduceLT, Int.reduceLE, Int.reduceNe, Int.reduceBEq, Int.reduceToNat, ↓reduceIte, f1, f7]
            refine ⟨?_, ?_⟩
            · refine slice_lo (dst := none) (ty := 0) (pos := "") (after := #[]) (g := none) (a := some ta) (n := rest.length) (c := rc) (l := 1 + b.toNat) Tryd.underlying22 s5 (by simp -implicitDefEqProofs only [go_sem, Nat.reduceEqDiff, Nat.reduceLT, Nat.reduceAdd, Nat.reduceMul, Int.reduceEq, Int.reduceLT, Int.reduceLE, Int.reduceNe, Int.reduceBEq, Int.reduceToNat, ↓reduceIte, f1, f7]) (by first | rfl | simp -implicitDefEqProofs only [go_sem, Nat.reduceEqDiff, Nat.reduceLT, Nat.reduceAdd, Nat.reduceMul, Int.reduceEq, Int.reduceLT, Int.reduceLE, Int.reduceNe, Int.reduceBEq, Int.reduceToNat, ↓reduceIte, f1, f7]) (by omega) ?_
              rw [er2]
              exact ⟨rfl, rfl⟩
            simp -implicitDefEqProofs only [go_sem, Nat.reduceEqDiff, Nat.reduceLT, Nat.reduceAdd, Nat.reduceMul, Int.reduceEq, Int.reduceLT, Int.reduceLE, Int.reduceNe, Int.reduceBEq, Int.reduceToNat, ↓reduceIte, f33, d2]
            exact ⟨m - 1, by omega, i + 1, by omega, by simp -implicitDefEqProofs only [go_sem, Nat.reduceEqDiff, Nat.reduceLT, Nat.reduceAdd, Nat.reduceMul, Int.reduceEq, Int.reduceLT, Int.reduceLE, Int.reduceNe, Int.reduceBEq, Int.reduceToNat, ↓reduceIte, f31]; rw [ea'], by simp -implicitDefEqProofs only [go_sem, Nat.reduceEqDiff, Nat.reduceLT, Nat.reduceAdd, Nat.reduceMul, Int.reduceEq, Int.reduceLT, Int.reduceLE, Int.reduceNe, Int.reduceBEq, Int.reduceToNat, ↓reduceIte, f32], by simp -implicitDefEqProofs only [go_sem, Nat.reduceEqDiff, Nat.reduceLT, Nat.reduceAdd, Nat.reduceMul, Int.reduceEq, Int.reduceLT, Int.reduceLE, Int.reduceNe, Int.reduceBEq, Int.reduceToNat, ↓reduceIte], by simp -implicitDefEqProofs only [go_sem, Nat.reduceEqDiff, Nat.reduceLT, Nat.reduceAdd, Nat.reduceMul, Int.reduceEq, Int.reduceLT, Int.reduceLE, Int.reduceNe, Int.reduceBEq, Int.reduceToNat, ↓reduceIte, f6]; rw [hdiv], rest.drop (1 + b.toNat), r2, r9, done ++ [⟨2, 0, sx, false⟩], by simp -implicitDefEqProofs only [go_sem, Nat.reduceEqDiff, Nat.reduceLT, Nat.reduceAdd, Nat.reduceMul, Int.reduceEq, Int.reduceLT, Int.reduceLE, Int.reduceNe, Int.reduceBEq, Int.reduceToNat, ↓reduceIte], by simp -implicitDefEqProofs only [go_sem, Nat.reduceEqDiff, Nat.reduceLT, Nat.reduceAdd, Nat.reduceMul, Int.reduceEq, Int.reduceLT, Int.reduceLE, Int.reduceNe, Int.reduceBEq, Int.reduceToNat, ↓reduceIte], hr2, o9, f9, s9, by simp; omega, by rw [List.length_drop]; omega, goodT _ _ et⟩
      have e2 : decide ((k.toNat : Int) = 2) = false := decide_eq_false (by omega)
      have k3 : k.toNat = 3 := by omega
      have et := tkW3 k1 k2 hbe
      by_cases c1 : b.toNat ≤ 1
      · have dg : decide ((1 : Int) < (b.toNat : Int)) = false := decide_eq_false (by omega)
        have de : decide ((b.toNat : Int) = 1) = decide (b.toNat = 1) := by
          by_cases q : b.toNat = 1
          · rw [decide_eq_true q, decide_eq_true (by omega)]
          · rw [decide_eq_false q, decide_eq_false (by omega)]
        rw [if_pos c1] at et
        have hw := wr_own h4 3 (by show 3 < 4; omega)
        simp -implicitDefEqProofs only [go_sem, Nat.reduceEqDiff, Nat.reduceLT, Nat.reduceAdd, Nat.reduceMul, Int.reduceEq, Int.reduceLT, Int.reduceLE, Int.reduceNe, Int.reduceBEq, Int.reduceToNat, ↓reduceIte, e1, e2, f1, g8, g8', lt, dg, de, hw]
        have hz := Hp.set_same H4 b3 (.cells ((vc ⟨k.toNat, 0, [], false⟩).set 3 (.bool (decide (b.toNat = 1)))).toArray 36 (0, 0))
        have gz : ∀ j, j ≠ b3 → (H4.set b3 (.cells ((vc ⟨k.toNat, 0, [], false⟩).set 3 (.bool (decide (b.toNat = 1)))).toArray 36 (0, 0))) j = H4 j := fun j hj => Hp.set_ne _ _ _ _ hj
        generalize H4.set b3 (.cells ((vc ⟨k.toNat, 0, [], false⟩).set 3 (.bool (decide (b.toNat = 1)))).toArray 36 (0, 0)) = HX at hz gz ⊢
        have hz : HX b3 = some (.cells (vc ⟨3, 0, [], decide (b.toNat = 1)⟩).toArray 36 (0, 0)) := by rw [hz, k3]; rfl
        have lX := ldc w0 (l := vc ⟨3, 0, [], decide (b.toNat = 1)⟩) hz 4
        have tX : Sub H2 HX := fun j o hj => (gz j fun e => by rw [e, hn3] at hj; cases hj).trans (t4' _ _ hj)
        have stX := hs.trans tX
        have hovX := hov.sub tX
        simp -implicitDefEqProofs only [go_sem, Nat.reduceEqDiff, Nat.reduceLT, Nat.reduceAdd, Nat.reduceMul, Int.reduceEq, Int.reduceLT, Int.reduceLE, Int.reduceNe, Int.reduceBEq, Int.reduceToNat, ↓reduceIte, lX]
        refine rright_ok.mono ?_
        rintro r H6 ⟨rfl, rfl⟩
        rw [right3]
        simp -implicitDefEqProofs only [go_sem, Nat.reduceEqDiff, Nat.reduceLT, Nat.reduceAdd, Nat.reduceMul, Int.reduceEq, Int.reduceLT, Int.reduceLE, Int.reduceNe, Int.reduceBEq, Int.reduceToNat, ↓reduceIte]
        refine vdraw_t [⟨0, .p, [], []⟩, ⟨1, .n, [], []⟩, ⟨4, .p, [], []⟩, ⟨5, .p, [], []⟩, ⟨6, .n, [], []⟩, ⟨2, .c, [6], []⟩, ⟨3, .c, [6], []⟩, ⟨7, .p, [], []⟩, ⟨8, .p, [], []⟩] [0, 0, 2, 7, 0, 0, 48, 15, 255] mixed (by kernel_rfl) ?_
        simp -implicitDefEqProofs only [go_sem, Nat.reduceEqDiff, Nat.reduceLT, Nat.reduceAdd, Nat.reduceMul, Int.reduceEq, Int.reduceLT, Int.reduceLE, Int.reduceNe, Int.reduceBEq, Int.reduceToNat, ↓reduceIte, f1, f7, lX]
        obtain ⟨a2, n2, c2, r2, e3, en2, hk2, hnc2, er2, hr2⟩ := Bt.low hbr (k := 1) (by omega)
        have ea2 : some ta = a2 := by injection e3
        have ec2 : rc = c2 := by injection e3
        subst ea2 ec2 en2
        refine ⟨r2, ?_, ?_⟩
        · refine slice_lo (dst := none) (ty := 0) (pos := "") (after := #[]) (g := none) (a := some ta) (n := rest.length) (c := rc) (l := 1) Tryd.underlying22 s5 (by simp -implicitDefEqProofs only [go_sem, Nat.reduceEqDiff, Nat.reduceLT, Nat.reduceAdd, Nat.reduceMul, Int.reduceEq, Int.reduceLT, Int.reduceLE, Int.reduceNe, Int.reduceBEq, Int.reduceToNat, ↓reduceIte, f1, f7]) (by first | rfl | simp -implicitDefEqProofs only [go_sem, Nat.reduceEqDiff, Nat.reduceLT, Nat.reduceAdd, Nat.reduceMul, Int.reduceEq, Int.reduceLT, Int.reduceLE, Int.reduceNe, Int.reduceBEq, Int.reduceToNat, ↓reduceIte, f1, f7]) (by omega) ?_
          rw [er2]
          exact ⟨rfl, rfl⟩
        simp -implicitDefEqProofs only [go_sem, Nat.reduceEqDiff, Nat.reduceLT, Nat.reduceAdd, Nat.reduceMul, Int.reduceEq, Int.reduceLT, Int.reduceLE, Int.reduceNe, Int.reduceBEq, Int.reduceToNat, ↓reduceIte, f1, f7]
        refine newK_of ?_
        intro bw H8 hbw hnw hw8 sw gw
        have hone : H8 bw = some (.cells ([⟨3, 0, [], decide (b.toNat = 1)⟩].flatMap vc).toArray 36 (0, 0)) := by rw [hw8]; simp
        have hvs : Vs w0 H8 (.slice (some ⟨bw, 0, none⟩) 1 1) [⟨3, 0, [], decide (b.toNat = 1)⟩] := by
          refine .inr ⟨_, _, rfl, Nat.le_refl _, ?_⟩
          rw [ldCells_row hone 0 _ 0 (by simp [vc])]
          rfl
        simp -implicitDefEqProofs only [go_sem, Nat.reduceEqDiff, Nat.reduceLT, Nat.reduceAdd, Nat.reduceMul, Int.reduceEq, Int.reduceLT, Int.reduceLE, Int.reduceNe, Int.reduceBEq, Int.reduceToNat, ↓reduceIte, f1, f7]
        refine ⟨?_, ?_⟩
        · refine slice_lo (dst := none) (ty := 0) (pos := "") (after := #[]) (g := none) (a := some ta) (n := rest.length) (c := rc) (l := 1) Tryd.underlying22 s5 (by simp -implicitDefEqProofs only [go_sem, Nat.reduceEqDiff, Nat.reduceLT, Nat.reduceAdd, Nat.reduceMul, Int.reduceEq, Int.reduceLT, Int.reduceLE, Int.reduceNe, Int.reduceBEq, Int.reduceToNat, ↓reduceIte, f1, f7]) (by first | rfl | simp -implicitDefEqProofs only [go_sem, Nat.reduceEqDiff, Nat.reduceLT, Nat.reduceAdd, Nat.reduceMul, Int.reduceEq, Int.reduceLT, Int.reduceLE, Int.reduceNe, Int.reduceBEq, Int.reduceToNat, ↓reduceIte, f1, f7]) (by omega) ?_
          rw [er2]
          exact ⟨rfl, rfl⟩
        refine app_v (Hb := H1) (by simp -implicitDefEqProofs only [go_sem, Nat.reduceEqDiff, Nat.reduceLT, Nat.reduceAdd, Nat.reduceMul, Int.reduceEq, Int.reduceLT, Int.reduceLE, Int.reduceNe, Int.reduceBEq, Int.reduceToNat, ↓reduceIte, f1, f7]) (hovX.sub sw) (by simp -implicitDefEqProofs only [go_sem, Nat.reduceEqDiff, Nat.reduceLT, Nat.reduceAdd, Nat.reduceMul, Int.reduceEq, Int.reduceLT, Int.reduceLE, Int.reduceNe, Int.reduceBEq, Int.reduceToNat, ↓reduceIte, f1, f7]) hvs (by simp; omega) hf (stX.trans sw) ?_
        intro r9 H9 o9 f9 s9 a9
        simp -implicitDefEqProofs only [go_sem, Nat.reduceEqDiff, Nat.reduceLT, Nat.reduceAdd, Nat.reduceMul, Int.reduceEq, Int.reduceLT, Int.reduceLE, Int.reduceNe, Int.reduceBEq, Int.reduceToNat, ↓reduceIte, f1, f7]
        refine ⟨?_, ?_⟩
        · refine slice_lo (dst := none) (ty := 0) (pos := "") (after := #[]) (g := none) (a := some ta) (n := rest.length) (c := rc) (l := 1) Tryd.underlying22 s5 (by simp -implicitDefEqProofs only [go_sem, Nat.reduceEqDiff, Nat.reduceLT, Nat.reduceAdd, Nat.reduceMul, Int.reduceEq, Int.reduceLT, Int.reduceLE, Int.reduceNe, Int.reduceBEq, Int.reduceToNat, ↓reduceIte, f1, f7]) (by first | rfl | simp -implicitDefEqProofs only [go_sem, Nat.reduceEqDiff, Nat.reduceLT, Nat.reduceAdd, Nat.reduceMul, Int.reduceEq, Int.reduceLT, Int.reduceLE, Int.reduceNe, Int.reduceBEq, Int.reduceToNat, ↓reduceIte, f1, f7]) (by omega) ?_
          rw [er2]
          exact ⟨rfl, rfl⟩
        simp -implicitDefEqProofs only [go_sem, Nat.reduceEqDiff, Nat.reduceLT, Nat.reduceAdd, Nat.reduceMul, Int.reduceEq, Int.reduceLT, Int.reduceLE, Int.reduceNe, Int.reduceBEq, Int.reduceToNat, ↓reduceIte, f33, d2]
        exact ⟨m - 1, by omega, i + 1, by omega, by simp -implicitDefEqProofs only [go_sem, Nat.reduceEqDiff, Nat.reduceLT, Nat.reduceAdd, Nat.reduceMul, Int.reduceEq, Int.reduceLT, Int.reduceLE, Int.reduceNe, Int.reduceBEq, Int.reduceToNat, ↓reduceIte, f31]; rw [ea'], by simp -implicitDefEqProofs only [go_sem, Nat.reduceEqDiff, Nat.reduceLT, Nat.reduceAdd, Nat.reduceMul, Int.reduceEq, Int.reduceLT, Int.reduceLE, Int.reduceNe, Int.reduceBEq, Int.reduceToNat, ↓reduceIte, f32], by simp -implicitDefEqProofs only [go_sem, Nat.reduceEqDiff, Nat.reduceLT, Nat.reduceAdd, Nat.reduceMul, Int.reduceEq, Int.reduceLT, Int.reduceLE, Int.reduceNe, Int.reduceBEq, Int.reduceToNat, ↓reduceIte], by simp -implicitDefEqProofs only [go_sem, Nat.reduceEqDiff, Nat.reduceLT, Nat.reduceAdd, Nat.reduceMul, Int.reduceEq, Int.reduceLT, Int.reduceLE, Int.reduceNe, Int.reduceBEq, Int.reduceToNat, ↓reduceIte, f6]; rw [hdiv], rest.drop (1), r2, r9, done ++ [⟨3, 0, [], decide (b.toNat = 1)⟩], by simp -implicitDefEqProofs only [go_sem, Nat.reduceEqDiff, Nat.reduceLT, Nat.reduceAdd, Nat.reduceMul, Int.reduceEq, Int.reduceLT, Int.reduceLE, Int.reduceNe, Int.reduceBEq, Int.reduceToNat, ↓reduceIte], by simp -implicitDefEqProofs only [go_sem, Nat.reduceEqDiff, Nat.reduceLT, Nat.reduceAdd, Nat.reduceMul, Int.reduceEq, Int.reduceLT, Int.reduceLE, Int.reduceNe, Int.reduceBEq, Int.reduceToNat, ↓reduceIte], hr2, o9, f9, s9, by simp; omega, by rw [List.length_drop]; omega, goodT _ _ et⟩
      · have dg : decide ((1 : Int) < (b.toNat : Int)) = true := decide_eq_true (by omega)
        simp -implicitDefEqProofs only [go_sem, Nat.reduceEqDiff, Nat.reduceLT, Nat.reduceAdd, Nat.reduceMul, Int.reduceEq, Int.reduceLT, Int.reduceLE, Int.reduceNe, Int.reduceBEq, Int.reduceToNat, ↓reduceIte, e1, e2, f1, g8, g8', lt, dg]
        exact RwQ.bad st4 hrk (badT (by rw [et, if_neg c1]))
    · have db : decide (((M % 2 : Nat) : Int) = 1) = true := decide_eq_true (by omega)
      rw [if_pos hbit] at hat
      rw [hat, map_snoc] at hr
      simp -implicitDefEqProofs only [go_sem, Nat.reduceEqDiff, Nat.reduceLT, Nat.reduceAdd, Nat.reduceMul, Int.reduceEq, Int.reduceLT, Int.reduceLE, Int.reduceNe, Int.reduceBEq, Int.reduceToNat, ↓reduceIte, f6, f31, f32, f33, d0, d1, la, wt, db, wq]
      refine newK_of ?_
      intro b3 H3 hb3 hn3 h3 s3 g3
      simp -implicitDefEqProofs only [go_sem, Nat.reduceEqDiff, Nat.reduceLT, Nat.reduceAdd, Nat.reduceMul, Int.reduceEq, Int.reduceLT, Int.reduceLE, Int.reduceNe, Int.reduceBEq, Int.reduceToNat, ↓reduceIte]
      refine store_all (cs := (vc ⟨k.toNat, 0, [], false⟩).toArray) h3 rfl rfl s36 ?_
      intro H4 h4 g4
      have t4' : Sub H2 H4 := Sub.ne2 hn3 g3 g4
      simp -implicitDefEqProofs only [go_sem, Nat.reduceEqDiff, Nat.reduceLT, Nat.reduceAdd, Nat.reduceMul, Int.reduceEq, Int.reduceLT, Int.reduceLE, Int.reduceNe, Int.reduceBEq, Int.reduceToNat, ↓reduceIte]
      refine store_all (cs := (vc ⟨0, 0, [], false⟩).toArray) h4 rfl rfl s36 ?_
      intro HX hz gz
      have lX := ldc w0 (l := vc ⟨0, 0, [], false⟩) hz 4
      have tX : Sub H2 HX := fun j o hj => (gz j fun e => by rw [e, hn3] at hj; cases hj).trans (t4' _ _ hj)
      have stX := hs.trans tX
      have hovX := hov.sub tX
      simp -implicitDefEqProofs only [go_sem, Nat.reduceEqDiff, Nat.reduceLT, Nat.reduceAdd, Nat.reduceMul, Int.reduceEq, Int.reduceLT, Int.reduceLE, Int.reduceNe, Int.reduceBEq, Int.reduceToNat, ↓reduceIte, lX]
      refine rright_ok.mono ?_
      rintro r H6 ⟨rfl, rfl⟩
      rw [right0]
      simp -implicitDefEqProofs only [go_sem, Nat.reduceEqDiff, Nat.reduceLT, Nat.reduceAdd, Nat.reduceMul, Int.reduceEq, Int.reduceLT, Int.reduceLE, Int.reduceNe, Int.reduceBEq, Int.reduceToNat, ↓reduceIte]
      refine vdraw_t [⟨0, .p, [], []⟩, ⟨1, .n, [], []⟩, ⟨4, .p, [], []⟩, ⟨5, .p, [], []⟩, ⟨6, .n, [], []⟩, ⟨2, .c, [6], []⟩, ⟨3, .c, [6], []⟩, ⟨7, .p, [], []⟩, ⟨8, .p, [], []⟩] [0, 0, 2, 7, 0, 0, 48, 15, 255] mixed (by kernel_rfl) ?_
      simp -implicitDefEqProofs only [go_sem, Nat.reduceEqDiff, Nat.reduceLT, Nat.reduceAdd, Nat.reduceMul, Int.reduceEq, Int.reduceLT, Int.reduceLE, Int.reduceNe, Int.reduceBEq, Int.reduceToNat, ↓reduceIte, f1, f7, lX]
      obtain ⟨a2, n2, c2, r2, e3, en2, hk2, hnc2, er2, hr2⟩ := Bt.low hbr (k := 0) (Nat.zero_le _)
      have ea2 : ra = a2 := by injection e3
      have ec2 : rc = c2 := by injection e3
      subst ea2 ec2 en2
      refine ⟨r2, ?_, ?_⟩
      · refine slice_lo (dst := none) (ty := 0) (pos := "") (after := #[]) (g := none) (a := ra) (n := rest.length) (c := rc) (l := 0) Tryd.underlying22 s5 (by simp -implicitDefEqProofs only [go_sem, Nat.reduceEqDiff, Nat.reduceLT, Nat.reduceAdd, Nat.reduceMul, Int.reduceEq, Int.reduceLT, Int.reduceLE, Int.reduceNe, Int.reduceBEq, Int.reduceToNat, ↓reduceIte, f1, f7]) (by first | rfl | simp -implicitDefEqProofs only [go_sem, Nat.reduceEqDiff, Nat.reduceLT, Nat.reduceAdd, Nat.reduceMul, Int.reduceEq, Int.reduceLT, Int.reduceLE, Int.reduceNe, Int.reduceBEq, Int.reduceToNat, ↓reduceIte, f1, f7]) (by omega) ?_
        rw [er2]
        exact ⟨rfl, rfl⟩
      simp -implicitDefEqProofs only [go_sem, Nat.reduceEqDiff, Nat.reduceLT, Nat.reduceAdd, Nat.reduceMul, Int.reduceEq, Int.reduceLT, Int.reduceLE, Int.reduceNe, Int.reduceBEq, Int.reduceToNat, ↓reduceIte, f1, f7]
      refine newK_of ?_
      intro bw H8 hbw hnw hw8 sw gw
      have hone : H8 bw = some (.cells ([⟨0, 0, [], false⟩].flatMap vc).toArray 36 (0, 0)) := by rw [hw8]; simp
      have hvs : Vs w0 H8 (.slice (some ⟨bw, 0, none⟩) 1 1) [⟨0, 0, [], false⟩] := by
        refine .inr ⟨_, _, rfl, Nat.le_refl _, ?_⟩
        rw [ldCells_row hone 0 _ 0 (by simp [vc])]
        rfl
      simp -implicitDefEqProofs only [go_sem, Nat.reduceEqDiff, Nat.reduceLT, Nat.reduceAdd, Nat.reduceMul, Int.reduceEq, Int.reduceLT, Int.reduceLE, Int.reduceNe, Int.reduceBEq, Int.reduceToNat, ↓reduceIte, f1, f7]
      refine ⟨?_, ?_⟩
      · refine slice_lo (dst := none) (ty := 0) (pos := "") (after := #[]) (g := none) (a := ra) (n := rest.length) (c := rc) (l := 0) Tryd.underlying22 s5 (by simp -implicitDefEqProofs only [go_sem, Nat.reduceEqDiff, Nat.reduceLT, Nat.reduceAdd, Nat.reduceMul, Int.reduceEq, Int.reduceLT, Int.reduceLE, Int.reduceNe, Int.reduceBEq, Int.reduceToNat, ↓reduceIte, f1, f7]) (by first | rfl | simp -implicitDefEqProofs only [go_sem, Nat.reduceEqDiff, Nat.reduceLT, Nat.reduceAdd, Nat.reduceMul, Int.reduceEq, Int.reduceLT, Int.reduceLE, Int.reduceNe, Int.reduceBEq, Int.reduceToNat, ↓reduceIte, f1, f7]) (by omega) ?_
        rw [er2]
        exact ⟨rfl, rfl⟩
      refine app_v (Hb := H1) (by simp -implicitDefEqProofs only [go_sem, Nat.reduceEqDiff, Nat.reduceLT, Nat.reduceAdd, Nat.reduceMul, Int.reduceEq, Int.reduceLT, Int.reduceLE, Int.reduceNe, Int.reduceBEq, Int.reduceToNat, ↓reduceIte, f1, f7]) (hovX.sub sw) (by simp -implicitDefEqProofs only [go_sem, Nat.reduceEqDiff, Nat.reduceLT, Nat.reduceAdd, Nat.reduceMul, Int.reduceEq, Int.reduceLT, Int.reduceLE, Int.reduceNe, Int.reduceBEq, Int.reduceToNat, ↓reduceIte, f1, f7]) hvs (by simp; omega) hf (stX.trans sw) ?_
      intro r9 H9 o9 f9 s9 a9
      simp -implicitDefEqProofs only [go_sem, Nat.reduceEqDiff, Nat.reduceLT, Nat.reduceAdd, Nat.reduceMul, Int.reduceEq, Int.reduceLT, Int.reduceLE, Int.reduceNe, Int.reduceBEq, Int.reduceToNat, ↓reduceIte, f1, f7]
      refine ⟨?_, ?_⟩
      · refine slice_lo (dst := none) (ty := 0) (pos := "") (after := #[]) (g := none) (a := ra) (n := rest.length) (c := rc) (l := 0) Tryd.underlying22 s5 (by simp -implicitDefEqProofs only [go_sem, Nat.reduceEqDiff, Nat.reduceLT, Nat.reduceAdd, Nat.reduceMul, Int.reduceEq, Int.reduceLT, Int.reduceLE, Int.reduceNe, Int.reduceBEq, Int.reduceToNat, ↓reduceIte, f1, f7]) (by first | rfl | simp -implicitDefEqProofs only [go_sem, Nat.reduceEqDiff, Nat.reduceLT, Nat.reduceAdd, Nat.reduceMul, Int.reduceEq, Int.reduceLT, Int.reduceLE, Int.reduceNe, Int.reduceBEq, Int.reduceToNat, ↓reduceIte, f1, f7]) (by omega) ?_
        rw [er2]
        exact ⟨rfl, rfl⟩
      simp -implicitDefEqProofs only [go_sem, Nat.reduceEqDiff, Nat.reduceLT, Nat.reduceAdd, Nat.reduceMul, Int.reduceEq, Int.reduceLT, Int.reduceLE, Int.reduceNe, Int.reduceBEq, Int.reduceToNat, ↓reduceIte, f33, d2]
      exact ⟨m - 1, by omega, i + 1, by omega, by simp -implicitDefEqProofs only [go_sem, Nat.reduceEqDiff, Nat.reduceLT, Nat.reduceAdd, Nat.reduceMul, Int.reduceEq, Int.reduceLT, Int.reduceLE, Int.reduceNe, Int.reduceBEq, Int.reduceToNat, ↓reduceIte, f31]; rw [ea'], by simp -implicitDefEqProofs only [go_sem, Nat.reduceEqDiff, Nat.reduceLT, Nat.reduceAdd, Nat.reduceMul, Int.reduceEq, Int.reduceLT, Int.reduceLE, Int.reduceNe, Int.reduceBEq, Int.reduceToNat, ↓reduceIte, f32], by simp -implicitDefEqProofs only [go_sem, Nat.reduceEqDiff, Nat.reduceLT, Nat.reduceAdd, Nat.reduceMul, Int.reduceEq, Int.reduceLT, Int.reduceLE, Int.reduceNe, Int.reduceBEq, Int.reduceToNat, ↓reduceIte], by simp -implicitDefEqProofs only [go_sem, Nat.reduceEqDiff, Nat.reduceLT, Nat.reduceAdd, Nat.reduceMul, Int.reduceEq, Int.reduceLT, Int.reduceLE, Int.reduceNe, Int.reduceBEq, Int.reduceToNat, ↓reduceIte, f6]; rw [hdiv], rest.drop (0), r2, r9, done ++ [⟨0, 0, [], false⟩], by simp -implicitDefEqProofs only [go_sem, Nat.reduceEqDiff, Nat.reduceLT, Nat.reduceAdd, Nat.reduceMul, Int.reduceEq, Int.reduceLT, Int.reduceLE, Int.reduceNe, Int.reduceBEq, Int.reduceToNat, ↓reduceIte], by simp -implicitDefEqProofs only [go_sem, Nat.reduceEqDiff, Nat.reduceLT, Nat.reduceAdd, Nat.reduceMul, Int.reduceEq, Int.reduceLT, Int.reduceLE, Int.reduceNe, Int.reduceBEq, Int.reduceToNat, ↓reduceIte], hr2, o9, f9, s9, by simp; omega, by rw [List.length_drop]; omega, hr⟩
  · have d1 : decide ((i : Int) < (ks.length : Int)) = false := decide_eq_false (by omega)
    have hnil : ks.drop i = [] := List.drop_eq_nil_of_le (by omega)
    rw [hnil] at hr
    by_cases cM : M = 0
    · have dM : decide ((M : Int) = 0) = true := decide_eq_true (by omega)
      rw [cM] at hr
      cases rest with
      | nil =>
        have e0 : decide ((0 : Int) < (([] : List UInt8).length : Int)) = false := rfl
        have e0' : decide ((0 : Int) < 0) = false := rfl
        have e0'' : decide ((0 : Int) < ((0 : Nat) : Int)) = false := rfl
        simp -implicitDefEqProofs only [go_sem, Nat.reduceEqDiff, Nat.reduceLT, Nat.reduceAdd, Nat.reduceMul, Int.reduceEq, Int.reduceLT, Int.reduceLE, Int.reduceNe, Int.reduceBEq, Int.reduceToNat, ↓reduceIte, f1, f6, f7, f32, f33, d1, dM, e0, e0', e0'']
        refine RwQ.good hs hrk ?_ hov
        rw [er, ← hr]
        show some (done ++ []) = some done
        rw [List.append_nil]
      | cons b r =>
        have e0 : decide ((0 : Int) < ((b :: r).length : Int)) = true := decide_eq_true (by rw [List.length_cons]; omega)
        have e0' : decide ((0 : Int) < ((r.length + 1 : Nat) : Int)) = true := decide_eq_true (by omega)
        simp -implicitDefEqProofs only [go_sem, Nat.reduceEqDiff, Nat.reduceLT, Nat.reduceAdd, Nat.reduceMul, Int.reduceEq, Int.reduceLT, Int.reduceLE, Int.reduceNe, Int.reduceBEq, Int.reduceToNat, ↓reduceIte, f1, f6, f7, f32, f33, d1, dM, e0, e0']
        refine RwQ.bad hs hrk ?_
        rw [er, ← hr]
        rfl
    · have dM : decide ((M : Int) = 0) = false := decide_eq_false (by omega)
      simp -implicitDefEqProofs only [go_sem, Nat.reduceEqDiff, Nat.reduceLT, Nat.reduceAdd, Nat.reduceMul, Int.reduceEq, Int.reduceLT, Int.reduceLE, Int.reduceNe, Int.reduceBEq, Int.reduceToNat, ↓reduceIte, f1, f6, f7, f32, f33, d1, dM]
      refine RwQ.bad hs hrk ?_
      rw [er, ← hr]
      unfold rwd
      rw [if_neg (fun e => cM e.1)]
      rfl
end
end Go.Proofs.YtoolnkemkhianaaDoor
