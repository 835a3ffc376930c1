/-
  Slices that are only read, bytes as strings, calls of functions without a body.
  No condition: every theorem here is general.
-/
import Derived.Test.YtoolnkemkhianaaDoorAwy
namespace Go.Proofs.YtoolnkemkhianaaDoorW
open Go Go.RowKit
set_option linter.unusedSimpArgs false
set_option linter.unusedVariables false

theorem add_add (a : Addr) (i j : Nat) : (a.add i).add j = a.add (i + j) := by
  unfold Addr.add
  by_cases hi : i = 0
  · subst hi; simp
  · by_cases hj : j = 0
    · subst hj; simp
    · simp [hi, hj, Nat.add_assoc]
theorem add_zero' (a : Addr) : a.add 0 = a := rfl
theorem ldCells_add {w0 : World} {H : Hp} {a : Addr} {i : Nat} : ∀ (n j : Nat), ldCells w0 H (a.add i) j n = ldCells w0 H a (i + j) n
  | 0, j => rfl
  | n + 1, j => by
    simp only [ldCells, add_add]
    rw [ldCells_add n (j + 1), show i + (j + 1) = i + j + 1 by omega]
theorem ldCells_len {w0 : World} {H : Hp} {a : Addr} : ∀ {n j : Nat} {xs : List Value}, ldCells w0 H a j n = some xs → xs.length = n
  | 0, j, xs, h => by simp only [ldCells, Option.some.injEq] at h; subst h; rfl
  | n + 1, j, xs, h => by
    simp only [ldCells] at h
    cases hv : ld w0 H (a.add j) with
    | none => rw [hv] at h; cases h
    | some v =>
      rw [hv, Option.bind_some] at h
      cases hl : ldCells w0 H a (j + 1) n with
      | none => rw [hl] at h; cases h
      | some l =>
        rw [hl, Option.map_some, Option.some.injEq] at h
        subst h
        rw [List.length_cons, ldCells_len hl]
theorem ldCells_part {w0 : World} {H : Hp} {a : Addr} : ∀ {n j : Nat} {xs : List Value}, ldCells w0 H a j n = some xs → ∀ k m, k + m ≤ n → ldCells w0 H a (j + k) m = some ((xs.drop k).take m)
  | n, j, xs, h, k, 0, hk => by simp [ldCells]
  | 0, j, xs, h, k, m + 1, hk => by omega
  | n + 1, j, xs, h, k, m + 1, hk => by
    have h' := h
    simp only [ldCells] at h
    cases hv : ld w0 H (a.add j) with
    | none => rw [hv] at h; cases h
    | some v =>
      rw [hv, Option.bind_some] at h
      cases hl : ldCells w0 H a (j + 1) n with
      | none => rw [hl] at h; cases h
      | some l =>
        rw [hl, Option.map_some, Option.some.injEq] at h
        subst h
        cases k with
        | zero =>
          simp only [ldCells, Nat.add_zero, hv, Option.bind_some]
          have := ldCells_part hl 0 m (by omega)
          rw [Nat.add_zero] at this
          rw [this]
          simp
        | succ k =>
          have := ldCells_part hl k (m + 1) (by omega)
          rw [show j + (k + 1) = j + 1 + k by omega, this, List.drop_succ_cons]

/-- v is a slice of n elements of sz cells each, which read as xs: the call's own or the caller's. -/
def Rd (w0 : World) (H : Hp) (sz : Nat) (v : Value) (n : Nat) (xs : List Value) : Prop :=
  (v = .slice none 0 0 ∧ n = 0 ∧ xs = []) ∨ ∃ a c, v = .slice (some a) n c ∧ n ≤ c ∧ ldCells w0 H a 0 (n * sz) = some xs
section
variable {w0 : World} {H H' : Hp} {sz n : Nat} {v : Value} {xs : List Value}
theorem Rd.len (h : Rd w0 H sz v n xs) : xs.length = n * sz := by
  rcases h with ⟨_, rfl, rfl⟩ | ⟨a, c, _, _, h⟩
  · simp
  · exact ldCells_len h
theorem Rd.slice (h : Rd w0 H sz v n xs) : ∃ a c, v = .slice a n c ∧ n ≤ c := by
  rcases h with ⟨rfl, rfl, rfl⟩ | ⟨a, c, h1, h2, _⟩
  · exact ⟨none, 0, rfl, Nat.le_refl _⟩
  · exact ⟨some a, c, h1, h2⟩
theorem Rd.open (h : Rd w0 H sz v n xs) (hn : 0 < n) : ∃ a c, v = .slice (some a) n c ∧ n ≤ c ∧ ldCells w0 H a 0 (n * sz) = some xs := by
  rcases h with ⟨_, rfl, _⟩ | h
  · omega
  · exact h
theorem Row.rd {e : Nat} (h : Row H e sz v n xs) : Rd w0 H sz v n xs := by
  obtain ⟨hl, ⟨rfl, rfl⟩ | ⟨g, cap, cur, rfl, hg, hn, hs, ht⟩⟩ := h
  · exact .inl ⟨rfl, rfl, List.eq_nil_of_length_eq_zero (by simpa using hl)⟩
  · refine .inr ⟨_, _, rfl, hn, ?_⟩
    have hle : n * sz ≤ cap * sz := Nat.mul_le_mul_right _ hn
    rw [ldCells_row hg 0 (n * sz) 0 (by omega), Nat.zero_add, List.drop_zero, ht]
theorem ld_sub {a : Addr} {u : Value} (h : ld w0 H a = some u) (hs : Sub H H') (hh : ∀ b o, H' b = some o → w0.heap.size ≤ b) : ld w0 H' a = some u := by
  unfold ld at h ⊢
  cases e : H a.block with
  | some o => rw [e] at h; rw [hs _ _ e]; exact h
  | none =>
    rw [e] at h
    have hlt := World.block_lt_of_cell? w0 a h
    cases e' : H' a.block with
    | none => exact h
    | some o => have := hh _ _ e'; omega
theorem ldCells_sub {a : Addr} (hs : Sub H H') (hh : ∀ b o, H' b = some o → w0.heap.size ≤ b) : ∀ {n j : Nat} {xs : List Value}, ldCells w0 H a j n = some xs → ldCells w0 H' a j n = some xs
  | 0, j, xs, h => h
  | n + 1, j, xs, h => by
    simp only [ldCells] at h ⊢
    cases hv : ld w0 H (a.add j) with
    | none => rw [hv] at h; cases h
    | some v =>
      rw [hv, Option.bind_some] at h
      rw [ld_sub hv hs hh, Option.bind_some]
      cases hl : ldCells w0 H a (j + 1) n with
      | none => rw [hl] at h; cases h
      | some l => rw [hl] at h; rw [ldCells_sub hs hh hl]; exact h
theorem Rd.sub (h : Rd w0 H sz v n xs) (hs : Sub H H') (hh : ∀ b o, H' b = some o → w0.heap.size ≤ b) : Rd w0 H' sz v n xs := by
  rcases h with h | ⟨a, c, h1, h2, h3⟩
  · exact .inl h
  · exact .inr ⟨a, c, h1, h2, ldCells_sub hs hh h3⟩
/-- An element's cells. -/
theorem Rd.cells (h : Rd w0 H sz v n xs) {k : Nat} (hk : k < n) : ∃ a c, v = .slice (some a) n c ∧ ldCells w0 H (a.add (k * sz)) 0 sz = some ((xs.drop (k * sz)).take sz) := by
  obtain ⟨a, c, h1, _, h3⟩ := h.open (by omega)
  have hle : k * sz + sz ≤ n * sz := by rw [← Nat.succ_mul]; exact Nat.mul_le_mul_right _ (by omega)
  refine ⟨a, c, h1, ?_⟩
  rw [ldCells_add]
  have := ldCells_part h3 (k * sz) sz hle
  rw [Nat.zero_add] at this
  exact this
theorem Rd.at1 (h : Rd w0 H 1 v n xs) {k : Nat} {y : Value} (hk : xs[k]? = some y) : ∃ a c, v = .slice (some a) n c ∧ ld w0 H (a.add k) = some y := by
  have hl := h.len
  have hkn : k < n := by have := (List.getElem?_eq_some_iff.1 hk).1; omega
  obtain ⟨a, c, h1, h2⟩ := h.cells hkn
  refine ⟨a, c, h1, ?_⟩
  rw [Nat.mul_one] at h2
  have := ldCells_get h2 0 (by omega)
  rw [add_add] at this
  simp only [Nat.add_zero] at this
  rw [this, List.getElem?_take_of_lt (by omega), List.getElem?_drop, Nat.add_zero]
  exact hk
/-- The front of a slice. -/
theorem Rd.front (h : Rd w0 H sz v n xs) {k : Nat} (hk : k ≤ n) {a : Option Addr} {n' c : Nat} (hv : v = .slice a n' c) : Rd w0 H sz (.slice a k c) k (xs.take (k * sz)) := by
  rcases h with ⟨rfl, rfl, rfl⟩ | ⟨b, c', h1, h2, h3⟩
  · cases hv
    have : k = 0 := by omega
    subst this
    exact .inl ⟨rfl, rfl, by simp⟩
  · rw [hv] at h1
    cases h1
    refine .inr ⟨b, c, rfl, by omega, ?_⟩
    have := ldCells_part h3 0 (k * sz) (by rw [Nat.zero_add]; exact Nat.mul_le_mul_right _ hk)
    rw [Nat.zero_add, List.drop_zero] at this
    exact this
/-- What stands behind. -/
theorem Rd.back (h : Rd w0 H sz v n xs) {k : Nat} (hk : k ≤ n) {a : Option Addr} {n' c : Nat} (hv : v = .slice a n' c) : Rd w0 H sz (.slice (if c = k then a else a.map (·.add (k * sz))) (n - k) (c - k)) (n - k) (xs.drop (k * sz)) := by
  rcases h with ⟨rfl, rfl, rfl⟩ | ⟨b, c', h1, h2, h3⟩
  · cases hv
    have : k = 0 := by omega
    subst this
    exact .inl ⟨rfl, rfl, by simp⟩
  · rw [hv] at h1
    cases h1
    by_cases hc : c = k
    · have hnk : n - k = 0 := by omega
      rw [if_pos hc, hnk]
      refine .inr ⟨b, _, rfl, by omega, ?_⟩
      have hd : xs.drop (k * sz) = [] := by
        rw [List.drop_eq_nil_of_le]
        rw [ldCells_len h3]; exact Nat.mul_le_mul_right _ (by omega)
      rw [hd]; simp [ldCells]
    · rw [if_neg hc]
      refine .inr ⟨b.add (k * sz), _, rfl, by omega, ?_⟩
      rw [ldCells_add, Nat.add_zero]
      have hm : k * sz + (n - k) * sz = n * sz := by rw [← Nat.add_mul]; congr 1; omega
      have := ldCells_part h3 (k * sz) ((n - k) * sz) (by omega)
      rw [Nat.zero_add] at this
      rw [this, List.take_of_length_le]
      rw [List.length_drop, ldCells_len h3]; omega
end

/-! ### Bytes -/
def u8s (p : List UInt8) : List Value := p.map fun b => .int .u8 (b.toNat : Int)
theorem u8s_len (p : List UInt8) : (u8s p).length = p.length := by simp [u8s]
section
variable {P : Program} {w0 : World} {F : Fr} {H : Hp} {K : Value → Hp → Prop} {dst : Option Tmp} {ty : TypeId} {pos : String} {after : Array Edge} {g : Option (Nat × Bool)}
theorem awp_pushBytes {f : Value → ByteArray → Sem (ForInStep ByteArray)} (hf : ∀ (b : UInt8) (s : ByteArray) (Q : ForInStep ByteArray → Hp → Prop), awp P w0 (f (.int .u8 (b.toNat : Int)) s) Q H = Q (.yield (s.push b)) H) (Q : ByteArray → Hp → Prop) : ∀ (p : List UInt8) (s : ByteArray),
    awp P w0 (forIn (u8s p) s f) Q H = Q ⟨(s.data.toList ++ p).toArray⟩ H
  | [], s => by
    simp only [u8s, List.map_nil, List.forIn_nil, awp_pure, List.append_nil]
  | b :: p, s => by
    have e : u8s (b :: p) = .int .u8 (b.toNat : Int) :: u8s p := rfl
    rw [e]
    simp only [List.forIn_cons, awp_bind, hf, BindK]
    rw [awp_pushBytes hf Q p]
    congr 1
    simp [ByteArray.push]
theorem awp_bytesToString {v : Value} {p : List UInt8} (hr : Rd w0 H 1 v p.length (u8s p)) (Q : Value → Hp → Prop) : awp P w0 (Conv.bytesToString v) Q H = Q (.string ⟨p.toArray⟩) H := by
  rcases hr with ⟨rfl, h0, _⟩ | ⟨a, c, rfl, _, h3⟩
  · have : p = [] := List.eq_nil_of_length_eq_zero h0
    subst this
    rfl
  · rw [Nat.mul_one] at h3
    unfold Conv.bytesToString
    simp only [awp_bind, loadCells, awp_loadCellsFrom, h3, OptK, BindK, List.forIn_toArray]
    simp only [Array.empty_append, List.forIn_toArray]
    rw [awp_pushBytes (H := H)]
    · rfl
    · intro b s Q'
      simp only [awp_pure, Int.toNat_natCast, UInt8.ofNat_toNat]
theorem conv_bytes {s d : TypeId} {x : Operand} {v : Value} {p : List UInt8} {es : TypeId} (hs : P.underlying s = some (.slice es)) (he : P.underlying es = some (.int .u8)) (hd : P.underlying d = some .string) (hx : evF F x = v) (hr : Rd w0 H 1 v p.length (u8s p))
    (hK : K (.string ⟨p.toArray⟩) H) : AOp P w0 F ⟨dst, .convert s d x, ty, pos, after, g⟩ K H := by
  have e : awp P w0 (convert s d v) = awp P w0 (Conv.bytesToString v) := by
    funext Q H
    obtain ⟨a, c, hv, _⟩ := hr.slice
    subst hv
    unfold convert
    simp only [awp_bind, awp_underlying, hs, hd, OptK, BindK, he]
  unfold AOp
  simp only [execOp, awp_bind, hx, e, awp_bytesToString hr, BindK, awp_pure, ANx]
  exact hK
/-- A part of a slice, by its bounds. -/
theorem slice_lo {t e sz : Nat} {x lo : Operand} (ht : P.underlying t = some (.slice e)) (hsz : szOf P e = some sz) {a : Option Addr} {n c l : Nat} (hx : evF F x = .slice a n c) (hl : evF F lo = .int .i64 (l : Int)) (h1 : l ≤ n)
    (hK : K (.slice (if c = l then a else a.map (·.add (l * sz))) (n - l) (c - l)) H) : AOp P w0 F ⟨dst, .slice t x (some lo) none none, ty, pos, after, g⟩ K H := by
  unfold AOp
  simp only [execOp, awp_bind, Instr.sliceAt, Option.map_none, Option.map_some, hx, hl]
  simp only [Instr.slice, Instr.sliceBounds, Instr.sliceBound, asIntOf, awp_bind, awp_pure, BindK, awp_underlying, ht, OptK, Option.isSome_none, Bool.false_eq_true, if_false]
  rw [if_pos ⟨by omega, by omega⟩]
  simp only [awp_pure, awp_bind, BindK, awp_sizeOf, hsz, OptK, Int.toNat_natCast, ANx]
  exact hK
theorem slice_hi {t e sz : Nat} {x hi : Operand} (ht : P.underlying t = some (.slice e)) (hsz : szOf P e = some sz) {a : Option Addr} {n c l : Nat} (hx : evF F x = .slice a n c) (hl : evF F hi = .int .i64 (l : Int)) (h1 : l ≤ c)
    (hK : K (.slice a l c) H) : AOp P w0 F ⟨dst, .slice t x none (some hi) none, ty, pos, after, g⟩ K H := by
  unfold AOp
  simp only [execOp, awp_bind, Instr.sliceAt, Option.map_none, Option.map_some, hx, hl]
  simp only [Instr.slice, Instr.sliceBounds, Instr.sliceBound, asIntOf, awp_bind, awp_pure, BindK, awp_underlying, ht, OptK, Option.isSome_none, Bool.false_eq_true, if_false]
  rw [if_pos ⟨by omega, by omega⟩]
  simp only [awp_pure, awp_bind, BindK, awp_sizeOf, hsz, OptK, Int.toNat_natCast, Nat.zero_mul, Nat.sub_zero, ANx]
  have : (if c = 0 then a else Option.map (fun x => x.add 0) a) = a := by
    split
    · rfl
    · cases a <;> rfl
  rw [this]
  exact hK
theorem slice_both {t e sz : Nat} {x lo hi : Operand} (ht : P.underlying t = some (.slice e)) (hsz : szOf P e = some sz) {a : Option Addr} {n c l h : Nat} (hx : evF F x = .slice a n c) (hl : evF F lo = .int .i64 (l : Int)) (hh : evF F hi = .int .i64 (h : Int)) (h1 : l ≤ h) (h2 : h ≤ c)
    (hK : K (.slice (if c = l then a else a.map (·.add (l * sz))) (h - l) (c - l)) H) : AOp P w0 F ⟨dst, .slice t x (some lo) (some hi) none, ty, pos, after, g⟩ K H := by
  unfold AOp
  simp only [execOp, awp_bind, Instr.sliceAt, Option.map_none, Option.map_some, hx, hl, hh]
  simp only [Instr.slice, Instr.sliceBounds, Instr.sliceBound, asIntOf, awp_bind, awp_pure, BindK, awp_underlying, ht, OptK, Option.isSome_none, Bool.false_eq_true, if_false]
  rw [if_pos ⟨by omega, by omega⟩]
  simp only [awp_pure, awp_bind, BindK, Int.toNat_natCast]
  rw [if_pos ⟨by omega, by omega⟩]
  simp only [awp_pure, awp_bind, BindK, awp_sizeOf, hsz, OptK, Int.toNat_natCast, ANx]
  exact hK

/-! ### min, max -/
theorem aop_min {x y : Operand} {t1 t2 : TypeId} {k : IntKind} {a b : Int} (hx : evF F x = .int k a) (hy : evF F y = .int k b) (hK : K (.int k (if b < a then b else a)) H) :
    AOp P w0 F ⟨dst, .call { callee := .builtin .min, args := #[x, y], argTypes := #[t1, t2] }, ty, pos, after, g⟩ K H := by
  unfold AOp
  simp only [execOp, resolve, awp_bind, awp_pure, BindK, invoke, builtin, List.map_toArray, List.map_cons, List.map_nil, hx, hy, Builtin.min_, List.foldlM_cons, List.foldlM_nil, Builtin.min2, ANx]
  exact hK
theorem aop_min3 {x y z : Operand} {t1 t2 t3 : TypeId} {k : IntKind} {a b c : Int} (hx : evF F x = .int k a) (hy : evF F y = .int k b) (hz : evF F z = .int k c) (hK : K (.int k (if c < (if b < a then b else a) then c else (if b < a then b else a))) H) :
    AOp P w0 F ⟨dst, .call { callee := .builtin .min, args := #[x, y, z], argTypes := #[t1, t2, t3] }, ty, pos, after, g⟩ K H := by
  unfold AOp
  simp only [execOp, resolve, awp_bind, awp_pure, BindK, invoke, builtin, List.map_toArray, List.map_cons, List.map_nil, hx, hy, hz, Builtin.min_, List.foldlM_cons, List.foldlM_nil, Builtin.min2, ANx]
  exact hK
theorem aop_max {x y : Operand} {t1 t2 : TypeId} {k : IntKind} {a b : Int} (hx : evF F x = .int k a) (hy : evF F y = .int k b) (hK : K (.int k (if b > a then b else a)) H) :
    AOp P w0 F ⟨dst, .call { callee := .builtin .max, args := #[x, y], argTypes := #[t1, t2] }, ty, pos, after, g⟩ K H := by
  unfold AOp
  simp only [execOp, resolve, awp_bind, awp_pure, BindK, invoke, builtin, List.map_toArray, List.map_cons, List.map_nil, hx, hy, Builtin.max_, List.foldlM_cons, List.foldlM_nil, Builtin.max2, ANx]
  exact hK

/-! ### Functions without a body -/
theorem awp_extern {f : FuncId} {fn : Func} {e : Array Value → Sem Value} (hf : P.funcs[f]? = some fn) (hname : (fn.name == "runtime.NumGoroutine") = false)
    (hb : fn.body.isNone = true) (hn : Extern.findNext fn = none) (he : Extern.find fn = some e) (args : Array Value) (Q : Next → Hp → Prop) : awp P w0 (callFunc f args) Q H = awp P w0 (e args) (fun v H' => Q (.value v) H') H := by
  simp only [callFunc, program, awp_bind, awp, BindK, hf, hname, hb, Bool.false_eq_true, if_false, if_true, mark, hn, he, awp_pure]
  rfl
theorem aop_extern {f : FuncId} {fn : Func} {e : Array Value → Sem Value} (hf : P.funcs[f]? = some fn) (hname : (fn.name == "runtime.NumGoroutine") = false)
    (hb : fn.body.isNone = true) (hn : Extern.findNext fn = none) (he : Extern.find fn = some e) {args : Array Operand} {ts : Array TypeId} (hK : awp P w0 (e (args.map (evF F))) K H) :
    AOp P w0 F ⟨dst, .call { callee := .value (.func f), args := args, argTypes := ts }, ty, pos, after, g⟩ K H := by
  unfold AOp
  simp only [execOp, resolve, evF, Deferred.ofValue, awp_bind, awp_pure, BindK, invoke, Array.empty_append, Array.append_empty]
  rw [awp_extern hf hname hb hn he]
  refine awp_mono P w0 _ hK fun v H' h => ?_
  exact h
end
end Go.Proofs.YtoolnkemkhianaaDoorW
