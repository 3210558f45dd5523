/-
  The field of 256 elements, plainly: products, powers of 2, what is needed of them.
-/
import Derived.Test.YtibileffpgnjhaaGf
import Derived.Laws.BitsAllLaws
namespace Go.Proofs.Ytibileffpgnjhaa.Fld
open Go.Proofs.Ytibileffpgnjhaa.Base
set_option linter.unusedSimpArgs false
set_option linter.unusedVariables false

/-- 2 to the n -/
def pw : Nat → Nat
  | 0 => 1
  | n + 1 => tw (pw n)
def twn : Nat → Nat → Nat
  | 0, b => b
  | n + 1, b => tw (twn n b)

theorem all_256 {p : Nat → Bool} (h : (List.range 256).all p = true) {a : Nat} (ha : a < 256) : p a = true := List.all_eq_true.1 h a (by simpa using ha)
set_option maxRecDepth 100000 in
theorem tw_lin_ck : ((List.range 256).all fun a => (List.range 256).all fun b => tw (a ^^^ b) == (tw a ^^^ tw b)) = true := by decide +kernel
theorem tw_lin {a b : Nat} (ha : a < 256) (hb : b < 256) : tw (a ^^^ b) = tw a ^^^ tw b := by
  have := all_256 (all_256 tw_lin_ck ha) hb
  simpa using this
theorem accL_lin : ∀ (n a b c : Nat) (o q : Nat), b < 256 → c < 256 →
    (bitsL n a (b ^^^ c)).foldl (fun o p => if p.1 then o ^^^ p.2 else o) (o ^^^ q) =
      (bitsL n a b).foldl (fun o p => if p.1 then o ^^^ p.2 else o) o ^^^ (bitsL n a c).foldl (fun o p => if p.1 then o ^^^ p.2 else o) q
  | 0, _, _, _, _, _, _, _ => rfl
  | n + 1, a, b, c, o, q, hb, hc => by
    rw [bitsL, bitsL, bitsL]
    by_cases h0 : a = 0
    · simp [h0]
    · rw [if_neg h0, if_neg h0, if_neg h0, tw_lin hb hc]
      simp only [List.foldl_cons]
      by_cases h1 : (a % 2 == 1) = true
      · rw [if_pos h1, if_pos h1, if_pos h1]
        have e : o ^^^ q ^^^ (b ^^^ c) = (o ^^^ b) ^^^ (q ^^^ c) := by
          apply Nat.eq_of_testBit_eq; intro i; simp only [Nat.testBit_xor]
          cases o.testBit i <;> cases q.testBit i <;> cases b.testBit i <;> cases c.testBit i <;> rfl
        rw [e]
        exact accL_lin n _ _ _ _ _ (tw_lt hb) (tw_lt hc)
      · rw [if_neg h1, if_neg h1, if_neg h1]
        exact accL_lin n _ _ _ _ _ (tw_lt hb) (tw_lt hc)
theorem mul_xor (a : Nat) {b c : Nat} (hb : b < 256) (hc : c < 256) : mulN a (b ^^^ c) = mulN a b ^^^ mulN a c := by
  have := accL_lin 8 a b c 0 0 hb hc
  simpa [mulN, accL] using this
theorem two_ck : ((List.range 8).all fun n => (List.range (2 ^ n)).all fun x => (x ^^^ 2 ^ n) == x + 2 ^ n) = true := by decide +kernel
/-- what holds of nought and of the powers of 2, and of sums, holds of all bytes -/
theorem byte_ind {P : Nat → Prop} (h0 : P 0) (h1 : ∀ i, i < 8 → P (2 ^ i)) (hx : ∀ a b, a < 256 → b < 256 → P a → P b → P (a ^^^ b)) : ∀ b, b < 256 → P b := by
  have key : ∀ n, n ≤ 8 → ∀ b, b < 2 ^ n → P b := by
    intro n
    induction n with
    | zero => intro _ b hb; have : b = 0 := by simp at hb; omega
              subst this; exact h0
    | succ n ih =>
      intro hn b hb
      rcases Nat.lt_or_ge b (2 ^ n) with h | h
      · exact ih (by omega) b h
      · have hlt : b - 2 ^ n < 2 ^ n := by rw [Nat.pow_succ] at hb; omega
        have c1 := List.all_eq_true.1 two_ck n (by simp; omega)
        have c2 := List.all_eq_true.1 c1 (b - 2 ^ n) (by simpa using hlt)
        have e : (b - 2 ^ n) ^^^ 2 ^ n = b := by
          have := beq_iff_eq.1 c2
          rw [this]; omega
        have hp : 2 ^ n < 256 := by
          have : 2 ^ n < 2 ^ 8 := Nat.pow_lt_pow_right (by omega) (by omega)
          simpa using this
        rw [← e]
        exact hx _ _ (by omega) hp (ih (by omega) _ hlt) (h1 n (by omega))
  intro b hb
  exact key 8 (Nat.le_refl _) b (by simpa using hb)
theorem mul_tw_ck : ((List.range 256).all fun a => (List.range 8).all fun i => mulN (tw a) (2 ^ i) == tw (mulN a (2 ^ i))) = true := by decide +kernel
theorem mul_zero_ck : ((List.range 256).all fun a => mulN a 0 == 0) = true := by decide +kernel
theorem mul_zero {b : Nat} (hb : b < 256) : mulN b 0 = 0 := by have := all_256 mul_zero_ck hb; simpa using this
theorem mulN_lt {a b : Nat} (hb : b < 256) : mulN a b < 256 := by
  unfold mulN
  exact accL_lt (bitsL_lt 8 a b hb)
theorem mul_tw {a b : Nat} (ha : a < 256) (hb : b < 256) : mulN (tw a) b = tw (mulN a b) := by
  refine byte_ind (P := fun b => mulN (tw a) b = tw (mulN a b)) ?_ ?_ ?_ b hb
  · rw [mul_zero (tw_lt ha), mul_zero ha]; rfl
  · intro i hi
    have := List.all_eq_true.1 (all_256 mul_tw_ck ha) i (by simpa using hi)
    simpa using this
  · intro b c hb hc h1 h2
    rw [mul_xor _ hb hc, mul_xor _ hb hc, h1, h2, tw_lin (mulN_lt hb) (mulN_lt hc)]
def expT : List Nat := (List.range 255).map pw
def logs : Nat → Nat → List Nat
  | 0, _ => []
  | n + 1, x => x :: logs n (tw x)
theorem logs_get : ∀ (n x i : Nat), i < n → (logs n x)[i]? = some (twn i x)
  | 0, _, _, h => by omega
  | n + 1, x, 0, _ => rfl
  | n + 1, x, i + 1, h => by
    rw [logs, List.getElem?_cons_succ, logs_get n (tw x) i (by omega)]
    congr 1
    clear h
    induction i with
    | zero => rfl
    | succ i ih => rw [twn, ih]; rfl
theorem logs_len : ∀ (n x : Nat), (logs n x).length = n
  | 0, _ => rfl
  | n + 1, x => by simp [logs, logs_len n]
theorem pw_twn (n : Nat) : pw n = twn n 1 := by
  induction n with
  | zero => rfl
  | succ n ih => rw [pw, twn, ih]
theorem pw_lt (n : Nat) : pw n < 256 := by
  induction n with
  | zero => decide
  | succ n ih => exact tw_lt ih
theorem twn_lt {b : Nat} (hb : b < 256) (n : Nat) : twn n b < 256 := by
  induction n with
  | zero => exact hb
  | succ n ih => exact tw_lt ih
theorem exp_all_ck : ((List.range 256).all fun a => a == 0 || (logs 255 1).contains a) = true := by decide +kernel
theorem exp_all {a : Nat} (ha : a < 256) (h0 : a ≠ 0) : ∃ n, n < 255 ∧ a = pw n := by
  have := all_256 exp_all_ck ha
  simp only [Bool.or_eq_true, beq_iff_eq, List.contains_iff_mem, List.mem_iff_getElem?] at this
  rcases this with h | ⟨i, hi⟩
  · exact absurd h h0
  · have hl := (List.getElem?_eq_some_iff.1 hi).1
    rw [logs_len] at hl
    rw [logs_get _ _ _ hl] at hi
    exact ⟨i, hl, by rw [pw_twn]; exact (Option.some.inj hi).symm⟩
theorem one_mul_ck : ((List.range 256).all fun b => mulN 1 b == b && mulN 0 b == 0) = true := by decide +kernel
theorem one_mul {b : Nat} (hb : b < 256) : mulN 1 b = b := by have := all_256 one_mul_ck hb; simp at this; exact this.1
theorem zero_mul {b : Nat} (hb : b < 256) : mulN 0 b = 0 := by have := all_256 one_mul_ck hb; simp at this; exact this.2
theorem pw_mul (n : Nat) {b : Nat} (hb : b < 256) : mulN (pw n) b = twn n b := by
  induction n with
  | zero => exact one_mul hb
  | succ n ih => rw [pw, mul_tw (pw_lt n) hb, ih]; rfl
theorem twn_add (n m b : Nat) : twn (n + m) b = twn n (twn m b) := by
  induction n with
  | zero => simp [twn]
  | succ n ih => rw [show n + 1 + m = (n + m) + 1 by omega]; simp only [twn]; rw [ih]
theorem twn_lin (n : Nat) {a b : Nat} (ha : a < 256) (hb : b < 256) : twn n (a ^^^ b) = twn n a ^^^ twn n b := by
  induction n with
  | zero => rfl
  | succ n ih => simp only [twn]; rw [ih, tw_lin (twn_lt ha n) (twn_lt hb n)]
theorem twn_zero (n : Nat) : twn n 0 = 0 := by
  induction n with
  | zero => rfl
  | succ n ih => simp only [twn]; rw [ih]; rfl
theorem mul_comm' {a b : Nat} (ha : a < 256) (hb : b < 256) : mulN a b = mulN b a := by
  by_cases h0 : a = 0
  · subst h0; rw [zero_mul hb, mul_zero hb]
  · by_cases h1 : b = 0
    · subst h1; rw [zero_mul ha, mul_zero ha]
    · obtain ⟨n, _, rfl⟩ := exp_all ha h0
      obtain ⟨m, _, rfl⟩ := exp_all hb h1
      rw [pw_mul n (pw_lt m), pw_mul m (pw_lt n), pw_twn n, pw_twn m, ← twn_add, ← twn_add, Nat.add_comm]
theorem mul_assoc' {a b c : Nat} (ha : a < 256) (hb : b < 256) (hc : c < 256) : mulN (mulN a b) c = mulN a (mulN b c) := by
  by_cases h0 : a = 0
  · subst h0; rw [zero_mul hb, zero_mul hc, zero_mul (mulN_lt hc)]
  · by_cases h1 : b = 0
    · subst h1; rw [mul_zero ha, zero_mul hc, mul_zero ha]
    · obtain ⟨n, _, rfl⟩ := exp_all ha h0
      obtain ⟨m, _, rfl⟩ := exp_all hb h1
      rw [pw_mul n (pw_lt m), pw_mul m hc, pw_mul n (twn_lt hc m), pw_twn m, ← twn_add, ← pw_twn, pw_mul _ hc, twn_add]
theorem xor_mul {a b c : Nat} (ha : a < 256) (hb : b < 256) (hc : c < 256) : mulN (b ^^^ c) a = mulN b a ^^^ mulN c a := by
  have hx : b ^^^ c < 256 := Nat.xor_lt_two_pow (n := 8) hb hc
  rw [mul_comm' hx ha, mul_xor a hb hc, mul_comm' ha hb, mul_comm' ha hc]
/-- powers -/
def pwN (a : Nat) : Nat → Nat
  | 0 => 1
  | n + 1 => mulN a (pwN a n)
theorem pwN_lt {a : Nat} (ha : a < 256) (n : Nat) : pwN a n < 256 := by
  induction n with
  | zero => show 1 < 256; omega
  | succ n ih => exact mulN_lt ih
theorem mul_lt' {a b : Nat} (ha : a < 256) (hb : b < 256) : mulN a b < 256 := mulN_lt hb
theorem pwN_sq {a : Nat} (ha : a < 256) (n : Nat) : pwN (mulN a a) n = pwN a (2 * n) := by
  induction n with
  | zero => rfl
  | succ n ih =>
    rw [show 2 * (n + 1) = (2 * n + 1) + 1 by omega]
    simp only [pwN]
    rw [ih, mul_assoc' ha ha (pwN_lt ha _)]
theorem two_mul {b : Nat} (hb : b < 256) : mulN 2 b = tw b := by
  have := mul_tw (a := 1) (by omega) hb
  rw [one_mul hb] at this
  exact this
theorem pwN_two (n : Nat) : pwN 2 n = pw n := by
  induction n with
  | zero => rfl
  | succ n ih => rw [pwN, pw, ih, two_mul (pw_lt n)]
theorem pw_255 : pw 255 = 1 := by decide +kernel
theorem twn_255 {x : Nat} (hx : x < 256) : twn 255 x = x := by
  by_cases h : x = 0
  · subst h; exact twn_zero 255
  · obtain ⟨m, _, rfl⟩ := exp_all hx h
    rw [pw_twn m, ← twn_add, Nat.add_comm, twn_add, ← pw_twn 255, pw_255]
theorem pwN_pw (n m : Nat) : pwN (pw n) m = pw (n * m) := by
  induction m with
  | zero => rfl
  | succ m ih => rw [pwN, ih, pw_mul n (pw_lt _), pw_twn (n * m), ← twn_add, ← pw_twn, Nat.mul_succ, Nat.add_comm]
theorem pw_mod (n : Nat) : pw (255 * n) = 1 := by
  induction n with
  | zero => rfl
  | succ n ih => rw [pw_twn, Nat.mul_succ, Nat.add_comm, twn_add, ← pw_twn, ih, ← pw_twn, pw_255]
def invN (a : Nat) : Nat := if a = 0 then 0 else pwN a 254
theorem mul_inv {a : Nat} (ha : a < 256) (h0 : a ≠ 0) : mulN a (invN a) = 1 := by
  obtain ⟨n, _, rfl⟩ := exp_all ha h0
  have e : invN (pw n) = pwN (pw n) 254 := by unfold invN; rw [if_neg h0]
  rw [e, pwN_pw, pw_mul n (pw_lt _), pw_twn (n * 254), ← twn_add, ← pw_twn, show n + n * 254 = 255 * n by omega, pw_mod]
theorem invN_lt {a : Nat} (ha : a < 256) : invN a < 256 := by
  unfold invN
  split
  · omega
  · exact pwN_lt ha _
theorem pw_ne_zero (n : Nat) : pw n ≠ 0 := by
  induction n with
  | zero => decide
  | succ n ih =>
    intro h
    have ha := pw_lt n
    have hi := mul_inv ha ih
    rw [pw] at h
    have h2 := mul_tw ha (invN_lt ha)
    rw [h, hi, zero_mul (invN_lt ha)] at h2
    exact absurd h2 (by decide)
theorem exp_inj_ck : ((List.range 16).all fun i => (List.range 16).all fun j => i == j || !(pw i == pw j)) = true := by decide +kernel
theorem exp_inj {i j : Nat} (hi : i < 16) (hj : j < 16) (h : i ≠ j) : pw i ≠ pw j := by
  have h1 := List.all_eq_true.1 exp_inj_ck i (by simpa using hi)
  have h2 := List.all_eq_true.1 h1 j (by simpa using hj)
  simpa [h] using h2
theorem xor_ne {a b : Nat} (h : a ≠ b) : a ^^^ b ≠ 0 := by
  intro e
  apply h
  have : a ^^^ b ^^^ b = 0 ^^^ b := by rw [e]
  simpa [Nat.xor_assoc] using this
end Go.Proofs.Ytibileffpgnjhaa.Fld
