/-
  The loops of rs.Parity and of what the laws of chapter 5 lay ready, plainly: what they answer.
-/
import Derived.Test.YtibileffpgnjhaaPRqx3
import Derived.Test.YtibileffpgnjhaaPRqx2
import Derived.Test.YtibileffpgnjhaaFx
import Derived.IntWalk
import Derived.Laws.Bits128
namespace Go.Proofs.Ytibileffpgnjhaa.Pl
open Go.RowKit Go.Proofs.YtibileffpgnjhaaW.PrintWords Go.Proofs.YtibileffpgnjhaaW.PrintLast Go.Proofs.Ytibileffpgnjhaa.PRq Go.Proofs.Ytibileffpgnjhaa.Fld
open Go.Proofs.Ytibileffpgnjhaa.Base (mulN tw tw_lt bitsL accL bitsL_lt)
set_option linter.unusedSimpArgs false
set_option linter.unusedVariables false

theorem w64 {n : Int} (h1 : -9223372036854775808 ≤ n) (h2 : n ≤ 9223372036854775807) : wrap64 n = n := IntWalk.wrap64_in n ⟨h1, h2⟩
theorem ofInt_i64 (a : Nat) (ha : a < 4611686018427387904) : (BitVec.ofInt 64 (a : Int)).toNat = a := by
  rw [BitVec.ofInt_natCast, BitVec.toNat_ofNat]; exact Nat.mod_eq_of_lt (by omega)
theorem i64_and_nat (a b : Nat) (ha : a < 4611686018427387904) (hb : b < 4611686018427387904) : bits .and .i64 (a : Int) (b : Int) = ((a &&& b : Nat) : Int) := by
  have hx : a &&& b < 2 ^ 62 := Nat.and_lt_two_pow _ (by simpa using hb)
  show IntKind.i64.wrap ((BitVec.ofInt 64 (a : Int) &&& BitVec.ofInt 64 (b : Int)).toNat : Int) = _
  rw [BitVec.toNat_and, ofInt_i64 a ha, ofInt_i64 b hb, IntKind.wrap_i64]
  omega
theorem i64_xor_nat (a b : Nat) (ha : a < 4611686018427387904) (hb : b < 4611686018427387904) : bits .xor .i64 (a : Int) (b : Int) = ((a ^^^ b : Nat) : Int) := by
  have hx : a ^^^ b < 2 ^ 62 := Nat.xor_lt_two_pow (by simpa using ha) (by simpa using hb)
  show IntKind.i64.wrap ((BitVec.ofInt 64 (a : Int) ^^^ BitVec.ofInt 64 (b : Int)).toNat : Int) = _
  rw [BitVec.toNat_xor, ofInt_i64 a ha, ofInt_i64 b hb, IntKind.wrap_i64]
  omega
theorem i64_and_one (a : Nat) (ha : a < 4611686018427387904) : bits .and .i64 (a : Int) 1 = ((a % 2 : Nat) : Int) := by
  have := i64_and_nat a 1 ha (by omega)
  rw [Nat.and_one_is_mod] at this
  exact this

/-! ### bytes -/
theorem byt_nat (a : Nat) (h : a < 256) : Byt (a : Int) := ⟨by omega, by omega⟩
theorem byt_xor {x y : Int} (hx : Byt x) (hy : Byt y) : Byt (xorI x y) := by
  have : x.toNat ^^^ y.toNat < 2 ^ 8 := Nat.xor_lt_two_pow (by have := hx.1; have := hx.2; omega) (by have := hy.1; have := hy.2; omega)
  exact byt_nat _ this
theorem byt_mul {x y : Int} (hy : Byt y) : Byt (mulI x y) := byt_nat _ (mulN_lt (by have := hy.1; have := hy.2; omega))
theorem byt_exp (i : Nat) : Byt (expI i) := byt_nat _ (pw_lt i)
theorem byt_zero : Byt 0 := ⟨by omega, by omega⟩
theorem byt_inv {x : Int} (h : Byt x) : Byt (invI x) := byt_nat _ (invN_lt (by have := h.1; have := h.2; omega))
theorem xor_u8 {x y : Int} (hx : Byt x) (hy : Byt y) : Go.bits .xor .u8 x y = xorI x y := u8_xor x y hx.1 hx.2 hy.1 hy.2
theorem toNat_lt {x : Int} (h : Byt x) : x.toNat < 256 := by have := h.1; have := h.2; omega
theorem xorI_comm (x y : Int) : xorI x y = xorI y x := by unfold xorI; rw [Nat.xor_comm]
theorem xorI_assoc (x y z : Int) : xorI (xorI x y) z = xorI x (xorI y z) := by unfold xorI; simp [Nat.xor_assoc]
theorem xorI_zero {x : Int} (h : Byt x) : xorI x 0 = x := by unfold xorI; have := h.1; simp; omega
theorem zero_xorI {x : Int} (h : Byt x) : xorI 0 x = x := by rw [xorI_comm, xorI_zero h]
theorem xorI_self (x : Int) : xorI x x = 0 := by unfold xorI; simp
theorem xorI_left_comm (x y z : Int) : xorI x (xorI y z) = xorI y (xorI x z) := by rw [← xorI_assoc, xorI_comm x y, xorI_assoc]
theorem xorI_swap (a b c d : Int) : xorI (xorI a b) (xorI c d) = xorI (xorI a c) (xorI b d) := by
  rw [xorI_assoc, xorI_assoc, xorI_left_comm b c d]
theorem mulI_xor {a b c : Int} (hb : Byt b) (hc : Byt c) : mulI a (xorI b c) = xorI (mulI a b) (mulI a c) := by
  unfold mulI xorI
  simp only [Int.toNat_natCast]
  rw [mul_xor _ (toNat_lt hb) (toNat_lt hc)]
theorem mulI_zero {a : Int} (h : Byt a) : mulI a 0 = 0 := by unfold mulI; simp [mul_zero (toNat_lt h)]
theorem mulI_comm {a b : Int} (ha : Byt a) (hb : Byt b) : mulI a b = mulI b a := by unfold mulI; rw [mul_comm' (toNat_lt ha) (toNat_lt hb)]
theorem mulI_assoc {a b c : Int} (ha : Byt a) (hb : Byt b) (hc : Byt c) : mulI (mulI a b) c = mulI a (mulI b c) := by
  unfold mulI; simp only [Int.toNat_natCast]; rw [mul_assoc' (toNat_lt ha) (toNat_lt hb) (toNat_lt hc)]
theorem mulI_one {a : Int} (ha : Byt a) : mulI a 1 = a := by
  rw [mulI_comm ha ⟨by omega, by omega⟩]
  unfold mulI
  have := one_mul (toNat_lt ha)
  simp only [show (1 : Int).toNat = 1 from rfl, this]
  have := ha.1; omega
theorem mul_f {x y : Int} (hx : Byt x) (hy : Byt y) : gf_Mul.f x y = some (mulI x y) := by
  unfold gf_Mul.f mulI
  rw [if_pos ⟨⟨hx.1, hx.2⟩, hy.1, hy.2⟩]

/-! ### gf.Exp -/
theorem pow_l0 (a o m : Nat) (ha : a < 256) (ho : o < 256) (hm : m < 4611686018427387904) : Ev (fun k => gf_Pow.l0 k (a : Int) (o : Int) (m : Int)) ((mulN o (pwN a m) : Nat) : Int) := by
  induction m using Nat.strongRecOn generalizing a o with
  | _ m ih =>
    have hmm : ∀ {x y : Nat}, x < 256 → y < 256 → gf_Mul.f (x : Int) (y : Int) = some ((mulN x y : Nat) : Int) := fun hx hy => mul_f (byt_nat _ hx) (byt_nat _ hy)
    rcases Nat.eq_zero_or_pos m with rfl | hpos
    · refine Ev.step (f := fun _ => some ((mulN o (pwN a 0) : Nat) : Int)) (fun k => ?_) (Ev.now _)
      rw [gf_Pow.l0, if_neg (by omega)]
      have : mulN o 1 = o := by rw [mul_comm' ho (by omega), one_mul ho]
      rw [pwN, this]
    · have hI := ih (m / 2) (by omega)
      have h2 : ((m : Int) / 2) = ((m / 2 : Nat) : Int) := by omega
      have hsq : mulN a a < 256 := mulN_lt ha
      rcases Nat.mod_two_eq_zero_or_one m with h0 | h1
      · refine Ev.step (f := fun k => gf_Pow.l0 k ((mulN a a : Nat) : Int) (o : Int) ((m / 2 : Nat) : Int)) (fun k => ?_) ?_
        · rw [gf_Pow.l0, if_pos (by omega), i64_and_one m hm, if_neg (by omega), hmm ha ha, h2]; rfl
        · have := hI (mulN a a) o hsq ho (by omega)
          rw [pwN_sq ha, show 2 * (m / 2) = m by omega] at this
          exact this
      · refine Ev.step (f := fun k => gf_Pow.l0 k ((mulN a a : Nat) : Int) ((mulN o a : Nat) : Int) ((m / 2 : Nat) : Int)) (fun k => ?_) ?_
        · rw [gf_Pow.l0, if_pos (by omega), i64_and_one m hm, if_pos (by omega), hmm ho ha, hmm ha ha, h2]; rfl
        · have := hI (mulN a a) (mulN o a) hsq (mulN_lt ha) (by omega)
          rw [pwN_sq ha, mul_assoc' ho ha (pwN_lt ha _)] at this
          have e : pwN a m = mulN a (pwN a (2 * (m / 2))) := by
            have : m = (2 * (m / 2)) + 1 := by omega
            conv => lhs; rw [this]
            rfl
          rw [e]
          exact this
theorem pow_ev (a : Nat) (n : Int) (m : Nat) (ha : a < 256) (h0 : a ≠ 0) (hm : Int.tmod (wrap64 ((Int.tmod n 255) + 255)) 255 = (m : Int)) (hm2 : m < 255) : Ev (fun k => gf_Pow.f k (a : Int) n) ((pwN a m : Nat) : Int) := by
  refine Ev.congr (f := fun k => gf_Pow.l0 k (a : Int) ((1 : Nat) : Int) (m : Int)) (fun k => ?_) ?_
  · rw [gf_Pow.f, if_neg (by omega), hm]; rfl
  · have := pow_l0 a 1 m ha (by omega) (by omega)
    rw [one_mul (pwN_lt ha m)] at this
    exact this
theorem exp_ev (i : Nat) (hi : i < 255) : Ev (fun k => gf_Exp.f k (i : Int)) (expI i) := by
  refine Ev.bind (g := fun k => gf_Pow.f k 2 (i : Int)) (f := fun _ t => some t) (a := expI i) ?_ (Ev.now _)
  have := pow_ev 2 (i : Int) i (by omega) (by omega) (by
    have e1 : Int.tmod (i : Int) 255 = (i : Int) := Int.tmod_eq_of_lt (by omega) (by omega)
    rw [e1, w64 (by omega) (by omega)]
    have : ((i : Int) + 255) = (i : Int) + 255 * 1 := by omega
    rw [Int.tmod_eq_emod_of_nonneg (by omega)]
    omega) hi
  rw [pwN_two] at this
  exact this
theorem inv_ev (a : Nat) (ha : a < 256) (h0 : a ≠ 0) : Ev (fun k => gf_Pow.f k (a : Int) (-1)) (invI (a : Int)) := by
  have := pow_ev a (-1) 254 ha h0 (by
    have e : Int.tmod (-1) 255 = -1 := by decide
    rw [e, w64 (by omega) (by omega)]
    decide) (by omega)
  unfold invI invN
  simpa [h0] using this

/-! ### rows -/
theorem rd_nat (xs : List Int) (j : Nat) : rd xs (j : Int) = at_ xs j := by unfold rd at_; simp
theorem rdL_nat (L : List (List Int)) (j : Nat) : rd_L2 L (j : Int) = row L j := by unfold rd_L2 row; simp
def Bytes (r : List Int) : Prop := ∀ x ∈ r, Byt x
theorem byt_at {r : List Int} (h : Bytes r) (j : Nat) : Byt (at_ r j) := by
  unfold at_
  rw [List.getD_eq_getElem?_getD]
  cases hj : r[j]? with
  | none => exact byt_zero
  | some x => exact h x (List.mem_of_getElem? hj)
theorem at_ge {r : List Int} {j : Nat} (h : r.length ≤ j) : at_ r j = 0 := by unfold at_; simp [h]
theorem at_lt {r : List Int} {j : Nat} (h : j < r.length) : at_ r j = r[j] := by unfold at_; simp [h]
theorem row_lt {L : List (List Int)} {j : Nat} (h : j < L.length) : row L j = L[j] := by unfold row; simp [h]
def part (p r : List Int) (b : Option Int) (j : Nat) : List Int := p.mapIdx fun k a => if k < j then xorI a (match b with | none => at_ r k | some b => mulI b (at_ r k)) else a
def term (r : List Int) (b : Option Int) (k : Nat) : Int := match b with | none => at_ r k | some b => mulI b (at_ r k)
theorem part_len (p r : List Int) (b : Option Int) (j : Nat) : (part p r b j).length = p.length := by simp [part]
theorem part_zero (p r : List Int) (b : Option Int) : part p r b 0 = p := by
  unfold part
  apply List.ext_getElem
  · simp
  · intro i h1 h2; simp
theorem part_at (p r : List Int) (b : Option Int) (j k : Nat) (hk : k < p.length) : at_ (part p r b j) k = if k < j then xorI (at_ p k) (term r b k) else at_ p k := by
  rw [at_lt (by rw [part_len]; exact hk), at_lt hk]
  simp [part, term]
theorem part_set (p r : List Int) (b : Option Int) (j : Nat) (hj : j < p.length) : (part p r b j).set j (xorI (at_ p j) (term r b j)) = part p r b (j + 1) := by
  apply List.ext_getElem
  · simp [part]
  · intro i h1 h2
    simp only [part, List.length_mapIdx] at h2
    rw [List.getElem_set]
    split
    · rename_i e
      subst e
      simp [part, term, at_lt hj]
    · rename_i e
      simp only [part, List.getElem_mapIdx]
      by_cases hi : i < j
      · rw [if_pos hi, if_pos (by omega)]
      · rw [if_neg hi, if_neg (by omega)]
theorem byt_term {r : List Int} {b : Option Int} (h : Bytes r) (k : Nat) : Byt (term r b k) := by
  unfold term
  cases b with
  | none => exact byt_at h k
  | some b => exact byt_mul (byt_at h k)
theorem pS_snoc (L : List (List Int)) (r : List Int) (k : Nat) (hL : ∀ r ∈ L, Bytes r) (hr : Bytes r) : pS (L ++ [r]) k = xorI (pS L k) (at_ r k) := by
  induction L with
  | nil => simp [pS]; rw [xorI_zero (byt_at hr k), zero_xorI (byt_at hr k)]
  | cons q L ih =>
    simp only [List.cons_append, pS]
    rw [ih (fun r h => hL r (by simp [h])), xorI_assoc]
theorem qS_snoc (s : Nat) (L : List (List Int)) (r : List Int) (k : Nat) (hL : ∀ r ∈ L, Bytes r) (hr : Bytes r) : qS s (L ++ [r]) k = xorI (qS s L k) (mulI (expI (s + L.length)) (at_ r k)) := by
  induction L generalizing s with
  | nil => simp [qS]; rw [xorI_zero (byt_mul (byt_at hr k)), zero_xorI (byt_mul (byt_at hr k))]
  | cons q L ih =>
    simp only [List.cons_append, qS]
    rw [ih (s + 1) (fun r h => hL r (by simp [h])), xorI_assoc]
    have e : s + 1 + L.length = s + (L.length + 1) := by omega
    rw [e]
    rfl
theorem byt_pS (L : List (List Int)) (k : Nat) (hL : ∀ r ∈ L, Bytes r) : Byt (pS L k) := by
  induction L with
  | nil => exact byt_zero
  | cons r L ih => exact byt_xor (byt_at (hL r (by simp)) k) (ih (fun r h => hL r (by simp [h])))
theorem byt_qS (s : Nat) (L : List (List Int)) (k : Nat) (hL : ∀ r ∈ L, Bytes r) : Byt (qS s L k) := by
  induction L generalizing s with
  | nil => exact byt_zero
  | cons r L ih => exact byt_xor (byt_mul (byt_at (hL r (by simp)) k)) (ih _ (fun r h => hL r (by simp [h])))
theorem sumP_len (L : List (List Int)) (n : Nat) : (sumP L n).length = n := by simp [sumP]
theorem sumQ_len (L : List (List Int)) (n : Nat) : (sumQ L n).length = n := by simp [sumQ]
theorem sumP_at (L : List (List Int)) {n k : Nat} (h : k < n) : at_ (sumP L n) k = pS L k := by rw [at_lt (by rw [sumP_len]; exact h)]; simp [sumP]
theorem sumQ_at (L : List (List Int)) {n k : Nat} (h : k < n) : at_ (sumQ L n) k = qS 0 L k := by rw [at_lt (by rw [sumQ_len]; exact h)]; simp [sumQ]
theorem bytes_sumP (L : List (List Int)) (n : Nat) (hL : ∀ r ∈ L, Bytes r) : Bytes (sumP L n) := by
  intro x hx
  simp only [sumP, List.mem_map] at hx
  obtain ⟨k, _, rfl⟩ := hx
  exact byt_pS L k hL
theorem bytes_sumQ (L : List (List Int)) (n : Nat) (hL : ∀ r ∈ L, Bytes r) : Bytes (sumQ L n) := by
  intro x hx
  simp only [sumQ, List.mem_map] at hx
  obtain ⟨k, _, rfl⟩ := hx
  exact byt_qS 0 L k hL
theorem ext_at {a b : List Int} (h1 : a.length = b.length) (h : ∀ k, k < a.length → at_ a k = at_ b k) : a = b := by
  apply List.ext_getElem h1
  intro k h2 h3
  rw [← at_lt h2, ← at_lt h3, h k h2]

theorem sums_l1 (L : List (List Int)) (i : Nat) (r : List Int) (b : Int) (p q : List Int) (hp : p.length = r.length) (hq : q.length = r.length) (hlen : r.length ≤ 281474976710656) (hb : Byt b) (bp : Bytes p) (bq : Bytes q) (br : Bytes r) (R : List Int × List Int)
    (h : Ev (fun k => rs_sums.l0 k (part p r none r.length) (part q r (some b) r.length) L (L.length : Int) ((i : Int) + 1)) R) (hi : i < 1000000) :
    ∀ d j, r.length - j = d → j ≤ r.length → Ev (fun k => rs_sums.l1 k (part p r none j) (part q r (some b) j) b L (L.length : Int) (i : Int) r (r.length : Int) (j : Int)) R
  | 0, j, hd, hj => by
    obtain rfl : j = r.length := by omega
    refine Ev.step (f := fun k => rs_sums.l0 k (part p r none r.length) (part q r (some b) r.length) L (L.length : Int) ((i : Int) + 1)) (fun k => ?_) h
    rw [rs_sums.l1, if_neg (by omega), w64 (by omega) (by omega)]
  | d + 1, j, hd, hj => by
    have hjr : j < r.length := by omega
    refine Ev.step (f := fun k => rs_sums.l1 k (part p r none (j + 1)) (part q r (some b) (j + 1)) b L (L.length : Int) (i : Int) r (r.length : Int) ((j + 1 : Nat) : Int)) (fun k => ?_) (sums_l1 L i r b p q hp hq hlen hb bp bq br R h hi d (j + 1) (by omega) (by omega))
    have e1 : at_ (part p r none j) j = at_ p j := by rw [part_at _ _ _ _ _ (by omega), if_neg (by omega)]
    have e2 : at_ (part q r (some b) j) j = at_ q j := by rw [part_at _ _ _ _ _ (by omega), if_neg (by omega)]
    have e3 := part_set p r none j (by omega)
    have e4 := part_set q r (some b) j (by omega)
    have t3 : term r none j = at_ r j := rfl
    have t4 : term r (some b) j = mulI b (at_ r j) := rfl
    rw [t3] at e3
    rw [t4] at e4
    rw [rs_sums.l1, if_pos (by omega), if_pos (by omega), if_pos (by omega), if_pos (by rw [part_len]; omega), if_pos (by rw [part_len]; omega), w64 (by omega) (by omega)]
    simp only [rd_nat, e1, e2, Int.toNat_natCast]
    rw [mul_f hb (byt_at br j)]
    simp only [Option.bind_some]
    rw [xor_u8 (byt_at bp j) (byt_at br j), xor_u8 (byt_at bq j) (byt_mul (byt_at br j)), e3, e4]
    rfl
theorem sums_l0 (L : List (List Int)) (n : Nat) (hn : ∀ r ∈ L, r.length = n) (hL : ∀ r ∈ L, Bytes r) (h254 : L.length ≤ 254) (hn2 : n ≤ 281474976710656) :
    ∀ d i, L.length - i = d → i ≤ L.length → Ev (fun k => rs_sums.l0 k (sumP (L.take i) n) (sumQ (L.take i) n) L (L.length : Int) (i : Int)) (sumP L n, sumQ L n)
  | 0, i, hd, hi => by
    obtain rfl : i = L.length := by omega
    refine Ev.step (f := fun _ => some (sumP L n, sumQ L n)) (fun k => ?_) (Ev.now _)
    rw [rs_sums.l0, if_neg (by omega), List.take_length]
  | d + 1, i, hd, hi => by
    have hiL : i < L.length := by omega
    have hm : L[i] ∈ L := List.getElem_mem hiL
    have htk : ∀ r ∈ L.take i, Bytes r := fun r hr => hL r (List.mem_of_mem_take hr)
    refine Ev.step (f := fun k => (gf_Exp.f k (i : Int)).bind fun t => rs_sums.l1 k (sumP (L.take i) n) (sumQ (L.take i) n) t L (L.length : Int) (i : Int) L[i] (L[i].length : Int) 0) (fun k => ?_) ?_
    · rw [rs_sums.l0, if_pos (by omega), if_pos (by omega), if_pos (by omega), rdL_nat, row_lt hiL]
    · refine Ev.bind (exp_ev i (by omega)) ?_
      have h1 := sums_l1 L i L[i] (expI i) (sumP (L.take i) n) (sumQ (L.take i) n) (by rw [sumP_len, hn _ hm]) (by rw [sumQ_len, hn _ hm]) (by rw [hn _ hm]; exact hn2) (byt_exp i) (bytes_sumP _ _ htk) (bytes_sumQ _ _ htk) (hL _ hm) (sumP L n, sumQ L n) ?_ (by omega) L[i].length 0 (by omega) (by omega)
      · simpa [part_zero] using h1
      · have := sums_l0 L n hn hL h254 hn2 d (i + 1) (by omega) (by omega)
        have e1 : part (sumP (L.take i) n) L[i] none L[i].length = sumP (L.take (i + 1)) n := by
          refine ext_at (by rw [part_len, sumP_len, sumP_len]) (fun k hk => ?_)
          rw [part_len, sumP_len] at hk
          rw [part_at _ _ _ _ _ (by rw [sumP_len]; exact hk), if_pos (by rw [hn _ hm]; exact hk), sumP_at _ hk, sumP_at _ hk, List.take_succ_eq_append_getElem hiL, pS_snoc _ _ _ htk (hL _ hm)]
          rfl
        have e2 : part (sumQ (L.take i) n) L[i] (some (expI i)) L[i].length = sumQ (L.take (i + 1)) n := by
          refine ext_at (by rw [part_len, sumQ_len, sumQ_len]) (fun k hk => ?_)
          rw [part_len, sumQ_len] at hk
          rw [part_at _ _ _ _ _ (by rw [sumQ_len]; exact hk), if_pos (by rw [hn _ hm]; exact hk), sumQ_at _ hk, sumQ_at _ hk, List.take_succ_eq_append_getElem hiL, qS_snoc _ _ _ _ htk (hL _ hm)]
          have : (L.take i).length = i := by simp; omega
          rw [this, Nat.zero_add]
          rfl
        rw [e1, e2]
        simpa using this
theorem rep_zero (n : Nat) : List.replicate n (0 : Int) = sumP [] n := by
  refine ext_at (by simp [sumP]) (fun k hk => ?_)
  simp only [List.length_replicate] at hk
  rw [sumP_at _ hk, at_lt (by simpa using hk)]
  simp [pS]
theorem rep_zero' (n : Nat) : List.replicate n (0 : Int) = sumQ [] n := by
  refine ext_at (by simp [sumQ]) (fun k hk => ?_)
  simp only [List.length_replicate] at hk
  rw [sumQ_at _ hk, at_lt (by simpa using hk)]
  simp [qS]
theorem sums_ev (L : List (List Int)) (n : Nat) (hn : ∀ r ∈ L, r.length = n) (hL : ∀ r ∈ L, Bytes r) (h254 : L.length ≤ 254) (hn2 : n ≤ 281474976710656) : Ev (fun k => rs_sums.f k L (n : Int)) (sumP L n, sumQ L n) := by
  refine Ev.congr (f := fun k => rs_sums.l0 k (sumP (L.take 0) n) (sumQ (L.take 0) n) L (L.length : Int) ((0 : Nat) : Int)) (fun k => ?_) (sums_l0 L n hn hL h254 hn2 L.length 0 (by omega) (by omega))
  rw [rs_sums.f, if_pos (by omega), if_pos (by simpa using hn2)]
  simp only [Int.toNat_natCast, List.take_zero]
  rw [← rep_zero, ← rep_zero']
  rfl
theorem alike_from (L : List (List Int)) (n : Int) (hL : L.length ≤ 1000000) : ∀ d i, L.length - i = d → 1 ≤ i → i ≤ L.length → Ev (fun k => rs_alike.l0 k n L (L.length : Int) (i : Int)) (if (L.drop i).all (fun x => decide ((x.length : Int) = n)) then (n, true) else (0, false))
  | 0, i, hd, h1, hi => by
    obtain rfl : i = L.length := by omega
    refine Ev.step (f := fun _ => some (n, true)) (fun k => ?_) ?_
    · rw [rs_alike.l0, if_neg (by omega)]
    · simp; exact Ev.now _
  | d + 1, i, hd, h1, hi => by
    have hiL : i < L.length := by omega
    have hdr : L.drop i = L[i] :: L.drop (i + 1) := List.drop_eq_getElem_cons hiL
    by_cases h : (L[i].length : Int) = n
    · refine Ev.step (f := fun k => rs_alike.l0 k n L (L.length : Int) ((i + 1 : Nat) : Int)) (fun k => ?_) ?_
      · rw [rs_alike.l0, if_pos (by omega), if_pos (by omega), if_pos (by omega), if_pos (by omega), rdL_nat, row_lt hiL, if_pos h, w64 (by omega) (by omega), h]; rfl
      · have := alike_from L n hL d (i + 1) (by omega) (by omega) (by omega)
        have e : (L.drop i).all (fun x => decide ((x.length : Int) = n)) = (L.drop (i + 1)).all (fun x => decide ((x.length : Int) = n)) := by rw [hdr, List.all_cons, decide_eq_true h, Bool.true_and]
        rw [e]
        exact this
    · refine Ev.step (f := fun _ => some (0, false)) (fun k => ?_) ?_
      · rw [rs_alike.l0, if_pos (by omega), if_pos (by omega), if_pos (by omega), if_pos (by omega), rdL_nat, row_lt hiL, if_neg h]
      · have e : (L.drop i).all (fun x => decide ((x.length : Int) = n)) = false := by rw [hdr, List.all_cons, decide_eq_false h, Bool.false_and]
        rw [e]
        exact Ev.now _
theorem alike_ev (L : List (List Int)) (hL : L.length ≤ 1000000) : Ev (fun k => rs_alike.f k L) (if alikeR L then ((lenR L : Nat), true) else ((0 : Int), false)) := by
  unfold rs_alike.f
  cases L with
  | nil =>
    refine Ev.step (f := fun _ => some (0, true)) (fun k => ?_) ?_
    · rw [rs_alike.l0, if_neg (by simp)]
    · simp [alikeR, lenR]; exact Ev.now _
  | cons r L =>
    have h := alike_from (r :: L) (r.length : Int) hL ((r :: L).length - 1) 1 rfl (by omega) (by simp)
    refine Ev.step (f := fun k => rs_alike.l0 k (r.length : Int) (r :: L) ((r :: L).length : Int) ((1 : Nat) : Int)) (fun k => ?_) ?_
    · have hpos : (0 : Int) < ((r :: L).length : Int) := by rw [List.length_cons]; omega
      rw [rs_alike.l0, if_pos hpos, if_pos (by omega), if_pos hpos, if_neg (by omega)]
      have : rd_L2 (r :: L) 0 = r := by simp [rd_L2]
      rw [this, w64 (by omega) (by omega)]
      rfl
    · have e : (alikeR (r :: L)) = ((r :: L).drop 1).all (fun x => decide ((x.length : Int) = (r.length : Int))) := by
        simp only [alikeR, List.all_cons, List.drop_succ_cons, List.drop_zero, beq_self_eq_true, Bool.true_and]
        congr 1
        funext x
        rw [Bool.eq_iff_iff, beq_iff_eq, decide_eq_true_iff]
        omega
      rw [e]
      exact h
theorem alikeR_of {L : List (List Int)} {n : Nat} (h : ∀ r ∈ L, r.length = n) : alikeR L = true := by
  cases L with
  | nil => rfl
  | cons r L =>
    simp only [alikeR, List.all_eq_true]
    intro x hx
    rw [h x (by simp [hx]), h r (by simp)]
    simp
theorem lenR_of {L : List (List Int)} {n : Nat} (h : ∀ r ∈ L, r.length = n) (h0 : L ≠ []) : lenR L = n := by
  cases L with
  | nil => exact absurd rfl h0
  | cons r L => exact h r (by simp)
theorem parity_ev (L : List (List Int)) (n : Nat) (hn : ∀ r ∈ L, r.length = n) (hL : ∀ r ∈ L, Bytes r) (h2 : 2 ≤ L.length) (h14 : L.length ≤ 14) (hn2 : n ≤ 281474976710656) : Ev (fun k => rs_Parity.f k L) (sumP L n, sumQ L n) := by
  have ha := alike_ev L (by omega)
  rw [if_pos (alikeR_of hn), lenR_of hn (by intro h; rw [h] at h2; simp at h2)] at ha
  refine Ev.bind ha ?_
  simp only
  refine Ev.congr (f := fun k => (rs_sums.f k L (n : Int)).bind fun bt => some (bt.1, bt.2)) (fun k => ?_) (Ev.bind (sums_ev L n hn hL (by omega) hn2) (Ev.now _))
  simp only [if_true]
  rw [if_neg (by omega), if_neg (by omega)]
def stp (o : Nat) (p : Bool × Nat) : Nat := if p.1 then o ^^^ p.2 else o
theorem dbl_ck : ((List.range 256).all fun x => decide (x < 128) || ((x * 2) ^^^ 285 == tw x)) = true := by decide +kernel
theorem dbl {x : Nat} (hx : x < 256) (h : 128 ≤ x) : (x * 2) ^^^ 285 = tw x := by
  have := List.all_eq_true.1 dbl_ck x (by simpa using hx)
  simp at this
  omega
theorem fold_lt : ∀ (ys : List (Bool × Nat)) (o : Nat), o < 256 → (∀ x ∈ ys, x.2 < 256) → ys.foldl stp o < 256
  | [], o, ho, _ => ho
  | y :: ys, o, ho, hy => by
    simp only [List.foldl_cons]
    refine fold_lt ys _ ?_ (fun x hx => hy x (by simp [hx]))
    unfold stp
    split
    · exact Nat.xor_lt_two_pow (n := 8) ho (hy y (by simp))
    · exact ho
theorem refmul_l0 : ∀ (n x y p : Nat), x < 256 → y < 2 ^ n → y < 256 → p < 256 → Ev (fun k => ramekinref2_Mul.l0 k (x : Int) (y : Int) (p : Int)) (((bitsL n y x).foldl stp p : Nat) : Int)
  | n, x, y, p, hx, hy, hy2, hp => by
    rcases Nat.eq_zero_or_pos y with rfl | hpos
    · refine Ev.step (f := fun _ => some (p : Int)) (fun k => ?_) ?_
      · rw [ramekinref2_Mul.l0, if_neg (by omega)]
        congr 1; omega
      · have : bitsL n 0 x = [] := by cases n <;> simp [bitsL]
        rw [this]; exact Ev.now _
    · obtain ⟨m, rfl⟩ : ∃ m, n = m + 1 := ⟨n - 1, by cases n with | zero => simp at hy; omega | succ k => simp⟩
      have hbl : bitsL (m + 1) y x = (y % 2 == 1, x) :: bitsL m (y / 2) (tw x) := by rw [bitsL, if_neg (by omega)]
      have h2 : ((y : Int) / 2) = ((y / 2 : Nat) : Int) := by omega
      have hx2 : wrap64 ((x : Int) * 2) = ((x * 2 : Nat) : Int) := by rw [w64 (by omega) (by omega)]; simp
      have hpx : p ^^^ x < 256 := Nat.xor_lt_two_pow (n := 8) hp hx
      rw [Nat.pow_succ] at hy
      have step : ∀ k q, (if ((x * 2 : Nat) : Int) > 255 then ramekinref2_Mul.l0 k (Go.bits .xor .i64 ((x * 2 : Nat) : Int) 285) ((y / 2 : Nat) : Int) q else ramekinref2_Mul.l0 k ((x * 2 : Nat) : Int) ((y / 2 : Nat) : Int) q) = ramekinref2_Mul.l0 k ((tw x : Nat) : Int) ((y / 2 : Nat) : Int) q := by
        intro k q
        by_cases h : 128 ≤ x
        · rw [if_pos (by omega)]
          have := i64_xor_nat (x * 2) 285 (by omega) (by omega)
          rw [dbl hx h] at this
          rw [← this]; rfl
        · rw [if_neg (by omega)]
          have : tw x = x * 2 := by unfold tw; rw [if_neg h]
          rw [this]
      rcases Nat.mod_two_eq_zero_or_one y with h0 | h1
      · refine Ev.step (f := fun k => ramekinref2_Mul.l0 k ((tw x : Nat) : Int) ((y / 2 : Nat) : Int) (p : Int)) (fun k => ?_) ?_
        · rw [ramekinref2_Mul.l0, if_pos (by omega), i64_and_one y (by omega), if_neg (by omega), hx2, h2, step]
        · have := refmul_l0 m (tw x) (y / 2) p (tw_lt hx) (by omega) (by omega) hp
          rw [hbl]
          simpa [stp, h0] using this
      · refine Ev.step (f := fun k => ramekinref2_Mul.l0 k ((tw x : Nat) : Int) ((y / 2 : Nat) : Int) ((p ^^^ x : Nat) : Int)) (fun k => ?_) ?_
        · rw [ramekinref2_Mul.l0, if_pos (by omega), i64_and_one y (by omega), if_pos (by omega), hx2, h2, i64_xor_nat p x (by omega) (by omega), step]
        · have := refmul_l0 m (tw x) (y / 2) (p ^^^ x) (tw_lt hx) (by omega) (by omega) hpx
          rw [hbl]
          simpa [stp, h1] using this
theorem refmul_ev {x y : Int} (hx : Byt x) (hy : Byt y) : Ev (fun k => ramekinref2_Mul.f k x y) (mulI x y) := by
  obtain ⟨a, rfl⟩ := Int.eq_ofNat_of_zero_le hx.1
  obtain ⟨b, rfl⟩ := Int.eq_ofNat_of_zero_le hy.1
  have ha : a < 256 := by have := hx.2; omega
  have hb : b < 256 := by have := hy.2; omega
  have := refmul_l0 8 a b 0 ha (by simpa using hb) hb (by omega)
  have e : (bitsL 8 b a).foldl stp 0 = mulN b a := rfl
  rw [e, mul_comm' hb ha] at this
  unfold ramekinref2_Mul.f
  rw [w64 (by omega) (by omega), w64 (by omega) (by omega)]
  exact this
theorem refexp_l0 (n : Nat) (hn : n < 255) : ∀ d j, n - j = d → j ≤ n → Ev (fun k => ramekinref2_Exp.l0 k (n : Int) (expI j) (j : Int)) (expI n)
  | 0, j, hd, hj => by
    obtain rfl : j = n := by omega
    refine Ev.step (f := fun _ => some (expI j)) (fun k => ?_) (Ev.now _)
    rw [ramekinref2_Exp.l0, if_neg (by omega)]
  | d + 1, j, hd, hj => by
    refine Ev.step (f := fun k => (ramekinref2_Mul.f k (expI j) 2).bind fun t => ramekinref2_Exp.l0 k (n : Int) t ((j + 1 : Nat) : Int)) (fun k => ?_) ?_
    · rw [ramekinref2_Exp.l0, if_pos (by omega), w64 (by omega) (by omega)]; rfl
    · refine Ev.bind (refmul_ev (byt_exp j) ⟨by omega, by omega⟩) ?_
      have e : mulI (expI j) 2 = expI (j + 1) := by
        rw [mulI_comm (byt_exp j) ⟨by omega, by omega⟩]
        unfold mulI expI
        simp only [Int.toNat_natCast]
        have := two_mul (pw_lt j)
        rw [show (2 : Int).toNat = 2 from rfl, this]
        rfl
      rw [e]
      exact refexp_l0 n hn d (j + 1) (by omega) (by omega)
theorem refexp_ev (n : Nat) (hn : n < 255) : Ev (fun k => ramekinref2_Exp.f k (n : Int)) (expI n) := by
  have e1 : Int.tmod (n : Int) 255 = (n : Int) := Int.tmod_eq_of_lt (by omega) (by omega)
  refine Ev.congr (f := fun k => ramekinref2_Exp.j0 k (n : Int)) (fun k => ?_) ?_
  · rw [ramekinref2_Exp.f, e1, if_neg (by omega)]
  · refine Ev.step (f := fun k => ramekinref2_Exp.l0 k (n : Int) (expI 0) ((0 : Nat) : Int)) (fun k => ?_) (refexp_l0 n hn n 0 (by omega) (by omega))
    rw [ramekinref2_Exp.j0]; rfl
end Go.Proofs.Ytibileffpgnjhaa.Pl
