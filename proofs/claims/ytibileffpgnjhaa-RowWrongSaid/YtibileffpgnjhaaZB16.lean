/-
  Parts of a proof, laid together by a program of mine (pack.py): Pk, Ot, Tw, So, PRqx4, Kp, Ow, PRtx0, PRtx1, Sr.
-/
import Derived.IntWalk
import Derived.Laws.Bits128
import Derived.Handy
import Derived.Deep.RegionHeld3
import Derived.StillTailTactics
import Derived.Lib.Hide
import Derived.RegionIn
import Derived.Stop.RegionWithIn
import Derived.Below
import Derived.Deep.Draws
import Derived.Deep.AppendLies
import Derived.Maps.AppendAt
import Derived.OwnWalk
import Derived.Laws.BytesArg
import Derived.Laws.MakeOwn
import Derived.Laws.OwnMore
import Derived.Deep.OwnRows
import Derived.Tactics
import Derived.Lib.ConvBytes
import Derived.Laws.Slices
import Derived.WalkKit
import Derived.KernelRfl
import Derived.RowKit3
import Derived.Deep.LoopGhost
import Derived.Deep.QuietTactic
import Derived.BigQuiet
import Derived.WideLaws
import Derived.Deep.DeepCutAuto
import Derived.Deep.CutBlock
import Derived.Laws.Rows
import Derived.Lib.AppendStr
import Derived.ArgAppend
import Derived.Laws.IdiomCopy
import Derived.OrdersHeld
import Derived.Laws.BitsLemmas
import Derived.RowKit
import Derived.Test.YtibileffpgnjhaaZB15
namespace Go.Proofs.Ytibileffpgnjhaa.Pl
open Go.RowKit Go.Proofs.YtibileffpgnjhaaW.PrintWords Go.Proofs.YtibileffpgnjhaaW.PrintLast Go.Proofs.Ytibileffpgnjhaa.PRq Go.Proofs.Ytibileffpgnjhaa.Fld
open Go.Proofs.Ytibileffpgnjhaa.Base (mulN tw tw_lt bitsL accL bitsL_lt)
set_option linter.unusedSimpArgs false
set_option linter.unusedVariables false
theorem w64 {n : Int} (h1 : -9223372036854775808 ≤ n) (h2 : n ≤ 9223372036854775807) : wrap64 n = n := IntWalk.wrap64_in n ⟨h1, h2⟩
theorem ofInt_i64 (a : Nat) (ha : a < 4611686018427387904) : (BitVec.ofInt 64 (a : Int)).toNat = a := by
  rw [BitVec.ofInt_natCast, BitVec.toNat_ofNat]; exact Nat.mod_eq_of_lt (by omega)
theorem i64_and_nat (a b : Nat) (ha : a < 4611686018427387904) (hb : b < 4611686018427387904) : bits .and .i64 (a : Int) (b : Int) = ((a &&& b : Nat) : Int) := by
  have hx : a &&& b < 2 ^ 62 := Nat.and_lt_two_pow _ (by simpa using hb)
  show IntKind.i64.wrap ((BitVec.ofInt 64 (a : Int) &&& BitVec.ofInt 64 (b : Int)).toNat : Int) = _
  rw [BitVec.toNat_and, ofInt_i64 a ha, ofInt_i64 b hb, IntKind.wrap_i64]
  omega
theorem i64_xor_nat (a b : Nat) (ha : a < 4611686018427387904) (hb : b < 4611686018427387904) : bits .xor .i64 (a : Int) (b : Int) = ((a ^^^ b : Nat) : Int) := by
  have hx : a ^^^ b < 2 ^ 62 := Nat.xor_lt_two_pow (by simpa using ha) (by simpa using hb)
  show IntKind.i64.wrap ((BitVec.ofInt 64 (a : Int) ^^^ BitVec.ofInt 64 (b : Int)).toNat : Int) = _
  rw [BitVec.toNat_xor, ofInt_i64 a ha, ofInt_i64 b hb, IntKind.wrap_i64]
  omega
theorem i64_and_one (a : Nat) (ha : a < 4611686018427387904) : bits .and .i64 (a : Int) 1 = ((a % 2 : Nat) : Int) := by
  have := i64_and_nat a 1 ha (by omega)
  rw [Nat.and_one_is_mod] at this
  exact this
theorem byt_nat (a : Nat) (h : a < 256) : Byt (a : Int) := ⟨by omega, by omega⟩
theorem byt_xor {x y : Int} (hx : Byt x) (hy : Byt y) : Byt (xorI x y) := by
  have : x.toNat ^^^ y.toNat < 2 ^ 8 := Nat.xor_lt_two_pow (by have := hx.1; have := hx.2; omega) (by have := hy.1; have := hy.2; omega)
  exact byt_nat _ this
theorem byt_mul {x y : Int} (hy : Byt y) : Byt (mulI x y) := byt_nat _ (mulN_lt (by have := hy.1; have := hy.2; omega))
theorem byt_exp (i : Nat) : Byt (expI i) := byt_nat _ (pw_lt i)
theorem byt_zero : Byt 0 := ⟨by omega, by omega⟩
theorem byt_inv {x : Int} (h : Byt x) : Byt (invI x) := byt_nat _ (invN_lt (by have := h.1; have := h.2; omega))
theorem xor_u8 {x y : Int} (hx : Byt x) (hy : Byt y) : Go.bits .xor .u8 x y = xorI x y := u8_xor x y hx.1 hx.2 hy.1 hy.2
theorem toNat_lt {x : Int} (h : Byt x) : x.toNat < 256 := by have := h.1; have := h.2; omega
theorem xorI_comm (x y : Int) : xorI x y = xorI y x := by unfold xorI; rw [Nat.xor_comm]
theorem xorI_assoc (x y z : Int) : xorI (xorI x y) z = xorI x (xorI y z) := by unfold xorI; simp [Nat.xor_assoc]
theorem xorI_zero {x : Int} (h : Byt x) : xorI x 0 = x := by unfold xorI; have := h.1; simp; omega
theorem zero_xorI {x : Int} (h : Byt x) : xorI 0 x = x := by rw [xorI_comm, xorI_zero h]
theorem xorI_self (x : Int) : xorI x x = 0 := by unfold xorI; simp
theorem xorI_left_comm (x y z : Int) : xorI x (xorI y z) = xorI y (xorI x z) := by rw [← xorI_assoc, xorI_comm x y, xorI_assoc]
theorem xorI_swap (a b c d : Int) : xorI (xorI a b) (xorI c d) = xorI (xorI a c) (xorI b d) := by
  rw [xorI_assoc, xorI_assoc, xorI_left_comm b c d]
theorem mulI_xor {a b c : Int} (hb : Byt b) (hc : Byt c) : mulI a (xorI b c) = xorI (mulI a b) (mulI a c) := by
  unfold mulI xorI
  simp only [Int.toNat_natCast]
  rw [mul_xor _ (toNat_lt hb) (toNat_lt hc)]
theorem mulI_zero {a : Int} (h : Byt a) : mulI a 0 = 0 := by unfold mulI; simp [mul_zero (toNat_lt h)]
theorem mulI_comm {a b : Int} (ha : Byt a) (hb : Byt b) : mulI a b = mulI b a := by unfold mulI; rw [mul_comm' (toNat_lt ha) (toNat_lt hb)]
theorem mulI_assoc {a b c : Int} (ha : Byt a) (hb : Byt b) (hc : Byt c) : mulI (mulI a b) c = mulI a (mulI b c) := by
  unfold mulI; simp only [Int.toNat_natCast]; rw [mul_assoc' (toNat_lt ha) (toNat_lt hb) (toNat_lt hc)]
theorem mulI_one {a : Int} (ha : Byt a) : mulI a 1 = a := by
  rw [mulI_comm ha ⟨by omega, by omega⟩]
  unfold mulI
  have := one_mul (toNat_lt ha)
  simp only [show (1 : Int).toNat = 1 from rfl, this]
  have := ha.1; omega
theorem mul_f {x y : Int} (hx : Byt x) (hy : Byt y) : gf_Mul.f x y = some (mulI x y) := by
  unfold gf_Mul.f mulI
  rw [if_pos ⟨⟨hx.1, hx.2⟩, hy.1, hy.2⟩]
theorem pow_l0 (a o m : Nat) (ha : a < 256) (ho : o < 256) (hm : m < 4611686018427387904) : Ev (fun k => gf_Pow.l0 k (a : Int) (o : Int) (m : Int)) ((mulN o (pwN a m) : Nat) : Int) := by
  induction m using Nat.strongRecOn generalizing a o with
  | _ m ih =>
    have hmm : ∀ {x y : Nat}, x < 256 → y < 256 → gf_Mul.f (x : Int) (y : Int) = some ((mulN x y : Nat) : Int) := fun hx hy => mul_f (byt_nat _ hx) (byt_nat _ hy)
    rcases Nat.eq_zero_or_pos m with rfl | hpos
    · refine Ev.step (f := fun _ => some ((mulN o (pwN a 0) : Nat) : Int)) (fun k => ?_) (Ev.now _)
      rw [gf_Pow.l0, if_neg (by omega)]
      have : mulN o 1 = o := by rw [mul_comm' ho (by omega), one_mul ho]
      rw [pwN, this]
    · have hI := ih (m / 2) (by omega)
      have h2 : ((m : Int) / 2) = ((m / 2 : Nat) : Int) := by omega
      have hsq : mulN a a < 256 := mulN_lt ha
      rcases Nat.mod_two_eq_zero_or_one m with h0 | h1
      · refine Ev.step (f := fun k => gf_Pow.l0 k ((mulN a a : Nat) : Int) (o : Int) ((m / 2 : Nat) : Int)) (fun k => ?_) ?_
        · rw [gf_Pow.l0, if_pos (by omega), i64_and_one m hm, if_neg (by omega), hmm ha ha, h2]; rfl
        · have := hI (mulN a a) o hsq ho (by omega)
          rw [pwN_sq ha, show 2 * (m / 2) = m by omega] at this
          exact this
      · refine Ev.step (f := fun k => gf_Pow.l0 k ((mulN a a : Nat) : Int) ((mulN o a : Nat) : Int) ((m / 2 : Nat) : Int)) (fun k => ?_) ?_
        · rw [gf_Pow.l0, if_pos (by omega), i64_and_one m hm, if_pos (by omega), hmm ho ha, hmm ha ha, h2]; rfl
        · have := hI (mulN a a) (mulN o a) hsq (mulN_lt ha) (by omega)
          rw [pwN_sq ha, mul_assoc' ho ha (pwN_lt ha _)] at this
          have e : pwN a m = mulN a (pwN a (2 * (m / 2))) := by
            have : m = (2 * (m / 2)) + 1 := by omega
            conv => lhs; rw [this]
            rfl
          rw [e]
          exact this
theorem pow_ev (a : Nat) (n : Int) (m : Nat) (ha : a < 256) (h0 : a ≠ 0) (hm : Int.tmod (wrap64 ((Int.tmod n 255) + 255)) 255 = (m : Int)) (hm2 : m < 255) : Ev (fun k => gf_Pow.f k (a : Int) n) ((pwN a m : Nat) : Int) := by
  refine Ev.congr (f := fun k => gf_Pow.l0 k (a : Int) ((1 : Nat) : Int) (m : Int)) (fun k => ?_) ?_
  · rw [gf_Pow.f, if_neg (by omega), hm]; rfl
  · have := pow_l0 a 1 m ha (by omega) (by omega)
    rw [one_mul (pwN_lt ha m)] at this
    exact this
theorem exp_ev (i : Nat) (hi : i < 255) : Ev (fun k => gf_Exp.f k (i : Int)) (expI i) := by
  refine Ev.bind (g := fun k => gf_Pow.f k 2 (i : Int)) (f := fun _ t => some t) (a := expI i) ?_ (Ev.now _)
  have := pow_ev 2 (i : Int) i (by omega) (by omega) (by
    have e1 : Int.tmod (i : Int) 255 = (i : Int) := Int.tmod_eq_of_lt (by omega) (by omega)
    rw [e1, w64 (by omega) (by omega)]
    have : ((i : Int) + 255) = (i : Int) + 255 * 1 := by omega
    rw [Int.tmod_eq_emod_of_nonneg (by omega)]
    omega) hi
  rw [pwN_two] at this
  exact this
theorem inv_ev (a : Nat) (ha : a < 256) (h0 : a ≠ 0) : Ev (fun k => gf_Pow.f k (a : Int) (-1)) (invI (a : Int)) := by
  have := pow_ev a (-1) 254 ha h0 (by
    have e : Int.tmod (-1) 255 = -1 := by decide
    rw [e, w64 (by omega) (by omega)]
    decide) (by omega)
  unfold invI invN
  simpa [h0] using this
theorem rd_nat (xs : List Int) (j : Nat) : rd xs (j : Int) = at_ xs j := by unfold rd at_; simp
theorem rdL_nat (L : List (List Int)) (j : Nat) : rd_L2 L (j : Int) = row L j := by unfold rd_L2 row; simp
def Bytes (r : List Int) : Prop := ∀ x ∈ r, Byt x
theorem byt_at {r : List Int} (h : Bytes r) (j : Nat) : Byt (at_ r j) := by
  unfold at_
  rw [List.getD_eq_getElem?_getD]
  cases hj : r[j]? with
  | none => exact byt_zero
  | some x => exact h x (List.mem_of_getElem? hj)
theorem at_lt {r : List Int} {j : Nat} (h : j < r.length) : at_ r j = r[j] := by unfold at_; simp [h]
theorem row_lt {L : List (List Int)} {j : Nat} (h : j < L.length) : row L j = L[j] := by unfold row; simp [h]
def part (p r : List Int) (b : Option Int) (j : Nat) : List Int := p.mapIdx fun k a => if k < j then xorI a (match b with | none => at_ r k | some b => mulI b (at_ r k)) else a
def term (r : List Int) (b : Option Int) (k : Nat) : Int := match b with | none => at_ r k | some b => mulI b (at_ r k)
theorem part_len (p r : List Int) (b : Option Int) (j : Nat) : (part p r b j).length = p.length := by simp [part]
theorem part_zero (p r : List Int) (b : Option Int) : part p r b 0 = p := by
  unfold part
  apply List.ext_getElem
  · simp
  · intro i h1 h2; simp
theorem part_at (p r : List Int) (b : Option Int) (j k : Nat) (hk : k < p.length) : at_ (part p r b j) k = if k < j then xorI (at_ p k) (term r b k) else at_ p k := by
  rw [at_lt (by rw [part_len]; exact hk), at_lt hk]
  simp [part, term]
theorem part_set (p r : List Int) (b : Option Int) (j : Nat) (hj : j < p.length) : (part p r b j).set j (xorI (at_ p j) (term r b j)) = part p r b (j + 1) := by
  apply List.ext_getElem
  · simp [part]
  · intro i h1 h2
    simp only [part, List.length_mapIdx] at h2
    rw [List.getElem_set]
    split
    · rename_i e
      subst e
      simp [part, term, at_lt hj]
    · rename_i e
      simp only [part, List.getElem_mapIdx]
      by_cases hi : i < j
      · rw [if_pos hi, if_pos (by omega)]
      · rw [if_neg hi, if_neg (by omega)]
theorem pS_snoc (L : List (List Int)) (r : List Int) (k : Nat) (hL : ∀ r ∈ L, Bytes r) (hr : Bytes r) : pS (L ++ [r]) k = xorI (pS L k) (at_ r k) := by
  induction L with
  | nil => simp [pS]; rw [xorI_zero (byt_at hr k), zero_xorI (byt_at hr k)]
  | cons q L ih =>
    simp only [List.cons_append, pS]
    rw [ih (fun r h => hL r (by simp [h])), xorI_assoc]
theorem qS_snoc (s : Nat) (L : List (List Int)) (r : List Int) (k : Nat) (hL : ∀ r ∈ L, Bytes r) (hr : Bytes r) : qS s (L ++ [r]) k = xorI (qS s L k) (mulI (expI (s + L.length)) (at_ r k)) := by
  induction L generalizing s with
  | nil => simp [qS]; rw [xorI_zero (byt_mul (byt_at hr k)), zero_xorI (byt_mul (byt_at hr k))]
  | cons q L ih =>
    simp only [List.cons_append, qS]
    rw [ih (s + 1) (fun r h => hL r (by simp [h])), xorI_assoc]
    have e : s + 1 + L.length = s + (L.length + 1) := by omega
    rw [e]
    rfl
theorem byt_pS (L : List (List Int)) (k : Nat) (hL : ∀ r ∈ L, Bytes r) : Byt (pS L k) := by
  induction L with
  | nil => exact byt_zero
  | cons r L ih => exact byt_xor (byt_at (hL r (by simp)) k) (ih (fun r h => hL r (by simp [h])))
theorem byt_qS (s : Nat) (L : List (List Int)) (k : Nat) (hL : ∀ r ∈ L, Bytes r) : Byt (qS s L k) := by
  induction L generalizing s with
  | nil => exact byt_zero
  | cons r L ih => exact byt_xor (byt_mul (byt_at (hL r (by simp)) k)) (ih _ (fun r h => hL r (by simp [h])))
theorem sumP_len (L : List (List Int)) (n : Nat) : (sumP L n).length = n := by simp [sumP]
theorem sumQ_len (L : List (List Int)) (n : Nat) : (sumQ L n).length = n := by simp [sumQ]
theorem sumP_at (L : List (List Int)) {n k : Nat} (h : k < n) : at_ (sumP L n) k = pS L k := by rw [at_lt (by rw [sumP_len]; exact h)]; simp [sumP]
theorem sumQ_at (L : List (List Int)) {n k : Nat} (h : k < n) : at_ (sumQ L n) k = qS 0 L k := by rw [at_lt (by rw [sumQ_len]; exact h)]; simp [sumQ]
theorem bytes_sumP (L : List (List Int)) (n : Nat) (hL : ∀ r ∈ L, Bytes r) : Bytes (sumP L n) := by
  intro x hx
  simp only [sumP, List.mem_map] at hx
  obtain ⟨k, _, rfl⟩ := hx
  exact byt_pS L k hL
theorem bytes_sumQ (L : List (List Int)) (n : Nat) (hL : ∀ r ∈ L, Bytes r) : Bytes (sumQ L n) := by
  intro x hx
  simp only [sumQ, List.mem_map] at hx
  obtain ⟨k, _, rfl⟩ := hx
  exact byt_qS 0 L k hL
theorem ext_at {a b : List Int} (h1 : a.length = b.length) (h : ∀ k, k < a.length → at_ a k = at_ b k) : a = b := by
  apply List.ext_getElem h1
  intro k h2 h3
  rw [← at_lt h2, ← at_lt h3, h k h2]
theorem sums_l1 (L : List (List Int)) (i : Nat) (r : List Int) (b : Int) (p q : List Int) (hp : p.length = r.length) (hq : q.length = r.length) (hlen : r.length ≤ 281474976710656) (hb : Byt b) (bp : Bytes p) (bq : Bytes q) (br : Bytes r) (R : List Int × List Int)
    (h : Ev (fun k => rs_sums.l0 k (part p r none r.length) (part q r (some b) r.length) L (L.length : Int) ((i : Int) + 1)) R) (hi : i < 1000000) :
    ∀ d j, r.length - j = d → j ≤ r.length → Ev (fun k => rs_sums.l1 k (part p r none j) (part q r (some b) j) b L (L.length : Int) (i : Int) r (r.length : Int) (j : Int)) R
  | 0, j, hd, hj => by
    obtain rfl : j = r.length := by omega
    refine Ev.step (f := fun k => rs_sums.l0 k (part p r none r.length) (part q r (some b) r.length) L (L.length : Int) ((i : Int) + 1)) (fun k => ?_) h
    rw [rs_sums.l1, if_neg (by omega), w64 (by omega) (by omega)]
  | d + 1, j, hd, hj => by
    have hjr : j < r.length := by omega
    refine Ev.step (f := fun k => rs_sums.l1 k (part p r none (j + 1)) (part q r (some b) (j + 1)) b L (L.length : Int) (i : Int) r (r.length : Int) ((j + 1 : Nat) : Int)) (fun k => ?_) (sums_l1 L i r b p q hp hq hlen hb bp bq br R h hi d (j + 1) (by omega) (by omega))
    have e1 : at_ (part p r none j) j = at_ p j := by rw [part_at _ _ _ _ _ (by omega), if_neg (by omega)]
    have e2 : at_ (part q r (some b) j) j = at_ q j := by rw [part_at _ _ _ _ _ (by omega), if_neg (by omega)]
    have e3 := part_set p r none j (by omega)
    have e4 := part_set q r (some b) j (by omega)
    have t3 : term r none j = at_ r j := rfl
    have t4 : term r (some b) j = mulI b (at_ r j) := rfl
    rw [t3] at e3
    rw [t4] at e4
    rw [rs_sums.l1, if_pos (by omega), if_pos (by omega), if_pos (by omega), if_pos (by rw [part_len]; omega), if_pos (by rw [part_len]; omega), w64 (by omega) (by omega)]
    simp only [rd_nat, e1, e2, Int.toNat_natCast]
    rw [mul_f hb (byt_at br j)]
    simp only [Option.bind_some]
    rw [xor_u8 (byt_at bp j) (byt_at br j), xor_u8 (byt_at bq j) (byt_mul (byt_at br j)), e3, e4]
    rfl
theorem sums_l0 (L : List (List Int)) (n : Nat) (hn : ∀ r ∈ L, r.length = n) (hL : ∀ r ∈ L, Bytes r) (h254 : L.length ≤ 254) (hn2 : n ≤ 281474976710656) :
    ∀ d i, L.length - i = d → i ≤ L.length → Ev (fun k => rs_sums.l0 k (sumP (L.take i) n) (sumQ (L.take i) n) L (L.length : Int) (i : Int)) (sumP L n, sumQ L n)
  | 0, i, hd, hi => by
    obtain rfl : i = L.length := by omega
    refine Ev.step (f := fun _ => some (sumP L n, sumQ L n)) (fun k => ?_) (Ev.now _)
    rw [rs_sums.l0, if_neg (by omega), List.take_length]
  | d + 1, i, hd, hi => by
    have hiL : i < L.length := by omega
    have hm : L[i] ∈ L := List.getElem_mem hiL
    have htk : ∀ r ∈ L.take i, Bytes r := fun r hr => hL r (List.mem_of_mem_take hr)
    refine Ev.step (f := fun k => (gf_Exp.f k (i : Int)).bind fun t => rs_sums.l1 k (sumP (L.take i) n) (sumQ (L.take i) n) t L (L.length : Int) (i : Int) L[i] (L[i].length : Int) 0) (fun k => ?_) ?_
    · rw [rs_sums.l0, if_pos (by omega), if_pos (by omega), if_pos (by omega), rdL_nat, row_lt hiL]
    · refine Ev.bind (exp_ev i (by omega)) ?_
      have h1 := sums_l1 L i L[i] (expI i) (sumP (L.take i) n) (sumQ (L.take i) n) (by rw [sumP_len, hn _ hm]) (by rw [sumQ_len, hn _ hm]) (by rw [hn _ hm]; exact hn2) (byt_exp i) (bytes_sumP _ _ htk) (bytes_sumQ _ _ htk) (hL _ hm) (sumP L n, sumQ L n) ?_ (by omega) L[i].length 0 (by omega) (by omega)
      · simpa [part_zero] using h1
      · have := sums_l0 L n hn hL h254 hn2 d (i + 1) (by omega) (by omega)
        have e1 : part (sumP (L.take i) n) L[i] none L[i].length = sumP (L.take (i + 1)) n := by
          refine ext_at (by rw [part_len, sumP_len, sumP_len]) (fun k hk => ?_)
          rw [part_len, sumP_len] at hk
          rw [part_at _ _ _ _ _ (by rw [sumP_len]; exact hk), if_pos (by rw [hn _ hm]; exact hk), sumP_at _ hk, sumP_at _ hk, List.take_succ_eq_append_getElem hiL, pS_snoc _ _ _ htk (hL _ hm)]
          rfl
        have e2 : part (sumQ (L.take i) n) L[i] (some (expI i)) L[i].length = sumQ (L.take (i + 1)) n := by
          refine ext_at (by rw [part_len, sumQ_len, sumQ_len]) (fun k hk => ?_)
          rw [part_len, sumQ_len] at hk
          rw [part_at _ _ _ _ _ (by rw [sumQ_len]; exact hk), if_pos (by rw [hn _ hm]; exact hk), sumQ_at _ hk, sumQ_at _ hk, List.take_succ_eq_append_getElem hiL, qS_snoc _ _ _ _ htk (hL _ hm)]
          have : (L.take i).length = i := by simp; omega
          rw [this, Nat.zero_add]
          rfl
        rw [e1, e2]
        simpa using this
theorem rep_zero (n : Nat) : List.replicate n (0 : Int) = sumP [] n := by
  refine ext_at (by simp [sumP]) (fun k hk => ?_)
  simp only [List.length_replicate] at hk
  rw [sumP_at _ hk, at_lt (by simpa using hk)]
  simp [pS]
theorem rep_zero' (n : Nat) : List.replicate n (0 : Int) = sumQ [] n := by
  refine ext_at (by simp [sumQ]) (fun k hk => ?_)
  simp only [List.length_replicate] at hk
  rw [sumQ_at _ hk, at_lt (by simpa using hk)]
  simp [qS]
theorem sums_ev (L : List (List Int)) (n : Nat) (hn : ∀ r ∈ L, r.length = n) (hL : ∀ r ∈ L, Bytes r) (h254 : L.length ≤ 254) (hn2 : n ≤ 281474976710656) : Ev (fun k => rs_sums.f k L (n : Int)) (sumP L n, sumQ L n) := by
  refine Ev.congr (f := fun k => rs_sums.l0 k (sumP (L.take 0) n) (sumQ (L.take 0) n) L (L.length : Int) ((0 : Nat) : Int)) (fun k => ?_) (sums_l0 L n hn hL h254 hn2 L.length 0 (by omega) (by omega))
  rw [rs_sums.f, if_pos (by omega), if_pos (by simpa using hn2)]
  simp only [Int.toNat_natCast, List.take_zero]
  rw [← rep_zero, ← rep_zero']
  rfl
theorem alike_from (L : List (List Int)) (n : Int) (hL : L.length ≤ 1000000) : ∀ d i, L.length - i = d → 1 ≤ i → i ≤ L.length → Ev (fun k => rs_alike.l0 k n L (L.length : Int) (i : Int)) (if (L.drop i).all (fun x => decide ((x.length : Int) = n)) then (n, true) else (0, false))
  | 0, i, hd, h1, hi => by
    obtain rfl : i = L.length := by omega
    refine Ev.step (f := fun _ => some (n, true)) (fun k => ?_) ?_
    · rw [rs_alike.l0, if_neg (by omega)]
    · simp; exact Ev.now _
  | d + 1, i, hd, h1, hi => by
    have hiL : i < L.length := by omega
    have hdr : L.drop i = L[i] :: L.drop (i + 1) := List.drop_eq_getElem_cons hiL
    by_cases h : (L[i].length : Int) = n
    · refine Ev.step (f := fun k => rs_alike.l0 k n L (L.length : Int) ((i + 1 : Nat) : Int)) (fun k => ?_) ?_
      · rw [rs_alike.l0, if_pos (by omega), if_pos (by omega), if_pos (by omega), if_pos (by omega), rdL_nat, row_lt hiL, if_pos h, w64 (by omega) (by omega), h]; rfl
      · have := alike_from L n hL d (i + 1) (by omega) (by omega) (by omega)
        have e : (L.drop i).all (fun x => decide ((x.length : Int) = n)) = (L.drop (i + 1)).all (fun x => decide ((x.length : Int) = n)) := by rw [hdr, List.all_cons, decide_eq_true h, Bool.true_and]
        rw [e]
        exact this
    · refine Ev.step (f := fun _ => some (0, false)) (fun k => ?_) ?_
      · rw [rs_alike.l0, if_pos (by omega), if_pos (by omega), if_pos (by omega), if_pos (by omega), rdL_nat, row_lt hiL, if_neg h]
      · have e : (L.drop i).all (fun x => decide ((x.length : Int) = n)) = false := by rw [hdr, List.all_cons, decide_eq_false h, Bool.false_and]
        rw [e]
        exact Ev.now _
theorem alike_ev (L : List (List Int)) (hL : L.length ≤ 1000000) : Ev (fun k => rs_alike.f k L) (if alikeR L then ((lenR L : Nat), true) else ((0 : Int), false)) := by
  unfold rs_alike.f
  cases L with
  | nil =>
    refine Ev.step (f := fun _ => some (0, true)) (fun k => ?_) ?_
    · rw [rs_alike.l0, if_neg (by simp)]
    · simp [alikeR, lenR]; exact Ev.now _
  | cons r L =>
    have h := alike_from (r :: L) (r.length : Int) hL ((r :: L).length - 1) 1 rfl (by omega) (by simp)
    refine Ev.step (f := fun k => rs_alike.l0 k (r.length : Int) (r :: L) ((r :: L).length : Int) ((1 : Nat) : Int)) (fun k => ?_) ?_
    · have hpos : (0 : Int) < ((r :: L).length : Int) := by rw [List.length_cons]; omega
      rw [rs_alike.l0, if_pos hpos, if_pos (by omega), if_pos hpos, if_neg (by omega)]
      have : rd_L2 (r :: L) 0 = r := by simp [rd_L2]
      rw [this, w64 (by omega) (by omega)]
      rfl
    · have e : (alikeR (r :: L)) = ((r :: L).drop 1).all (fun x => decide ((x.length : Int) = (r.length : Int))) := by
        simp only [alikeR, List.all_cons, List.drop_succ_cons, List.drop_zero, beq_self_eq_true, Bool.true_and]
        congr 1
        funext x
        rw [Bool.eq_iff_iff, beq_iff_eq, decide_eq_true_iff]
        omega
      rw [e]
      exact h
theorem alikeR_of {L : List (List Int)} {n : Nat} (h : ∀ r ∈ L, r.length = n) : alikeR L = true := by
  cases L with
  | nil => rfl
  | cons r L =>
    simp only [alikeR, List.all_eq_true]
    intro x hx
    rw [h x (by simp [hx]), h r (by simp)]
    simp
theorem lenR_of {L : List (List Int)} {n : Nat} (h : ∀ r ∈ L, r.length = n) (h0 : L ≠ []) : lenR L = n := by
  cases L with
  | nil => exact absurd rfl h0
  | cons r L => exact h r (by simp)
theorem parity_ev (L : List (List Int)) (n : Nat) (hn : ∀ r ∈ L, r.length = n) (hL : ∀ r ∈ L, Bytes r) (h2 : 2 ≤ L.length) (h14 : L.length ≤ 14) (hn2 : n ≤ 281474976710656) : Ev (fun k => rs_Parity.f k L) (sumP L n, sumQ L n) := by
  have ha := alike_ev L (by omega)
  rw [if_pos (alikeR_of hn), lenR_of hn (by intro h; rw [h] at h2; simp at h2)] at ha
  refine Ev.bind ha ?_
  simp only
  refine Ev.congr (f := fun k => (rs_sums.f k L (n : Int)).bind fun bt => some (bt.1, bt.2)) (fun k => ?_) (Ev.bind (sums_ev L n hn hL (by omega) hn2) (Ev.now _))
  simp only [if_true]
  rw [if_neg (by omega), if_neg (by omega)]
def stp (o : Nat) (p : Bool × Nat) : Nat := if p.1 then o ^^^ p.2 else o
theorem dbl_ck : ((List.range 256).all fun x => decide (x < 128) || ((x * 2) ^^^ 285 == tw x)) = true := by decide +kernel
theorem dbl {x : Nat} (hx : x < 256) (h : 128 ≤ x) : (x * 2) ^^^ 285 = tw x := by
  have := List.all_eq_true.1 dbl_ck x (by simpa using hx)
  simp at this
  omega
theorem refmul_l0 : ∀ (n x y p : Nat), x < 256 → y < 2 ^ n → y < 256 → p < 256 → Ev (fun k => ramekinref2_Mul.l0 k (x : Int) (y : Int) (p : Int)) (((bitsL n y x).foldl stp p : Nat) : Int)
  | n, x, y, p, hx, hy, hy2, hp => by
    rcases Nat.eq_zero_or_pos y with rfl | hpos
    · refine Ev.step (f := fun _ => some (p : Int)) (fun k => ?_) ?_
      · rw [ramekinref2_Mul.l0, if_neg (by omega)]
        congr 1; omega
      · have : bitsL n 0 x = [] := by cases n <;> simp [bitsL]
        rw [this]; exact Ev.now _
    · obtain ⟨m, rfl⟩ : ∃ m, n = m + 1 := ⟨n - 1, by cases n with | zero => simp at hy; omega | succ k => simp⟩
      have hbl : bitsL (m + 1) y x = (y % 2 == 1, x) :: bitsL m (y / 2) (tw x) := by rw [bitsL, if_neg (by omega)]
      have h2 : ((y : Int) / 2) = ((y / 2 : Nat) : Int) := by omega
      have hx2 : wrap64 ((x : Int) * 2) = ((x * 2 : Nat) : Int) := by rw [w64 (by omega) (by omega)]; simp
      have hpx : p ^^^ x < 256 := Nat.xor_lt_two_pow (n := 8) hp hx
      rw [Nat.pow_succ] at hy
      have step : ∀ k q, (if ((x * 2 : Nat) : Int) > 255 then ramekinref2_Mul.l0 k (Go.bits .xor .i64 ((x * 2 : Nat) : Int) 285) ((y / 2 : Nat) : Int) q else ramekinref2_Mul.l0 k ((x * 2 : Nat) : Int) ((y / 2 : Nat) : Int) q) = ramekinref2_Mul.l0 k ((tw x : Nat) : Int) ((y / 2 : Nat) : Int) q := by
        intro k q
        by_cases h : 128 ≤ x
        · rw [if_pos (by omega)]
          have := i64_xor_nat (x * 2) 285 (by omega) (by omega)
          rw [dbl hx h] at this
          rw [← this]; rfl
        · rw [if_neg (by omega)]
          have : tw x = x * 2 := by unfold tw; rw [if_neg h]
          rw [this]
      rcases Nat.mod_two_eq_zero_or_one y with h0 | h1
      · refine Ev.step (f := fun k => ramekinref2_Mul.l0 k ((tw x : Nat) : Int) ((y / 2 : Nat) : Int) (p : Int)) (fun k => ?_) ?_
        · rw [ramekinref2_Mul.l0, if_pos (by omega), i64_and_one y (by omega), if_neg (by omega), hx2, h2, step]
        · have := refmul_l0 m (tw x) (y / 2) p (tw_lt hx) (by omega) (by omega) hp
          rw [hbl]
          simpa [stp, h0] using this
      · refine Ev.step (f := fun k => ramekinref2_Mul.l0 k ((tw x : Nat) : Int) ((y / 2 : Nat) : Int) ((p ^^^ x : Nat) : Int)) (fun k => ?_) ?_
        · rw [ramekinref2_Mul.l0, if_pos (by omega), i64_and_one y (by omega), if_pos (by omega), hx2, h2, i64_xor_nat p x (by omega) (by omega), step]
        · have := refmul_l0 m (tw x) (y / 2) (p ^^^ x) (tw_lt hx) (by omega) (by omega) hpx
          rw [hbl]
          simpa [stp, h1] using this
theorem refmul_ev {x y : Int} (hx : Byt x) (hy : Byt y) : Ev (fun k => ramekinref2_Mul.f k x y) (mulI x y) := by
  obtain ⟨a, rfl⟩ := Int.eq_ofNat_of_zero_le hx.1
  obtain ⟨b, rfl⟩ := Int.eq_ofNat_of_zero_le hy.1
  have ha : a < 256 := by have := hx.2; omega
  have hb : b < 256 := by have := hy.2; omega
  have := refmul_l0 8 a b 0 ha (by simpa using hb) hb (by omega)
  have e : (bitsL 8 b a).foldl stp 0 = mulN b a := rfl
  rw [e, mul_comm' hb ha] at this
  unfold ramekinref2_Mul.f
  rw [w64 (by omega) (by omega), w64 (by omega) (by omega)]
  exact this
theorem refexp_l0 (n : Nat) (hn : n < 255) : ∀ d j, n - j = d → j ≤ n → Ev (fun k => ramekinref2_Exp.l0 k (n : Int) (expI j) (j : Int)) (expI n)
  | 0, j, hd, hj => by
    obtain rfl : j = n := by omega
    refine Ev.step (f := fun _ => some (expI j)) (fun k => ?_) (Ev.now _)
    rw [ramekinref2_Exp.l0, if_neg (by omega)]
  | d + 1, j, hd, hj => by
    refine Ev.step (f := fun k => (ramekinref2_Mul.f k (expI j) 2).bind fun t => ramekinref2_Exp.l0 k (n : Int) t ((j + 1 : Nat) : Int)) (fun k => ?_) ?_
    · rw [ramekinref2_Exp.l0, if_pos (by omega), w64 (by omega) (by omega)]; rfl
    · refine Ev.bind (refmul_ev (byt_exp j) ⟨by omega, by omega⟩) ?_
      have e : mulI (expI j) 2 = expI (j + 1) := by
        rw [mulI_comm (byt_exp j) ⟨by omega, by omega⟩]
        unfold mulI expI
        simp only [Int.toNat_natCast]
        have := two_mul (pw_lt j)
        rw [show (2 : Int).toNat = 2 from rfl, this]
        rfl
      rw [e]
      exact refexp_l0 n hn d (j + 1) (by omega) (by omega)
theorem refexp_ev (n : Nat) (hn : n < 255) : Ev (fun k => ramekinref2_Exp.f k (n : Int)) (expI n) := by
  have e1 : Int.tmod (n : Int) 255 = (n : Int) := Int.tmod_eq_of_lt (by omega) (by omega)
  refine Ev.congr (f := fun k => ramekinref2_Exp.j0 k (n : Int)) (fun k => ?_) ?_
  · rw [ramekinref2_Exp.f, e1, if_neg (by omega)]
  · refine Ev.step (f := fun k => ramekinref2_Exp.l0 k (n : Int) (expI 0) ((0 : Nat) : Int)) (fun k => ?_) (refexp_l0 n hn n 0 (by omega) (by omega))
    rw [ramekinref2_Exp.j0]; rfl
end Go.Proofs.Ytibileffpgnjhaa.Pl
namespace Go.Proofs.Ytibileffpgnjhaa.Ot
open Go.RowKit Go.Proofs.YtibileffpgnjhaaW.PrintWords
open Go.Proofs.Ytibileffpgnjhaa.PRq Go.Proofs.Ytibileffpgnjhaa.Fld Go.Proofs.Ytibileffpgnjhaa.Pl
set_option linter.unusedSimpArgs false
set_option linter.unusedVariables false
def partA (tt x : List Int) (b : Int) (j : Nat) : List Int := tt.mapIdx fun k a => if k < j then xorI a (mulI (at_ x k) b) else a
theorem partA_len (tt x : List Int) (b : Int) (j : Nat) : (partA tt x b j).length = tt.length := by simp [partA]
theorem partA_zero (tt x : List Int) (b : Int) : partA tt x b 0 = tt := by
  unfold partA
  apply List.ext_getElem
  · simp
  · intro i h1 h2; simp
theorem partA_at (tt x : List Int) (b : Int) (j : Nat) (hj : j < tt.length) : at_ (partA tt x b j) j = at_ tt j := by
  rw [at_lt (by rw [partA_len]; exact hj), at_lt hj]
  simp [partA]
theorem partA_set (tt x : List Int) (b : Int) (j : Nat) (hj : j < tt.length) : (partA tt x b j).set j (xorI (at_ tt j) (mulI (at_ x j) b)) = partA tt x b (j + 1) := by
  apply List.ext_getElem
  · simp [partA]
  · intro i h1 h2
    simp only [partA, List.length_mapIdx] at h2
    rw [List.getElem_set]
    split
    · rename_i e
      subst e
      simp [partA, at_lt hj]
    · rename_i e
      simp only [partA, List.getElem_mapIdx]
      by_cases hi : i < j
      · rw [if_pos hi, if_pos (by omega)]
      · rw [if_neg hi, if_neg (by omega)]
theorem addR_len (tt x : List Int) (b : Int) : (addR tt x b).length = tt.length := by simp [addR]
theorem bytes_addR {tt x : List Int} {b : Int} (h1 : Bytes tt) (h2 : Bytes x) (hb : Byt b) : Bytes (addR tt x b) := by
  intro y hy
  obtain ⟨i, hi, rfl⟩ := List.getElem_of_mem hy
  rw [addR_len] at hi
  simp only [addR, List.getElem_mapIdx]
  split
  · exact byt_xor (h1 _ (List.getElem_mem hi)) (byt_mul hb)
  · exact h1 _ (List.getElem_mem hi)
theorem add_l0 (tt x : List Int) (b : Int) (hl : x.length ≤ tt.length) (hm : x.length ≤ 1000000) (h1 : Bytes tt) (h2 : Bytes x) (hb : Byt b) : ∀ d j, x.length - j = d → j ≤ x.length → Ev (fun k => rs_add.l0 k (partA tt x b j) b x (x.length : Int) (j : Int)) (addR tt x b)
  | 0, j, hd, hj => by
    obtain rfl : j = x.length := by omega
    refine Ev.step (f := fun _ => some (addR tt x b)) (fun k => ?_) (Ev.now _)
    rw [rs_add.l0, if_neg (by omega)]
    rfl
  | d + 1, j, hd, hj => by
    refine Ev.step (f := fun k => rs_add.l0 k (partA tt x b (j + 1)) b x (x.length : Int) ((j + 1 : Nat) : Int)) (fun k => ?_) (add_l0 tt x b hl hm h1 h2 hb d (j + 1) (by omega) (by omega))
    rw [rs_add.l0, if_pos (by omega), if_pos (by omega), if_pos (by omega), if_pos (by rw [partA_len]; omega), w64 (by omega) (by omega), rd_nat, rd_nat, mul_f (byt_at h2 j) hb]
    simp only [Option.bind_some, Int.toNat_natCast]
    rw [partA_at _ _ _ _ (by omega), xor_u8 (byt_at h1 j) (byt_mul hb), partA_set _ _ _ _ (by omega)]
    rfl
theorem add_ev (tt x : List Int) (b : Int) (hl : x.length ≤ tt.length) (hm : x.length ≤ 1000000) (h1 : Bytes tt) (h2 : Bytes x) (hb : Byt b) : Ev (fun k => rs_add.f k tt x b) (addR tt x b) := by
  have := add_l0 tt x b hl hm h1 h2 hb x.length 0 (by omega) (by omega)
  rw [partA_zero] at this
  exact this
def BR (w : World) (base : Nat) (v : Value) (r : List Int) : Prop := w.ownsRow base 5 1 v r.length (encs (Value.int .u8) r)
theorem BR.R {w : World} {base : Nat} {v : Value} {r : List Int} {ok : Nat → Prop} (h : BR w base v r) (hok : ∀ k, v.ownBlock = some k → ok k) : Kd.R (Kd.int .u8) 5 w base ok v r := Kd.R_of_own h hok
theorem BR.of {w : World} {base : Nat} {v : Value} {r : List Int} {ok : Nat → Prop} (h : Kd.R (Kd.int .u8) 5 w base ok v r) : BR w base v r := Kd.own_of_R h
theorem BR.slice {w : World} {base : Nat} {v : Value} {r : List Int} (h : BR w base v r) : ∃ A c, v = .slice A r.length c ∧ r.length ≤ c ∧ Kd.C (Kd.int .u8) w A r.length r := Kd.R_reads (h.R (ok := fun _ => True) (fun _ _ => trivial))
theorem BR.move {w w1 : World} {base : Nat} {v : Value} {r : List Int} (h : BR w base v r) (hm : ∀ k, v.ownBlock = some k → w1.heap[k]? = w.heap[k]?) : BR w1 base v r := own_move h hm
theorem BR.below {w w1 : World} {base : Nat} {v : Value} {r : List Int} (h : BR w base v r) (hb : Below w.heap.size w w1) : BR w1 base v r := pw_own_below h hb
theorem BR.kept {w w1 : World} {base : Nat} {v u : Value} {r : List Int} (h : BR w base v r) (hk : Kept w w1 (fun k => some k = u.ownBlock)) (hne : ∀ k, v.ownBlock = some k → u.ownBlock ≠ some k) : BR w1 base v r :=
  h.move (fun k e => hk.2 k (own_lt h k e) (fun h2 => hne k e h2.symm))
theorem BR.C_kept {w w1 : World} {base c n : Nat} {A : Option Addr} {u : Value} {r : List Int} (h : BR w base (.slice A n c) r) (hk : Kept w w1 (fun k => some k = u.ownBlock)) (hne : ∀ k, (Value.slice A n c).ownBlock = some k → u.ownBlock ≠ some k) : Kd.C (Kd.int .u8) w1 A r.length r := by
  obtain ⟨A', c', e, _, h2⟩ := (h.kept hk hne).slice
  cases e
  exact h2
/-- rs.add -/
theorem add_any {w0 w : World} {v g : Value} {tt x : List Int} {b : Int} (hB : Below w0.heap.size w0 w) (h : BR w w0.heap.size v tt) (hg : BR w w0.heap.size g x) (hne : ∀ k, g.ownBlock = some k → v.ownBlock ≠ some k)
    (hl : x.length ≤ tt.length) (hm : x.length ≤ 1000000) (h1 : Bytes tt) (h2 : Bytes x) (hb : Byt b) :
    Calls Try.prog 70 #[v, g, .int .u8 b] w fun e w' => e = .returned (.tuple #[]) ∧ BR w' w0.heap.size v (addR tt x b) ∧ Below w0.heap.size w0 w' ∧ Kept w w' (fun k => some k = v.ownBlock) := by
  obtain ⟨k, hk⟩ := (add_ev tt x b hl hm h1 h2 hb).rounds
  obtain ⟨A, c, rfl, hc, _⟩ := hg.slice
  refine (rs_add.calls k (fun k => some k = v.ownBlock) v tt A c x b _ w0 w hB (h.R (fun k e => e.symm)) (fun W hW => hg.C_kept hW hne) hc hk).mono ?_
  rintro e w' ⟨rfl, g1, g2, g3⟩
  exact ⟨rfl, BR.of g1, g2, g3⟩
structure Out (w : World) (base G : Nat) (hs : List Value) (rows : List (List Int)) : Prop where
  head : w.ownsRow base 47 1 (.slice (some ⟨G, 0, none⟩) rows.length rows.length) rows.length hs
  row : ∀ (i : Nat) (h : Value) (r : List Int), hs[i]? = some h → rows[i]? = some r → BR w base h r
  apart : ∀ (i j : Nat) (h g : Value) (k : Nat), i ≠ j → hs[i]? = some h → hs[j]? = some g → h.ownBlock = some k → g.ownBlock ≠ some k
  max : rows.length ≤ 1000000
namespace Out
variable {w w1 : World} {base G i : Nat} {hs : List Value} {rows : List (List Int)} {h v : Value} {r : List Int}
theorem len (O : Out w base G hs rows) : hs.length = rows.length := by have := O.head.1; omega
theorem lt (O : Out w base G hs rows) : G < w.heap.size := own_lt O.head G rfl
theorem baseG (O : Out w base G hs rows) : base ≤ G := own_base O.head G rfl
theorem below (O : Out w base G hs rows) (hb : Below w.heap.size w w1) : Out w1 base G hs rows := ⟨pw_own_below O.head hb, fun i h r h1 h2 => (O.row i h r h1 h2).below hb, O.apart, O.max⟩
theorem at_ (O : Out w base G hs rows) (hi : i < rows.length) : ∃ A c, hs[i]? = some (.slice A (Fld.row rows i).length c) ∧ w.cell? ⟨G, i, none⟩ = some (.slice A (Fld.row rows i).length c) ∧ w.frozen? ⟨G, i, none⟩ = false ∧ BR w base (.slice A (Fld.row rows i).length c) (Fld.row rows i) := by
  have hl := O.len
  have hi2 : i < hs.length := by omega
  have hr := O.row i hs[i] rows[i] (List.getElem?_eq_getElem hi2) (List.getElem?_eq_getElem hi)
  obtain ⟨A, c, e, _⟩ := hr.slice
  rw [row_lt hi]
  refine ⟨A, c, by rw [List.getElem?_eq_getElem hi2, e], ?_, ?_, by rw [← e]; exact hr⟩
  · rw [O.head.cellAt i (by omega), List.getElem?_eq_getElem hi2, e]
  · rcases O.head.2 with ⟨h', _⟩ | ⟨g', cap', cur, h', _, hh, _⟩
    · cases h'
    · cases h'
      simp [World.frozen?, hh]
theorem get (O : Out w base G hs rows) (hi : i < rows.length) : ∃ h, hs[i]? = some h := ⟨hs[i]'(by have := O.len; omega), List.getElem?_eq_getElem _⟩
theorem cell (O : Out w base G hs rows) (hi : hs[i]? = some h) : w.cell? ⟨G, i, none⟩ = some h := by
  have hl := O.len
  have h1 := (List.getElem?_eq_some_iff.1 hi).1
  rw [O.head.cellAt i (by omega), hi]
theorem frozen (O : Out w base G hs rows) (i : Nat) : w.frozen? ⟨G, i, none⟩ = false := by
  rcases O.head.2 with ⟨h', _⟩ | ⟨g', cap', cur, h', _, hh, _⟩
  · cases h'
  · cases h'
    simp [World.frozen?, hh]
theorem R (O : Out w base G hs rows) : Kd.R (Kd.slice 5 (Kd.int .u8)) 47 w base (fun k => base ≤ k) (.slice (some ⟨G, 0, none⟩) rows.length rows.length) rows := by
  have hl := O.len
  refine ⟨fun k hk => own_base O.head k hk, hs, O.head, by rw [hl]; show _ = _ * 1; omega, fun j p hj => ?_⟩
  have hjl : j < rows.length := (List.getElem?_eq_some_iff.1 hj).1
  have hj2 : j < hs.length := by omega
  refine ⟨hs[j], ?_, (O.row j hs[j] p (List.getElem?_eq_getElem hj2) hj).R (fun k hk => ⟨own_base (O.row j hs[j] p (List.getElem?_eq_getElem hj2) hj) k hk, fun he => ?_⟩)⟩
  · show (hs.drop (j * 1)).take 1 = [hs[j]]
    rw [Nat.mul_one, List.drop_eq_getElem_cons hj2]
    rfl
  · rcases own_type_ne (O.row j hs[j] p (List.getElem?_eq_getElem hj2) hj) O.head (by decide) with h1 | h1
    · rw [h1] at hk; cases hk
    · exact h1 (by rw [hk, he])
theorem N (O : Out w base G hs rows) : Kd.N (Kd.slice 5 (Kd.int .u8)) 47 w base (fun k => base ≤ k) (.slice (some ⟨G, 0, none⟩) rows.length rows.length) rows := Kd.R_N O.R
theorem C (O : Out w base G hs rows) {m : Nat} (hm : m ≤ rows.length) : Kd.C (Kd.slice 5 (Kd.int .u8)) w (some ⟨G, 0, none⟩) (rows.take m).length (rows.take m) := (Kd.R_reads' (Kd.R_take O.R hm)).2.2
/-- A row has been written. -/
theorem put (O : Out w base G hs rows) (hi : hs[i]? = some h) (hk : Kept w w1 (fun k => some k = h.ownBlock)) (hr : BR w1 base h r) : Out w1 base G hs (rows.set i r) := by
  have hl := O.len
  refine ⟨?_, fun j g q hj hq => ?_, O.apart, by rw [List.length_set]; exact O.max⟩
  · rw [List.length_set]
    refine own_move O.head (fun k e => hk.2 k (own_lt O.head k e) (fun h2 => ?_))
    have hil : i < rows.length := by have := (List.getElem?_eq_some_iff.1 hi).1; omega
    rcases own_type_ne (O.row i h rows[i] hi (List.getElem?_eq_getElem hil)) O.head (by decide) with h1 | h1
    · rw [h1] at h2; cases h2
    · exact h1 (by rw [← h2, e])
  · by_cases e : i = j
    · subst e
      rw [hi] at hj
      cases hj
      have hil : i < rows.length := by have := (List.getElem?_eq_some_iff.1 hi).1; omega
      rw [List.getElem?_set_self hil] at hq
      cases hq
      exact hr
    · rw [List.getElem?_set_ne e] at hq
      exact (O.row j g q hj hq).kept hk (fun k hk1 => O.apart j i g h k (Ne.symm e) hj hi hk1)
/-- A row has been put in another's place. -/
theorem set (O : Out w base G hs rows) (hi : i < rows.length) (hr : BR w base v r) (hv : ∀ (j : Nat) (g : Value) (k : Nat), hs[j]? = some g → g.ownBlock = some k → v.ownBlock ≠ some k) : Out (w.setCell ⟨G, i, none⟩ v) base G (hs.set i v) (rows.set i r) := by
  have hl := O.len
  have hst := O.head.stored i v
  have hG : ∀ {u : Value} {q : List Int}, BR w base u q → BR (w.setCell ⟨G, i, none⟩ v) base u q := fun {u q} hu => by
    refine hu.move (fun k e => Below.heap_setCell w ⟨G, i, none⟩ v k (fun e2 => ?_))
    rcases own_type_ne hu O.head (by decide) with h1 | h1
    · rw [h1] at e; cases e
    · exact h1 (by rw [e, e2]; rfl)
  refine ⟨?_, fun j g q hj hq => ?_, fun a b h g k hab ha hb he => ?_, by rw [List.length_set]; exact O.max⟩
  · rw [List.length_set]
    exact hst.1
  · by_cases e : i = j
    · subst e
      rw [List.getElem?_set_self (by omega)] at hj
      rw [List.getElem?_set_self (by omega)] at hq
      cases hj
      cases hq
      exact hG hr
    · rw [List.getElem?_set_ne e] at hj hq
      exact hG (O.row j g q hj hq)
  · by_cases e1 : i = a
    · subst e1
      rw [List.getElem?_set_self (by omega)] at ha
      rw [List.getElem?_set_ne hab] at hb
      cases ha
      intro h2
      exact hv b g k hb h2 he
    · rw [List.getElem?_set_ne e1] at ha
      by_cases e2 : i = b
      · subst e2
        rw [List.getElem?_set_self (by omega)] at hb
        cases hb
        exact hv a h k ha he
      · rw [List.getElem?_set_ne e2] at hb
        exact O.apart a b h g k hab ha hb he
end Out
/-- a row beside them -/
def Beside (w : World) (base : Nat) (hs : List Value) (v : Value) (r : List Int) : Prop := BR w base v r ∧ ∀ (j : Nat) (g : Value) (k : Nat), hs[j]? = some g → g.ownBlock = some k → v.ownBlock ≠ some k
theorem Beside.kept {w w1 : World} {base i : Nat} {hs : List Value} {v h : Value} {r : List Int} (hb : Beside w base hs v r) (hi : hs[i]? = some h) (hk : Kept w w1 (fun k => some k = h.ownBlock)) : Beside w1 base hs v r :=
  ⟨hb.1.kept hk (fun k e h2 => hb.2 i h k hi h2 e), hb.2⟩
theorem Beside.below {w w1 : World} {base : Nat} {hs : List Value} {v : Value} {r : List Int} (hb : Beside w base hs v r) (h : Below w.heap.size w w1) : Beside w1 base hs v r := ⟨hb.1.below h, hb.2⟩
/-- rs.add to one of the rows, of one beside them. -/
theorem out_add {w0 w : World} {G i : Nat} {hs : List Value} {rows : List (List Int)} {h g : Value} {x : List Int} {b : Int} (hB : Below w0.heap.size w0 w) (O : Out w w0.heap.size G hs rows) (hi : hs[i]? = some h) (hg : Beside w w0.heap.size hs g x)
    (hl : x.length ≤ (row rows i).length) (hm : x.length ≤ 1000000) (h1 : Bytes (row rows i)) (h2 : Bytes x) (hb : Byt b) :
    Calls Try.prog 70 #[h, g, .int .u8 b] w fun e w' => e = .returned (.tuple #[]) ∧ Out w' w0.heap.size G hs (rows.set i (addR (row rows i) x b)) ∧ Below w0.heap.size w0 w' ∧ Kept w w' (fun k => some k = h.ownBlock) := by
  have hil : i < rows.length := by have := (List.getElem?_eq_some_iff.1 hi).1; have := O.len; omega
  have hr := O.row i h rows[i] hi (List.getElem?_eq_getElem hil)
  rw [← row_lt hil] at hr
  refine (add_any hB hr hg.1 (fun k e h3 => hg.2 i h k hi h3 e) hl hm h1 h2 hb).mono ?_
  rintro e w' ⟨rfl, g1, g2, g3⟩
  exact ⟨rfl, O.put hi g3 g1, g2, g3⟩
/-- .. of another one of them. -/
theorem out_add_row {w0 w : World} {G i j : Nat} {hs : List Value} {rows : List (List Int)} {h g : Value} {b : Int} (hB : Below w0.heap.size w0 w) (O : Out w w0.heap.size G hs rows) (hi : hs[i]? = some h) (hj : hs[j]? = some g) (hij : i ≠ j)
    (hl : (row rows j).length ≤ (row rows i).length) (hm : (row rows j).length ≤ 1000000) (h1 : Bytes (row rows i)) (h2 : Bytes (row rows j)) (hb : Byt b) :
    Calls Try.prog 70 #[h, g, .int .u8 b] w fun e w' => e = .returned (.tuple #[]) ∧ Out w' w0.heap.size G hs (rows.set i (addR (row rows i) (row rows j) b)) ∧ Below w0.heap.size w0 w' ∧ Kept w w' (fun k => some k = h.ownBlock) := by
  have hil : i < rows.length := by have := (List.getElem?_eq_some_iff.1 hi).1; have := O.len; omega
  have hjl : j < rows.length := by have := (List.getElem?_eq_some_iff.1 hj).1; have := O.len; omega
  have hr := O.row i h rows[i] hi (List.getElem?_eq_getElem hil)
  have hs2 := O.row j g rows[j] hj (List.getElem?_eq_getElem hjl)
  rw [← row_lt hil] at hr
  rw [← row_lt hjl] at hs2
  refine (add_any hB hr hs2 (fun k e => O.apart j i g h k (Ne.symm hij) hj hi e) hl hm h1 h2 hb).mono ?_
  rintro e w' ⟨rfl, g1, g2, g3⟩
  exact ⟨rfl, O.put hi g3 g1, g2, g3⟩
end Go.Proofs.Ytibileffpgnjhaa.Ot
namespace Go.Proofs.Ytibileffpgnjhaa.Tw
open Go.RowKit Go.Proofs.YtibileffpgnjhaaW.PrintWords
open Go.Proofs.Ytibileffpgnjhaa.PRq Go.Proofs.Ytibileffpgnjhaa.Fld Go.Proofs.Ytibileffpgnjhaa.Pl Go.Proofs.Ytibileffpgnjhaa.Ot
set_option linter.unusedSimpArgs false
set_option linter.unusedVariables false
theorem exp_any (n : Nat) (hn : n < 255) (w : World) : Calls Try.prog 64 #[.int .i64 (n : Int)] w fun e w' => e = .returned (.int .u8 (expI n)) ∧ Below w.heap.size w w' := by
  obtain ⟨k, hk⟩ := (exp_ev n hn).rounds
  exact gf_Exp.calls k n _ w hk
theorem inv_any (x : Int) (hx : Byt x) (h0 : x ≠ 0) (w : World) : Calls Try.prog 72 #[.int .u8 x] w fun e w' => e = .returned (.int .u8 (invI x)) ∧ Below w.heap.size w w' := by
  obtain ⟨a, rfl⟩ := Int.eq_ofNat_of_zero_le hx.1
  have h := inv_ev a (by have := hx.2; omega) (by intro h; exact h0 (by rw [h]; rfl))
  obtain ⟨k, hk⟩ := (Ev.bind (f := fun _ t => some t) h (Ev.now _)).rounds
  exact gf_Inv.calls k a _ w hk
theorem mulI_any (x y : Int) (hx : Byt x) (hy : Byt y) (w : World) : Calls Try.prog 65 #[.int .u8 x, .int .u8 y] w fun e w' => e = .returned (.int .u8 (mulI x y)) ∧ Below w.heap.size w w' := gf_Mul.calls x y _ w (mul_f hx hy)
theorem xor_ne {a b : Nat} (ha : a < 16) (hb : b < 16) (h : a ≠ b) : xorI (expI a) (expI b) ≠ 0 := by
  have := exp_inj ha hb h
  unfold xorI expI
  intro h2
  have h3 : pw a ^^^ pw b = 0 := by simpa using h2
  apply this
  have h4 := congrArg (· ^^^ pw b) h3
  simpa [Nat.xor_assoc, Nat.xor_self] using h4
/-- rows of one length, of bytes -/
def GoodR (n : Nat) (rows : List (List Int)) : Prop := ∀ r ∈ rows, r.length = n ∧ Bytes r
theorem good_row {n : Nat} {rows : List (List Int)} (h : GoodR n rows) {i : Nat} (hi : i < rows.length) : (row rows i).length = n ∧ Bytes (row rows i) := by
  rw [row_lt hi]; exact h _ (List.getElem_mem hi)
theorem good_set {n : Nat} {rows : List (List Int)} (h : GoodR n rows) {i : Nat} {r : List Int} (hr : r.length = n ∧ Bytes r) : GoodR n (rows.set i r) := by
  intro x hx
  rcases List.mem_or_eq_of_mem_set hx with hx | rfl
  · exact h x hx
  · exact hr
theorem good_add {n : Nat} {a x : List Int} {b : Int} (ha : a.length = n ∧ Bytes a) (hx : Bytes x) (hb : Byt b) : (addR a x b).length = n ∧ Bytes (addR a x b) := ⟨by rw [addR_len]; exact ha.1, bytes_addR ha.2 hx hb⟩
theorem row_set_self {rows : List (List Int)} {i : Nat} (hi : i < rows.length) (r : List Int) : row (rows.set i r) i = r := by unfold row; simp [hi]
theorem row_set_ne {rows : List (List Int)} {i j : Nat} (h : i ≠ j) (r : List Int) : row (rows.set i r) j = row rows j := by unfold row; simp [List.getElem?_set_ne h]
/-- what rs.Fix has at hand -/
structure FS (w0 w : World) (G : Nat) (hs : List Value) (rows : List (List Int)) (vp : Value) (p : List Int) (vq : Value) (q : List Int) (vg : Value) (gone : List Int) : Prop where
  B : Below w0.heap.size w0 w
  O : Out w w0.heap.size G hs rows
  P : Beside w w0.heap.size hs vp p
  Q : Beside w w0.heap.size hs vq q
  g : w.ownsRow w0.heap.size 3 1 vg gone.length (encs (Value.int .i64) gone)
namespace FS
variable {w0 w w1 : World} {G : Nat} {hs : List Value} {rows rows' : List (List Int)} {vp vq vg h : Value} {p q gone : List Int} {i : Nat}
theorem below (F : FS w0 w G hs rows vp p vq q vg gone) (hb : Below w.heap.size w w1) : FS w0 w1 G hs rows vp p vq q vg gone :=
  ⟨F.B.trans (hb.mono F.B.size), F.O.below hb, F.P.below hb, F.Q.below hb, pw_own_below F.g hb⟩
theorem drew (F : FS w0 w G hs rows vp p vq q vg gone) : FS w0 w.drew G hs rows vp p vq q vg gone := F.below (below_drew1 (Below.refl _ _))
theorem after (F : FS w0 w G hs rows vp p vq q vg gone) (hi : hs[i]? = some h) (O : Out w1 w0.heap.size G hs rows') (hB : Below w0.heap.size w0 w1) (hk : Kept w w1 (fun k => some k = h.ownBlock)) : FS w0 w1 G hs rows' vp p vq q vg gone := by
  refine ⟨hB, O, F.P.kept hi hk, F.Q.kept hi hk, own_move F.g (fun k e => hk.2 k (own_lt F.g k e) (fun h2 => ?_))⟩
  have hil : i < rows.length := by have := (List.getElem?_eq_some_iff.1 hi).1; have := F.O.len; omega
  rcases own_type_ne (F.O.row i h rows[i] hi (List.getElem?_eq_getElem hil)) F.g (by decide) with h1 | h1
  · rw [h1] at h2; cases h2
  · exact h1 (by rw [← h2, e])
end FS
set_option maxRecDepth 100000 in
set_option maxHeartbeats 2000000 in
theorem two_any {w0 w : World} {G n a b : Nat} {hs : List Value} {rows : List (List Int)} {vp vq vg : Value} {p q gone : List Int} (F : FS w0 w G hs rows vp p vq q vg gone) (ha : a < rows.length) (hb : b < rows.length) (hab : a ≠ b) (h16 : rows.length ≤ 16)
    (hg : GoodR n rows) (hp : p.length = n ∧ Bytes p) (hq : q.length = n ∧ Bytes q) (hn : n ≤ 1000000) :
    Calls Try.prog 71 #[.slice (some ⟨G, 0, none⟩) rows.length rows.length, .int .i64 (a : Int), .int .i64 (b : Int), vp, vq] w fun e w' => e = .returned (.tuple #[]) ∧ FS w0 w' G hs (twoR rows a b p q) vp p vq q vg gone := by
  have hx0 := Lib.hid (xor_ne (a := a) (b := b) (by omega) (by omega) hab)
  obtain ⟨hA, ia⟩ := F.O.get ha
  obtain ⟨hB, ib⟩ := F.O.get hb
  have F0 := Lib.hid F
  have IA := Lib.hid ia
  have IB := Lib.hid ib
  clear F ia ib
  go_enter Try.func71, Try.ntmps71
  go_wp2_with fail
  refine (exp_any a (by omega) w).mono ?_
  rintro e w1 ⟨rfl, hb1⟩
  have F1 := Lib.hid (F0.out.below hb1)
  clear F0 hb1
  go_wp2_with fail
  refine (exp_any b (by omega) w1).mono ?_
  rintro e w2 ⟨rfl, hb2⟩
  have F2 := Lib.hid (F1.out.below hb2)
  clear F1 hb2
  go_wp2_with fail
  rw [xor_u8 (byt_exp a) (byt_exp b)]
  refine (inv_any _ (byt_xor (byt_exp a) (byt_exp b)) hx0.out w2).mono ?_
  rintro e w3 ⟨rfl, hb3⟩
  have F3 := Lib.hid (F2.out.below hb3)
  clear F2 hb3
  have bE : Byt (invI (xorI (expI a) (expI b))) := byt_inv (byt_xor (byt_exp a) (byt_exp b))
  have hE : twoR rows a b p q = ((rows.set a (addR (addR (row rows a) q (invI (xorI (expI a) (expI b)))) p (mulI (invI (xorI (expI a) (expI b))) (expI b)))).set b (addR (addR (row rows b) p 1) (addR (addR (row rows a) q (invI (xorI (expI a) (expI b)))) p (mulI (invI (xorI (expI a) (expI b))) (expI b))) 1)) := rfl
  have HE := Lib.hid hE
  clear hE
  generalize invI (xorI (expI a) (expI b)) = E at bE HE ⊢
  have BE := Lib.hid bE
  have c3 := F3.out.O.cell IA.out
  clear bE
  go_wp2_with fail
  refine (out_add F3.out.B F3.out.O IA.out F3.out.Q (by rw [(good_row hg ha).1, hq.1]; exact Nat.le_refl _) (by rw [hq.1]; exact hn) (good_row hg ha).2 hq.2 BE.out).mono ?_
  rintro e w4 ⟨rfl, O4, B4, K4⟩
  have F4 := Lib.hid (F3.out.after IA.out O4 B4 K4)
  clear O4 B4 K4 c3 F3
  have c4 := F4.out.O.cell IA.out
  have g4 : GoodR n (rows.set a (addR (row rows a) q E)) := good_set hg (good_add (good_row hg ha) hq.2 BE.out)
  have r4 : row (rows.set a (addR (row rows a) q E)) a = addR (row rows a) q E := row_set_self ha _
  obtain ⟨R4, hR4⟩ : ∃ R, rows.set a (addR (row rows a) q E) = R := ⟨_, rfl⟩
  have l4 : R4.length = rows.length := by rw [← hR4, List.length_set]
  rw [hR4] at F4 g4 r4
  have R4H := Lib.hid (And.intro hR4 r4)
  clear hR4 r4
  have L4 := Lib.hid l4
  clear l4
  have c4d : w4.drew.cell? ⟨G, a, none⟩ = some hA := c4
  go_wp2_with fail
  go_region_held3 (fun w' => w'.cell? ⟨G, a, none⟩ = some hA)
    (first | with_reducible exact c4d | with_reducible exact c6 | with_reducible exact c5)
    (first
      | (go_at_call 65; (with_reducible refine (mulI_any E (expI b) BE.out (byt_exp b) _).mono ?_); rintro e w5 ⟨rfl, hb5⟩; have F5 := Lib.hid (F4.out.drew.below hb5); have c5 := F5.out.O.cell IA.out)
      | (go_at_call 70; (with_reducible refine (out_add F5.out.B F5.out.O IA.out F5.out.P (by rw [(good_row g4 (by rw [L4.out]; exact ha)).1, hp.1]; exact Nat.le_refl _) (by rw [hp.1]; exact hn) (good_row g4 (by rw [L4.out]; exact ha)).2 hp.2 (byt_mul (byt_exp b))).mono ?_); rintro e w6 ⟨rfl, O6, B6, K6⟩; have F6 := Lib.hid (F5.out.after IA.out O6 B6 K6); have c6 := F6.out.O.cell IA.out; clear O6 B6 K6))
  have g6 : GoodR n (R4.set a (addR (row R4 a) p (mulI E (expI b)))) := good_set g4 (good_add (good_row g4 (by rw [L4.out]; exact ha)) hp.2 (byt_mul (byt_exp b)))
  have r6 : row (R4.set a (addR (row R4 a) p (mulI E (expI b)))) a = addR (row R4 a) p (mulI E (expI b)) ∧ row (R4.set a (addR (row R4 a) p (mulI E (expI b)))) b = row rows b := by
    refine ⟨row_set_self (by rw [L4.out]; exact ha) _, ?_⟩
    rw [row_set_ne hab, ← R4H.out.1, row_set_ne hab]
  obtain ⟨R6, hR6⟩ : ∃ R, R4.set a (addR (row R4 a) p (mulI E (expI b))) = R := ⟨_, rfl⟩
  have l6 : R6.length = rows.length := by rw [← hR6, List.length_set]; exact L4.out
  rw [hR6] at F6 g6 r6
  have R6H := Lib.hid (And.intro hR6 r6)
  clear hR6 r6
  have L6 := Lib.hid l6
  clear l6 c4 c4d c5
  have d6 := F6.out.O.cell IB.out
  have b1 : Byt 1 := ⟨by omega, by omega⟩
  have B1 := Lib.hid b1
  clear b1
  go_wp2_with fail
  refine (out_add F6.out.B F6.out.O IB.out F6.out.P (by rw [(good_row g6 (by rw [L6.out]; exact hb)).1, hp.1]; exact Nat.le_refl _) (by rw [hp.1]; exact hn) (good_row g6 (by rw [L6.out]; exact hb)).2 hp.2 B1.out).mono ?_
  rintro e w7 ⟨rfl, O7, B7, K7⟩
  have F7 := Lib.hid (F6.out.after IB.out O7 B7 K7)
  clear O7 B7 K7 c6 d6
  have g7 : GoodR n (R6.set b (addR (row R6 b) p 1)) := good_set g6 (good_add (good_row g6 (by rw [L6.out]; exact hb)) hp.2 B1.out)
  have r7 : row (R6.set b (addR (row R6 b) p 1)) b = addR (row R6 b) p 1 ∧ row (R6.set b (addR (row R6 b) p 1)) a = row R6 a := ⟨row_set_self (by rw [L6.out]; exact hb) _, row_set_ne (Ne.symm hab) _⟩
  obtain ⟨R7, hR7⟩ : ∃ R, R6.set b (addR (row R6 b) p 1) = R := ⟨_, rfl⟩
  have l7 : R7.length = rows.length := by rw [← hR7, List.length_set]; exact L6.out
  rw [hR7] at F7 g7 r7
  have R7H := Lib.hid (And.intro hR7 r7)
  clear hR7 r7
  have L7 := Lib.hid l7
  clear l7
  have c7 : w7.cell? ⟨G, a, none⟩ = some hA := F7.out.O.cell IA.out
  have d7 : w7.cell? ⟨G, b, none⟩ = some hB := F7.out.O.cell IB.out
  have c7d : w7.drew.cell? ⟨G, a, none⟩ = some hA := c7
  have d7d : w7.drew.cell? ⟨G, b, none⟩ = some hB := d7
  have HG7 := Lib.hid g7
  clear g7 g6 g4
  go_wp2_with fail
  go_region_held3 (fun w' => w'.cell? ⟨G, a, none⟩ = some hA ∧ w'.cell? ⟨G, b, none⟩ = some hB)
    (first | with_reducible exact ⟨c7d, d7d⟩ | with_reducible exact ⟨c8, d8⟩)
    ((go_at_call 70; (with_reducible refine (out_add_row F7.out.drew.B F7.out.drew.O IB.out IA.out (Ne.symm hab) (by rw [(good_row HG7.out (by rw [L7.out]; exact ha)).1, (good_row HG7.out (by rw [L7.out]; exact hb)).1]; exact Nat.le_refl _) (by rw [(good_row HG7.out (by rw [L7.out]; exact ha)).1]; exact hn) (good_row HG7.out (by rw [L7.out]; exact hb)).2 (good_row HG7.out (by rw [L7.out]; exact ha)).2 B1.out).mono ?_); rintro e w8 ⟨rfl, O8, B8, K8⟩; have F8 := Lib.hid (F7.out.drew.after IB.out O8 B8 K8); have c8 := F8.out.O.cell IA.out; have d8 := F8.out.O.cell IB.out; clear O8 B8 K8))
  go_wp2_with fail
  go_returns
  refine ⟨rfl, ?_⟩
  have F9 := F8.out
  rw [HE.out]
  have e9 : R7.set b (addR (row R7 b) (row R7 a) 1) = (rows.set a (addR (addR (row rows a) q E) p (mulI E (expI b)))).set b (addR (addR (row rows b) p 1) (addR (addR (row rows a) q E) p (mulI E (expI b))) 1) := by
    rw [R7H.out.2.1, R7H.out.2.2, R6H.out.2.1, R6H.out.2.2, R4H.out.2, ← R7H.out.1, ← R6H.out.1, ← R4H.out.1, List.set_set, List.set_set, row_set_self ha]
  rw [← e9]
  exact F9
end Go.Proofs.Ytibileffpgnjhaa.Tw
namespace Go.Proofs.Ytibileffpgnjhaa.So
open Go.RowKit Go.Proofs.YtibileffpgnjhaaW.PrintWords
open Go.Proofs.Ytibileffpgnjhaa.Base (IterC range_c)
set_option linter.unusedSimpArgs false
set_option linter.unusedVariables false
theorem wide_fn (f : FuncId) : Fence.wide.fn f = True := rfl
theorem wide_depth : Fence.wide.depth = none := rfl
attribute [local go_sem] wide_fn wide_depth Oper.semAt_some
/-- only draws -/
def StD (A B : World) : Prop := ∃ n, B = A.drewN n
/-- below n₀ all but block Bx is as it was -/
structure KpE (n₀ Bx : Nat) (A B : World) : Prop where
  size : A.heap.size ≤ B.heap.size
  block : ∀ k, k < n₀ → k ≠ Bx → B.heap[k]? = A.heap[k]?
theorem KpE.refl {n₀ Bx : Nat} (A : World) : KpE n₀ Bx A A := ⟨Nat.le_refl _, fun _ _ _ => rfl⟩
theorem KpE.trans {n₀ Bx : Nat} {A B C : World} (h : KpE n₀ Bx A B) (k : KpE n₀ Bx B C) : KpE n₀ Bx A C := ⟨Nat.le_trans h.size k.size, fun i h1 h2 => (k.block i h1 h2).trans (h.block i h1 h2)⟩
/-- what lies in these blocks reads as it read -/
theorem at_kept {w W : World} {a : Addr} {v : Value} {n₀ Bx : Nat} (h : KpE n₀ Bx w W) (hc : w.cell? a = some v) (h1 : a.block < n₀) (h2 : a.block ≠ Bx) : W.cell? a = some v := by
  rw [World.cell?_of_block (h.block a.block h1 h2)]; exact hc
set_option maxRecDepth 100000 in
set_option maxHeartbeats 1000000 in
theorem values1_c (Bs n₀ Bx : Nat) (hBs : Bs < n₀) (hBx : Bs ≠ Bx) (A : Option Addr) (c : Nat) (xs : List Int) (hm : xs.length ≤ 1000000) (w : World) (fs : w.cell? ⟨Bs, 0, none⟩ = some (.slice A xs.length c)) (hr : Kd.C (Kd.int .i64) w A xs.length xs)
    (hA : 0 < xs.length → ∀ ad, A = some ad → ad.block < n₀ ∧ ad.block ≠ Bx) (hn : n₀ ≤ w.heap.size) :
    IterC Try.prog 84 #[.pointer (some ⟨Bs, 0, none⟩)] (fun x : Int => #[.int .i64 x]) StD (KpE n₀ Bx) (fun ys => ys = xs) (fun pre => pre <+: xs) xs.length w := by
  intro l J Jx W hbW hJ hJx hY h0
  have k0 : KpE n₀ Bx w W := ⟨hbW.size, fun k h1 _ => hbW.block k (by omega)⟩
  have HR := Lib.hid hr
  have HA := Lib.hid hA
  have fs1 := at_kept k0 fs hBs hBx
  clear hr hA
  refine callsIn_of_wp Try.func84 rfl trivial ?_ rfl
  simp only [Try.ntmps84, List.size_toArray, List.length_cons, List.length_nil, Nat.reduceAdd, Nat.reduceSub, Array.replicate_succ, Array.replicate_zero, List.push_toArray, List.append_toArray, List.nil_append, List.cons_append]
  gi_wp2
  gi_loopw [7] (fun i wr => ∃ j : Nat, i = .int .i64 j ∧ j ≤ xs.length ∧ J (xs.take j) wr ∧ KpE n₀ Bx w wr) (fun i _ => xs.length - (intOf i).toNat)
  case atStart => exact ⟨0, rfl, Nat.zero_le _, by simpa using h0, k0⟩
  case round =>
    obtain ⟨j, rfl, hj, hJp, kp⟩ := hrel
    by_cases hjl : j < xs.length
    · obtain ⟨ad, e, hx⟩ := Kd.at_int HR.out (j : Int) (by omega) (by omega)
      subst e
      have hA2 := HA.out (by omega) ad rfl
      have hx2 : wr.cell? (ad.add j) = some (.int .i64 xs[j]) := by
        have h3 := at_kept (a := ad.add (j : Int).toNat) kp hx (by rw [add_block]; exact hA2.1) (by rw [add_block]; exact hA2.2)
        have h4 : Go.Proofs.YtibileffpgnjhaaW.PrintWords.rd xs (j : Int) = xs[j] := by unfold Go.Proofs.YtibileffpgnjhaaW.PrintWords.rd; simp [hjl]
        rw [h4] at h3
        simpa using h3
      have htk : xs.take (j + 1) = xs.take j ++ [xs[j]] := List.take_succ_eq_append_getElem hjl
      have hlen : (xs.take j).length = j := by simp; omega
      have HTK := Lib.hid htk
      have hpre : (xs.take j ++ [xs[j]]) <+: xs := by rw [← htk]; exact List.take_prefix _ _
      obtain ⟨fn, tmps, assign, body, hy, hR⟩ := hY (xs.take j) xs[j] wr hJp (by rw [hlen]; exact hjl) hpre
      clear htk hx hlen
      gi_wp2
      refine hR.mono ?_
      rintro e W3 (⟨rfl, hJ3, hk3⟩ | ⟨rfl, hJx3⟩)
      · gi_wp2
        go_roundw
        case rel => exact ⟨j + 1, by simp, by omega, by rw [HTK.out]; exact hJ3, kp.trans hk3⟩
        case measure => simp [intOf]; omega
      · gi_wp2
        refine bodyPost_ret (results_none rfl _ _ _) rfl ?_
        exact ⟨⟨_, rfl⟩, .inr ⟨_, hpre, hJx3⟩⟩
    · obtain rfl : j = xs.length := by omega
      gi_wp2
      go_end0
      refine ⟨⟨_, rfl⟩, .inl ⟨_, rfl, ?_⟩⟩
      rw [List.take_length] at hJp
      exact hJp
theorem info_int : (Try.prog.info? 3).map (fun i => (i.zero, i.size, i.bytes)) = some (some (.int .i64 0), 1, 8) := by kernel_rfl
set_option maxRecDepth 100000 in
set_option maxHeartbeats 2000000 in
theorem appendSeq_any (Bs : Nat) (A : Option Addr) (c : Nat) (xs : List Int) (hm : xs.length ≤ 1000000) (w : World) (hBs : Bs < w.heap.size) (fs : w.cell? ⟨Bs, 0, none⟩ = some (.slice A xs.length c)) (hr : Kd.C (Kd.int .i64) w A xs.length xs) :
    Calls Try.prog 90 #[.slice none 0 0, .func (.func 84) #[] #[.pointer (some ⟨Bs, 0, none⟩)]] w fun e w' =>
      ∃ v, e = .returned v ∧ w'.ownsRow w.heap.size 3 1 v xs.length (xs.map (Value.int .i64)) ∧ Below w.heap.size w w' := by
  obtain ⟨i0, hi, hz0, hz1, hz2⟩ := info_parts info_int
  have hA : 0 < xs.length → ∀ ad, A = some ad → ad.block < w.heap.size ∧ ad.block ≠ w.heap.size := by
    intro h0 ad e
    obtain ⟨ad', e', hx⟩ := Kd.at_int hr 0 (by omega) (by omega)
    rw [e] at e'
    cases e'
    have := World.block_lt_of_cell? w _ hx
    rw [add_block] at this
    omega
  refine (callsIn_wide (n := 0)).1 ?_
  refine callsIn_of_wp_marks Try.func90 rfl trivial ?_ rfl
  simp only [Try.ntmps90, List.size_toArray, List.length_cons, List.length_nil, Nat.reduceAdd, Nat.reduceSub, Array.replicate_succ, Array.replicate_zero, List.push_toArray, List.append_toArray, List.nil_append, List.cons_append]
  gi_wp2_with fail
  have bO := Boxed.new w 34 (.slice none 0 0)
  have hB0 : Below w.heap.size w (w.alloc (.cells #[.slice none 0 0] 34)) := (Below.refl _ w).alloc (Nat.le_refl _) _
  have hI : OwnFrom (w.alloc (.cells #[.slice none 0 0] 34)).heap.size (fun (pre : List Int) W => (∃ v, Boxed W w.heap.size 34 v ∧ W.ownsRow w.heap.size 3 1 v pre.length (pre.map (Value.int .i64)) ∧ (v = .slice none 0 0 ↔ pre = [])) ∧ Below w.heap.size w W) :=
    OwnFrom.and (Own.from (holdsRow_own w.heap.size w.heap.size 34 3 1 (fun pre : List Int => pre.length) (fun pre => pre.map (Value.int .i64)) (fun pre v => v = .slice none 0 0 ↔ pre = [])) _) (ownFrom_below (Nat.le_refl _) (by simp))
  refine range_c (gf := 84) (lb := #[.pointer (some ⟨Bs, 0, none⟩)]) rfl (fun _ _ => rfl)
    (values1_c Bs w.heap.size w.heap.size hBs (by omega) A c xs hm _ ((hB0.cell (p := ⟨Bs, 0, none⟩) hBs).trans fs) (Kd.C_below hr hB0) hA (by simp))
    (fun h k => h.trans k) (fun W l o o' hl h _ _ => ⟨by simp, fun k h1 h2 => World.putObj_heap_other (by simp at hl; omega)⟩) (fun A B ⟨n, e⟩ => by subst e; exact ⟨Nat.le_refl _, fun _ _ h _ => h⟩) (Below.refl _ _) (fun _ => rfl)
    _ (fun _ _ _ => False) hI (fun c pre A B row h => h.elim) ?_ (fun _ _ _ _ _ h => h) ⟨⟨_, bO, World.ownsRow_nil _ _ _ _, by simp⟩, hB0⟩ ?_ ?_ ?_
  · rintro pre A B ⟨n, rfl⟩ ⟨⟨v, hv, hrow, hnil⟩, hB⟩
    exact ⟨⟨v, hv, hrow, hnil⟩, pw_below_drewN hB n⟩
  · rintro l pre x W hi2 hlen hsp hsz
    gi_wp2_with fail
    refine ⟨KeepsOthers.refl _, KpE.refl _, fun X => _, fun A B row h hg hr => hI _ _ _ _ h hg hr, hi2, ?_⟩
    rintro W₂ ⟨⟨v, hv, hrow, hnil⟩, hB⟩ h4
    clear h4 hsz
    have hc := hv.cell
    have hlx : pre.length < xs.length := hlen
    gi_wp2_with (gi_at_builtin; refine wpListIn_append_own _ rfl _ _ 34 rfl w.heap.size 3 i0 (.int .i64 0) 1 8 Try.underlying34 hi hz0 hz1 hz2 rfl (by decide) _ _ _ rfl (hrow.alloc _) ⟨W₂.heap.size, 0, none⟩ 1 1 [.int .i64 x] rfl rfl (cell_one_new _ _ _) (by simp [Value.oneCell']) (by unfold maxLen; omega) (by omega) (by have := hB.size; simp; omega) ?_; intro v' w1 hown' hgrow _; obtain ⟨g', cap', rfl⟩ := ownsRow_succ hown'; obtain ⟨hv1, hv2, hr2, hk2, hb2⟩ := hv.appended (by decide) hrow hB.size (Nat.le_refl _) hown' hgrow; have hc1 := hv1.cell; have hf1 := hv1.frozen)
    exact ⟨hk2, ⟨hb2.size, fun k h1 _ => hb2.block k h1⟩, ⟨_, hv2, by simpa using hr2, by simp⟩, hB.trans hb2⟩
  · rintro D ys W hDl rfl ⟨⟨v, hv, hrow, hnil⟩, hB⟩ hD
    have hc := hv.cell
    gi_wp2_with fail
    refine ⟨by simp, .inl ⟨_, _, rfl, run_takeDeferred hD, ?_⟩⟩
    exact ⟨_, results_tmp rfl _ _ _, v, rfl, ownsRow_putObj hrow _ hD rfl, hB.trans (belowK_b (w := w) (Nat.le_refl _) W D _ _ (by simp at hDl; omega) hD rfl rfl)⟩
  · intro D c pre W _ _ h; exact h.elim
theorem values_any (A : Option Addr) (n c : Nat) (w : World) :
    Calls Try.prog 69 #[.slice A n c] w fun e w' => e = .returned (.func (.func 84) #[] #[.pointer (some ⟨w.heap.size, 0, none⟩)]) ∧ w' = w.alloc (.cells #[.slice A n c] 34) := by
  go_enter Try.func69, Try.ntmps69
  go_wp2
  go_ret
  exact ⟨rfl, rfl⟩
theorem collect_any (Bs : Nat) (A : Option Addr) (c : Nat) (xs : List Int) (hm : xs.length ≤ 1000000) (w : World) (hBs : Bs < w.heap.size) (fs : w.cell? ⟨Bs, 0, none⟩ = some (.slice A xs.length c)) (hr : Kd.C (Kd.int .i64) w A xs.length xs) :
    Calls Try.prog 82 #[.func (.func 84) #[] #[.pointer (some ⟨Bs, 0, none⟩)]] w fun e w' =>
      ∃ v, e = .returned v ∧ w'.ownsRow w.heap.size 3 1 v xs.length (xs.map (Value.int .i64)) ∧ Below w.heap.size w w' := by
  go_enter Try.func82, Try.ntmps82
  go_wp2_with fail
  refine (appendSeq_any Bs A c xs hm w hBs fs hr).mono ?_
  rintro e w1 ⟨v, rfl, hown, hb⟩
  have HO := Lib.hid hown
  clear hown
  go_wp2
  go_ret
  exact ⟨v, rfl, HO.out, hb⟩
end Go.Proofs.Ytibileffpgnjhaa.So
namespace Go.Proofs.Ytibileffpgnjhaa.PRq
open Go.RowKit Go.Proofs.YtibileffpgnjhaaW.PrintWords Go.Proofs.YtibileffpgnjhaaW.PrintLast Go.Proofs.YtibileffpgnjhaaW.PrintMore
attribute [local go_sem] max2_int min2_int max_two min_two max_three min_three max_four min_four -- for this text's walks alone
set_option linter.unusedVariables false
set_option linter.unusedSimpArgs false
def slices_Equal_byte_byte.l0 : Nat → List Int → List Int → Int → Int → Option (Bool)
  | 0, _, _, _, _ => none
  | k + 1, x0, x1, x12, x13 => if x13 < x12 then (if 0 ≤ x13 then (if x13 < (x0.length : Int) then (if x13 < (x1.length : Int) then (if (rd x0 x13) = (rd x1 x13) then (slices_Equal_byte_byte.l0 k x0 x1 x12 (wrap64 (x13 + 1))) else (some false)) else (none)) else (none)) else (none)) else (some true)
def slices_Equal_byte_byte.f (k : Nat) (l0 : List Int) (l1 : List Int) : Option (Bool) := if (l0.length : Int) = (l1.length : Int) then (slices_Equal_byte_byte.l0 k l0 l1 (l0.length : Int) 0) else (some false)
theorem slices_Equal_byte_byte.mono_l : ∀ k, (∀ y0 y1 y2 y3, LeO (slices_Equal_byte_byte.l0 k y0 y1 y2 y3) (slices_Equal_byte_byte.l0 (k + 1) y0 y1 y2 y3))
  | 0 => fun _ _ _ _ r h => by simp [slices_Equal_byte_byte.l0] at h
  | k + 1 => by
    have ih0 := slices_Equal_byte_byte.mono_l k
    · intro y0 y1 y2 y3
      unfold slices_Equal_byte_byte.l0
      repeat' first
      | (with_reducible exact ih0 _ _ _ _)
      | (with_reducible exact LeO.refl _)
      | (with_reducible exact LeO.none _)
      | (with_reducible refine LeO.ite ?_ ?_)
      | (with_reducible refine LeO.bind ?_ (fun _ => ?_))
      | exact ih0 _ _ _ _
      | exact LeO.none _
      | refine LeO.ite ?_ ?_
      | refine LeO.bind ?_ (fun _ => ?_)
theorem slices_Equal_byte_byte.mono : ∀ a0 a1 k, LeO (slices_Equal_byte_byte.f k a0 a1) (slices_Equal_byte_byte.f (k + 1) a0 a1) := by
  intro a0 a1 k
  have ih0 := slices_Equal_byte_byte.mono_l k
  unfold slices_Equal_byte_byte.f
  repeat' first
      | (with_reducible exact ih0 _ _ _ _)
      | (with_reducible exact LeO.refl _)
      | (with_reducible exact LeO.none _)
      | (with_reducible refine LeO.ite ?_ ?_)
      | (with_reducible refine LeO.bind ?_ (fun _ => ?_))
      | exact ih0 _ _ _ _
      | exact LeO.none _
      | refine LeO.ite ?_ ?_
      | refine LeO.bind ?_ (fun _ => ?_)
set_option maxHeartbeats 8000000 in
set_option maxRecDepth 100000 in
theorem slices_Equal_byte_byte.calls (k : Nat) (A0 : Option Addr) (c0 : Nat) (l0 : List Int) (A1 : Option Addr) (c1 : Nat) (l1 : List Int) (r : Bool) (w : World) (hr0 : Kd.C (Kd.int .u8) w A0 l0.length l0) (hc0 : l0.length ≤ c0) (hr1 : Kd.C (Kd.int .u8) w A1 l1.length l1) (hc1 : l1.length ≤ c1) (h : slices_Equal_byte_byte.f k l0 l1 = some r) :
    Calls Try.prog 73 #[.slice A0 l0.length c0, .slice A1 l1.length c1] w fun e w' => e = .returned (.bool r) ∧ Drawn0 w w' := by
  have HR0 := Aside0.mk hr0
  have HC0 := Aside0.mk hc0
  clear hr0 hc0
  have HR1 := Aside0.mk hr1
  have HC1 := Aside0.mk hc1
  clear hr1 hc1
  have H : (if (l0.length : Int) = (l1.length : Int) then (slices_Equal_byte_byte.l0 k l0 l1 (l0.length : Int) 0) else (some false)) = some r := h
  clear h
  by_cases c3 : (l0.length : Int) = (l1.length : Int)
  · rw [if_pos c3] at H
    have c3b0 : ((l0.length : Int) == (l1.length : Int)) = true := beq_iff_eq.mpr c3
    have c3b1 : ((l0.length : Int) != (l1.length : Int)) = false := bne_eq_false_iff_eq.mpr c3
    have c3b2 : (l0.length == l1.length) = true := by first | simpa using c3 | (simp at c3 ⊢; omega)
    clear c3
    have H' := Aside0.mk H
    clear H
    go_enter Try.func73, Try.ntmps73
    go_wp2
    repeat (go_quiet (fail); try go_wp2)
    go_loopg [13] k (fun kq v13 w' => ∃ (x13_1 : Int), v13 = .int .i64 x13_1 ∧ Aside0 (slices_Equal_byte_byte.l0 kq l0 l1 (l0.length : Int) x13_1 = some r) ∧ Aside0 (kq ≤ k) ∧ Drawn0 w w')
    case atStart => exact ⟨(0), (by first | rfl | (simp; done) | (simp [*]; done)), H', ⟨Nat.le_refl _⟩, by repeat (first | exact Drawn0.refl _ | apply Drawn0.step)⟩
    case round =>
      clear H'
      try clear c1
      try clear p2
      try clear c3
      try clear c3b0
      try clear c3b1
      try clear c3b2
      obtain ⟨x13_1, rfl, HA, HK1, ⟨m1, rfl⟩⟩ := hrel
      cases gk with
      | zero => exact absurd HA.out (by simp [slices_Equal_byte_byte.l0])
      | succ k1 =>
        have H := HA.out
        clear HA
        simp only [slices_Equal_byte_byte.l0] at H
        by_cases c4 : x13_1 < (l0.length : Int)
        · rw [if_pos c4] at H
          have c4b0 : decide (x13_1 < (l0.length : Int)) = true := decide_eq_true c4
          clear c4
          by_cases c5 : 0 ≤ x13_1
          · rw [if_pos c5] at H
            have c5b0 : decide (0 ≤ x13_1) = true := decide_eq_true c5
            clear c5
            by_cases c6 : x13_1 < (l0.length : Int)
            · rw [if_pos c6] at H
              have c6b0 : decide (x13_1 < (l0.length : Int)) = true := decide_eq_true c6
              clear c6
              by_cases c7 : x13_1 < (l1.length : Int)
              · rw [if_pos c7] at H
                have c7b0 : decide (x13_1 < (l1.length : Int)) = true := decide_eq_true c7
                clear c7
                by_cases c8 : (rd l0 x13_1) = (rd l1 x13_1)
                · rw [if_pos c8] at H
                  have c8b0 : ((rd l0 x13_1) == (rd l1 x13_1)) = true := beq_iff_eq.mpr c8
                  have c8b1 : ((rd l0 x13_1) != (rd l1 x13_1)) = false := bne_eq_false_iff_eq.mpr c8
                  clear c8
                  have H' := Aside0.mk H
                  clear H
                  have p145 : 0 ≤ (x13_1 : Int) := of_decide_eq_true (by first | (with_reducible assumption) | assumption)
                  have q145 : x13_1 < (l0.length : Int) := of_decide_eq_true (by first | (with_reducible assumption) | assumption)
                  obtain ⟨ad145, e145, hx145_0⟩ := Kd.at_int HR0.out x13_1 p145 q145
                  cases e145
                  replace p145 := eq_true p145
                  replace q145 := eq_true q145
                  have p146 : 0 ≤ (x13_1 : Int) := of_decide_eq_true (by first | (with_reducible assumption) | assumption)
                  have q146 : x13_1 < (l1.length : Int) := of_decide_eq_true (by first | (with_reducible assumption) | assumption)
                  obtain ⟨ad146, e146, hx146_0⟩ := Kd.at_int HR1.out x13_1 p146 q146
                  cases e146
                  replace p146 := eq_true p146
                  replace q146 := eq_true q146
                  go_wp2
                  repeat (go_quiet (fail); try go_wp2)
                  go_roundg k1
                  case measure => have := HK1.out; omega
                  case rel => exact ⟨(wrap64 (x13_1 + 1)), (by first | rfl | (simp; done) | (simp [*]; done)), H', ⟨by have := HK1.out; omega⟩, by repeat (first | exact Drawn0.refl _ | apply Drawn0.step)⟩
                · rw [if_neg c8] at H
                  have c8b0 : ((rd l0 x13_1) == (rd l1 x13_1)) = false := beq_eq_false_iff_ne.mpr c8
                  have c8b1 : ((rd l0 x13_1) != (rd l1 x13_1)) = true := bne_iff_ne.mpr c8
                  obtain rfl := Option.some.inj H
                  have p145 : 0 ≤ (x13_1 : Int) := of_decide_eq_true (by first | (with_reducible assumption) | assumption)
                  have q145 : x13_1 < (l0.length : Int) := of_decide_eq_true (by first | (with_reducible assumption) | assumption)
                  obtain ⟨ad145, e145, hx145_0⟩ := Kd.at_int HR0.out x13_1 p145 q145
                  cases e145
                  replace p145 := eq_true p145
                  replace q145 := eq_true q145
                  have p146 : 0 ≤ (x13_1 : Int) := of_decide_eq_true (by first | (with_reducible assumption) | assumption)
                  have q146 : x13_1 < (l1.length : Int) := of_decide_eq_true (by first | (with_reducible assumption) | assumption)
                  obtain ⟨ad146, e146, hx146_0⟩ := Kd.at_int HR1.out x13_1 p146 q146
                  cases e146
                  replace p146 := eq_true p146
                  replace q146 := eq_true q146
                  go_wp2
                  repeat (go_quiet (fail); try go_wp2)
                  go_ret
                  exact ⟨by first | rfl | (simp; done) | (simp [*]; done), by repeat (first | exact Drawn0.refl _ | apply Drawn0.step)⟩
              · rw [if_neg c7] at H
                exact absurd H (by simp)
            · rw [if_neg c6] at H
              exact absurd H (by simp)
          · rw [if_neg c5] at H
            exact absurd H (by simp)
        · rw [if_neg c4] at H
          have c4b0 : decide (x13_1 < (l0.length : Int)) = false := decide_eq_false c4
          clear c4
          obtain rfl := Option.some.inj H
          go_wp2
          repeat (go_quiet (fail); try go_wp2)
          go_ret
          exact ⟨by first | rfl | (simp; done) | (simp [*]; done), by repeat (first | exact Drawn0.refl _ | apply Drawn0.step)⟩
  · rw [if_neg c3] at H
    have c3b0 : ((l0.length : Int) == (l1.length : Int)) = false := beq_eq_false_iff_ne.mpr c3
    have c3b1 : ((l0.length : Int) != (l1.length : Int)) = true := bne_iff_ne.mpr c3
    have c3b2 : (l0.length == l1.length) = false := by first | simpa using c3 | (simp at c3 ⊢; omega)
    obtain rfl := Option.some.inj H
    go_enter Try.func73, Try.ntmps73
    go_wp2
    repeat (go_quiet (fail); try go_wp2)
    go_ret
    exact ⟨by first | rfl | (simp; done) | (simp [*]; done), by repeat (first | exact Drawn0.refl _ | apply Drawn0.step)⟩
def slices_Index_int_int.l0 : Nat → List Int → Int → Int → Int → Option (Int)
  | 0, _, _, _, _ => none
  | k + 1, x0, x1, x7, x8 => if x8 < x7 then (if 0 ≤ x8 then (if x8 < (x0.length : Int) then (if x1 = (rd x0 x8) then (some x8) else (slices_Index_int_int.l0 k x0 x1 x7 (wrap64 (x8 + 1)))) else (none)) else (none)) else (some (-1))
def slices_Index_int_int.f (k : Nat) (l0 : List Int) (a1 : Int) : Option (Int) := slices_Index_int_int.l0 k l0 a1 (l0.length : Int) 0
set_option maxHeartbeats 8000000 in
set_option maxRecDepth 100000 in
theorem slices_Index_int_int.calls (k : Nat) (A0 : Option Addr) (c0 : Nat) (l0 : List Int) (a1 : Int) (r : Int) (w : World) (hr0 : Kd.C (Kd.int .i64) w A0 l0.length l0) (hc0 : l0.length ≤ c0) (h : slices_Index_int_int.f k l0 a1 = some r) :
    Calls Try.prog 88 #[.slice A0 l0.length c0, .int .i64 a1] w fun e w' => e = .returned (.int .i64 r) ∧ Drawn0 w w' := by
  have HR0 := Aside0.mk hr0
  have HC0 := Aside0.mk hc0
  clear hr0 hc0
  have H : (slices_Index_int_int.l0 k l0 a1 (l0.length : Int) 0) = some r := h
  clear h
  have H' := Aside0.mk H
  clear H
  go_enter Try.func88, Try.ntmps88
  go_wp2
  go_loopg [8] k (fun kq v8 w' => ∃ (x8_1 : Int), v8 = .int .i64 x8_1 ∧ Aside0 (slices_Index_int_int.l0 kq l0 a1 (l0.length : Int) x8_1 = some r) ∧ Aside0 (kq ≤ k) ∧ Drawn0 w w')
  case atStart => exact ⟨(0), (by first | rfl | (simp; done) | (simp [*]; done)), H', ⟨Nat.le_refl _⟩, by repeat (first | exact Drawn0.refl _ | apply Drawn0.step)⟩
  case round =>
    clear H'
    try clear p2
    obtain ⟨x8_1, rfl, HA, HK1, ⟨m1, rfl⟩⟩ := hrel
    cases gk with
    | zero => exact absurd HA.out (by simp [slices_Index_int_int.l0])
    | succ k1 =>
      have H := HA.out
      clear HA
      simp only [slices_Index_int_int.l0] at H
      by_cases c3 : x8_1 < (l0.length : Int)
      · rw [if_pos c3] at H
        have c3b0 : decide (x8_1 < (l0.length : Int)) = true := decide_eq_true c3
        clear c3
        by_cases c4 : 0 ≤ x8_1
        · rw [if_pos c4] at H
          have c4b0 : decide (0 ≤ x8_1) = true := decide_eq_true c4
          clear c4
          by_cases c5 : x8_1 < (l0.length : Int)
          · rw [if_pos c5] at H
            have c5b0 : decide (x8_1 < (l0.length : Int)) = true := decide_eq_true c5
            clear c5
            by_cases c6 : a1 = (rd l0 x8_1)
            · rw [if_pos c6] at H
              have c6b0 : (a1 == (rd l0 x8_1)) = true := beq_iff_eq.mpr c6
              have c6b1 : (a1 != (rd l0 x8_1)) = false := bne_eq_false_iff_eq.mpr c6
              clear c6
              obtain rfl := Option.some.inj H
              have p147 : 0 ≤ (x8_1 : Int) := of_decide_eq_true (by first | (with_reducible assumption) | assumption)
              have q147 : x8_1 < (l0.length : Int) := of_decide_eq_true (by first | (with_reducible assumption) | assumption)
              obtain ⟨ad147, e147, hx147_0⟩ := Kd.at_int HR0.out x8_1 p147 q147
              cases e147
              replace p147 := eq_true p147
              replace q147 := eq_true q147
              go_wp2
              go_ret
              exact ⟨by first | rfl | (simp; done) | (simp [*]; done), by repeat (first | exact Drawn0.refl _ | apply Drawn0.step)⟩
            · rw [if_neg c6] at H
              have c6b0 : (a1 == (rd l0 x8_1)) = false := beq_eq_false_iff_ne.mpr c6
              have c6b1 : (a1 != (rd l0 x8_1)) = true := bne_iff_ne.mpr c6
              have H' := Aside0.mk H
              clear H
              have p147 : 0 ≤ (x8_1 : Int) := of_decide_eq_true (by first | (with_reducible assumption) | assumption)
              have q147 : x8_1 < (l0.length : Int) := of_decide_eq_true (by first | (with_reducible assumption) | assumption)
              obtain ⟨ad147, e147, hx147_0⟩ := Kd.at_int HR0.out x8_1 p147 q147
              cases e147
              replace p147 := eq_true p147
              replace q147 := eq_true q147
              go_wp2
              go_roundg k1
              case measure => have := HK1.out; omega
              case rel => exact ⟨(wrap64 (x8_1 + 1)), (by first | rfl | (simp; done) | (simp [*]; done)), H', ⟨by have := HK1.out; omega⟩, by repeat (first | exact Drawn0.refl _ | apply Drawn0.step)⟩
          · rw [if_neg c5] at H
            exact absurd H (by simp)
        · rw [if_neg c4] at H
          exact absurd H (by simp)
      · rw [if_neg c3] at H
        have c3b0 : decide (x8_1 < (l0.length : Int)) = false := decide_eq_false c3
        clear c3
        obtain rfl := Option.some.inj H
        go_wp2
        go_ret
        exact ⟨by first | rfl | (simp; done) | (simp [*]; done), by repeat (first | exact Drawn0.refl _ | apply Drawn0.step)⟩
def slices_Contains_int_int.f (k : Nat) (l0 : List Int) (a1 : Int) : Option (Bool) := (slices_Index_int_int.f k l0 a1).bind fun t148 => (some (decide (t148 ≥ 0)))
set_option maxHeartbeats 8000000 in
set_option maxRecDepth 100000 in
theorem slices_Contains_int_int.calls (k : Nat) (A0 : Option Addr) (c0 : Nat) (l0 : List Int) (a1 : Int) (r : Bool) (w : World) (hr0 : Kd.C (Kd.int .i64) w A0 l0.length l0) (hc0 : l0.length ≤ c0) (h : slices_Contains_int_int.f k l0 a1 = some r) :
    Calls Try.prog 80 #[.slice A0 l0.length c0, .int .i64 a1] w fun e w' => e = .returned (.bool r) ∧ Drawn0 w w' := by
  have HR0 := Aside0.mk hr0
  have HC0 := Aside0.mk hc0
  clear hr0 hc0
  have H : ((slices_Index_int_int.f k l0 a1).bind fun t148 => (some (decide (t148 ≥ 0)))) = some r := h
  clear h
  replace H := Option.bind_eq_some_iff.mp H
  obtain ⟨t148, A30, H⟩ := H
  replace H : (some (decide (t148 ≥ 0))) = some r := H
  have A3 := Aside0.mk A30
  clear A30
  obtain rfl := Option.some.inj H
  go_enter Try.func80, Try.ntmps80
  go_wp2_with (first | ((with_reducible refine gate_callee (f := 88) rfl ?_); refine goesL_ (some 7) rfl rfl Try.func88 (by kernel_rfl) rfl #[.slice A0 l0.length c0, .int .i64 a1] rfl (by (try simp only [List.map_toArray, List.map_cons, List.map_nil]); first | done | rfl | (simp only [List.length_drop, List.length_take]; rfl)) ?_; (with_reducible refine (slices_Index_int_int.calls k _ _ l0 a1 t148 _ ?side1 ?side2 A3.out).mono ?_); (case side1 => repeat (first | exact HR0.out | (with_reducible refine Kd.C_alloc ?_ _) | (with_reducible refine Kd.C_drewN ?_ _) | (with_reducible refine Kd.C_drew ?_))); (case side2 => exact HC0.out); rintro e w' ⟨rfl, ⟨nd, rfl⟩⟩; refine ⟨_, rfl, ?_⟩))
  go_ret
  exact ⟨by first | rfl | (simp; done) | (simp [*]; done), by repeat (first | exact Drawn0.refl _ | apply Drawn0.step)⟩
end Go.Proofs.Ytibileffpgnjhaa.PRq
namespace Go.Proofs.Ytibileffpgnjhaa.Kp
open Go.RowKit Go.Proofs.YtibileffpgnjhaaW.PrintWords
open Go.Proofs.Ytibileffpgnjhaa.Base (IterC range_c)
open Go.Proofs.Ytibileffpgnjhaa.So Go.Proofs.Ytibileffpgnjhaa.PRq Go.Proofs.Ytibileffpgnjhaa.Fld Go.Proofs.Ytibileffpgnjhaa.Pl
set_option linter.unusedSimpArgs false
set_option linter.unusedVariables false
theorem wide_fn (f : FuncId) : Fence.wide.fn f = True := rfl
theorem wide_depth : Fence.wide.depth = none := rfl
attribute [local go_sem] wide_fn wide_depth Oper.semAt_some
theorem index_l0 (L : List Int) (a : Int) (hL : L.length ≤ 1000000) : ∀ d i : Nat, d = L.length - i → i ≤ L.length → ∃ r : Int, Ev (fun k => slices_Index_int_int.l0 k L a (L.length : Int) (i : Int)) r ∧ decide (r ≥ 0) = (L.drop i).contains a
  | 0, i, hd, hi => by
    refine ⟨-1, Ev.step (f := fun _ => some (-1)) (fun k => ?_) (Ev.now _), ?_⟩
    · rw [slices_Index_int_int.l0, if_neg (by omega)]
    · rw [List.drop_eq_nil_of_le (by omega)]; rfl
  | d + 1, i, hd, hi => by
    have hiL : i < L.length := by omega
    have hdr : L.drop i = L[i] :: L.drop (i + 1) := List.drop_eq_getElem_cons hiL
    have hrd : rd L (i : Int) = L[i] := by unfold rd; simp [hiL]
    by_cases h : a = L[i]
    · refine ⟨(i : Int), Ev.step (f := fun _ => some (i : Int)) (fun k => ?_) (Ev.now _), ?_⟩
      · rw [slices_Index_int_int.l0, if_pos (by omega), if_pos (by omega), if_pos (by omega), hrd, if_pos h]
      · rw [hdr, List.contains_cons, h]
        simp
    · obtain ⟨r, h1, h2⟩ := index_l0 L a hL d (i + 1) (by omega) (by omega)
      refine ⟨r, Ev.step (f := fun k => slices_Index_int_int.l0 k L a (L.length : Int) ((i + 1 : Nat) : Int)) (fun k => ?_) h1, ?_⟩
      · rw [slices_Index_int_int.l0, if_pos (by omega), if_pos (by omega), if_pos (by omega), hrd, if_neg h, w64 (by omega) (by omega)]; rfl
      · rw [h2, hdr, List.contains_cons]
        have : (a == L[i]) = false := by rw [beq_eq_false_iff_ne]; exact h
        rw [this, Bool.false_or]
theorem contains_ev (L : List Int) (a : Int) (hL : L.length ≤ 1000000) : Ev (fun k => slices_Contains_int_int.f k L a) (L.contains a) := by
  obtain ⟨r, h1, h2⟩ := index_l0 L a hL L.length 0 (by omega) (by omega)
  rw [List.drop_zero] at h2
  rw [← h2]
  exact Ev.bind (g := fun k => slices_Index_int_int.f k L a) (f := fun _ t => some (decide (t ≥ 0))) h1 (Ev.now _)
theorem contains_any (A : Option Addr) (n c : Nat) (L : List Int) (a : Int) (w : World) (hn : n = L.length) (hL : L.length ≤ 1000000) (hr : Kd.C (Kd.int .i64) w A n L) (hc : n ≤ c) :
    Calls Try.prog 80 #[.slice A n c, .int .i64 a] w fun e w' => e = .returned (.bool (L.contains a)) ∧ ∃ m, w' = w.drewN m := by
  subst hn
  obtain ⟨k, hk⟩ := (contains_ev L a hL).rounds
  refine (slices_Contains_int_int.calls k A c L a _ w hr hc hk).mono ?_
  rintro e w' ⟨rfl, ⟨m, rfl⟩⟩
  exact ⟨rfl, m, rfl⟩
def idx (n : Nat) (lost : List Int) : List Nat := (List.range n).filter fun i => !lost.contains (i : Int)
theorem zipIdx_range (L : List (List Int)) : L.zipIdx = (List.range L.length).map fun i => (row L i, i) := by
  apply List.ext_getElem (by simp)
  intro i h1 h2
  simp at h1
  simp [row, h1]
theorem kept_idx (L : List (List Int)) (lost : List Int) : kept L lost = (idx L.length lost).map (row L) := by
  unfold kept idx
  rw [zipIdx_range, List.filter_map, List.map_map]
  rfl
theorem idx_lt {n : Nat} {lost : List Int} {i : Nat} (h : i ∈ idx n lost) : i < n := by
  unfold idx at h
  rw [List.mem_filter] at h
  simpa using h.1
theorem idx_len (n : Nat) (lost : List Int) : (idx n lost).length ≤ n := by
  unfold idx
  have := List.length_filter_le (fun i : Nat => !lost.contains (i : Int)) (List.range n)
  simpa using this
theorem idx_succ (n : Nat) (lost : List Int) : idx (n + 1) lost = idx n lost ++ (if lost.contains (n : Int) then [] else [n]) := by
  unfold idx
  rw [List.range_succ, List.filter_append]
  congr 1
  by_cases h : (n : Int) ∈ lost
  · simp [List.filter, h]
  · simp [List.filter, h]
theorem idx_prefix {m n : Nat} (h : m ≤ n) (lost : List Int) : idx m lost <+: idx n lost := by
  induction n with
  | zero => obtain rfl : m = 0 := by omega
            exact List.prefix_refl _
  | succ n ih =>
    by_cases e : m = n + 1
    · subst e; exact List.prefix_refl _
    · rw [idx_succ]
      exact (ih (by omega)).trans (List.prefix_append _ _)
set_option maxRecDepth 100000 in
set_option maxHeartbeats 1000000 in
theorem kept1_c (Bl Bo n₀ Bx : Nat) (hBl : Bl < n₀) (hBo : Bo < n₀) (hBlx : Bl ≠ Bx) (hBox : Bo ≠ Bx) (A A' : Option Addr) (n c c' : Nat) (hd : Nat → Value) (lost : List Int) (hn : n ≤ 1000000) (hm : lost.length ≤ 1000000) (hc' : lost.length ≤ c') (w : World) (hn0 : n₀ ≤ w.heap.size)
    (fl : w.cell? ⟨Bl, 0, none⟩ = some (.slice A n c)) (fo : w.cell? ⟨Bo, 0, none⟩ = some (.slice A' lost.length c'))
    (hx : ∀ i : Nat, i < n → ∃ ad, A = some ad ∧ ∀ W, KpE n₀ Bx w W → W.cell? (ad.add i) = some (hd i))
    (ho : ∀ W, KpE n₀ Bx w W → Kd.C (Kd.int .i64) W A' lost.length lost) :
    IterC Try.prog 89 #[.pointer (some ⟨Bl, 0, none⟩), .pointer (some ⟨Bo, 0, none⟩)] (fun i : Nat => #[hd i]) StD (KpE n₀ Bx) (fun xs => xs = idx n lost) (fun pre => pre <+: idx n lost) n w := by
  intro l J Jx W hbW hJ hJx hY h0
  have k0 : KpE n₀ Bx w W := ⟨hbW.size, fun k h1 _ => hbW.block k (by omega)⟩
  have HX := Lib.hid hx
  have HO := Lib.hid ho
  have HJ := Lib.hid hJ
  have fl1 := at_kept k0 fl hBl hBlx
  clear hx ho hJ
  refine callsIn_of_wp Try.func89 rfl trivial ?_ rfl
  simp only [Try.ntmps89, List.size_toArray, List.length_cons, List.length_nil, Nat.reduceAdd, Nat.reduceSub, Array.replicate_succ, Array.replicate_zero, List.push_toArray, List.append_toArray, List.nil_append, List.cons_append]
  gi_wp2
  gi_loopw [8] (fun i wr => ∃ j : Nat, i = .int .i64 j ∧ j ≤ n ∧ J (idx j lost) wr ∧ KpE n₀ Bx w wr) (fun i _ => n - (intOf i).toNat)
  case atStart => exact ⟨0, rfl, Nat.zero_le _, by simpa [idx] using h0, k0⟩
  case round =>
    obtain ⟨j, rfl, hj, hJp, kp⟩ := hrel
    by_cases hjl : j < n
    · obtain ⟨ad, e, hx2⟩ := HX.out j hjl
      subst e
      have hx3 := hx2 wr kp
      have fo1 := at_kept kp fo hBo hBox
      have hlen : (idx j lost).length ≤ j := idx_len j lost
      have HP := Lib.hid (idx_prefix (m := j + 1) (n := n) (by omega) lost)
      have HS := Lib.hid (idx_succ j lost)
      have HC := Lib.hid (contains_any A' lost.length c' lost (j : Int) wr rfl hm (HO.out wr kp) hc')
      clear hx2
      by_cases hc : lost.contains (j : Int)
      · have HCc := Lib.hid hc
        rw [hc] at HC
        clear hc
        gi_wp2_with fail
        refine (callsIn_wide.2 HC.out).mono ?_
        rintro e w1 ⟨rfl, q, rfl⟩
        gi_wp2_with fail
        go_roundw
        case rel =>
          refine ⟨j + 1, by simp, by omega, ?_, ⟨kp.size, kp.block⟩⟩
          rw [HS.out, if_pos HCc.out, List.append_nil]
          exact HJ.out _ _ _ ⟨q, rfl⟩ hJp
        case measure => simp [intOf]; omega
      · have HCc := Lib.hid hc
        rw [Bool.not_eq_true] at hc
        rw [hc] at HC
        clear hc
        have hpre : (idx j lost ++ [j]) <+: idx n lost := by
          have := HP.out
          rwa [HS.out, if_neg HCc.out] at this
        have hY1 := Lib.hid (hY (idx j lost) j)
        gi_wp2_with fail
        refine (callsIn_wide.2 HC.out).mono ?_
        rintro e w1 ⟨rfl, q, rfl⟩
        obtain ⟨fn, tmps, assign, body, hy, hR⟩ := hY1.out (wr.drewN q) (HJ.out _ _ _ ⟨q, rfl⟩ hJp) (by omega) hpre
        gi_wp2_with fail
        refine hR.mono ?_
        rintro e W3 (⟨rfl, hJ3, hk3⟩ | ⟨rfl, hJx3⟩)
        · gi_wp2_with fail
          go_roundw
          case rel =>
            refine ⟨j + 1, by simp, by omega, ?_, ⟨Nat.le_trans kp.size hk3.size, fun k h1 h2 => (hk3.block k h1 h2).trans (kp.block k h1 h2)⟩⟩
            rw [HS.out, if_neg HCc.out]
            exact hJ3
          case measure => simp [intOf]; omega
        · gi_wp2_with fail
          refine bodyPost_ret (results_none rfl _ _ _) rfl ?_
          exact ⟨⟨_, rfl⟩, .inr ⟨_, hpre, hJx3⟩⟩
    · obtain rfl : j = n := by omega
      gi_wp2
      go_end0
      exact ⟨⟨_, rfl⟩, .inl ⟨_, rfl, hJp⟩⟩
theorem kept_any (A A' : Option Addr) (n n' c c' : Nat) (w : World) :
    Calls Try.prog 81 #[.slice A n c, .slice A' n' c'] w fun e w' => e = .returned (.func (.func 89) #[] #[.pointer (some ⟨w.heap.size, 0, none⟩), .pointer (some ⟨w.heap.size + 1, 0, none⟩)]) ∧ w' = (w.alloc (.cells #[.slice A n c] 25)).alloc (.cells #[.slice A' n' c'] 34) := by
  go_enter Try.func81, Try.ntmps81
  go_wp2
  go_ret
  exact ⟨by simp, rfl⟩
/-- an append to a row from n₀ on, and its header stored into a box -/
theorem kp_appended {W w1 : World} {n₀ B : Nat} {e : TypeId} {size : Nat} {v : Value} {k : Nat} {xs : List Value} {tmp : Obj} (hrow : W.ownsRow n₀ e size v k xs) (hgrow : (W.alloc tmp).grownBy w1 v.ownBlock) (hn : n₀ ≤ W.heap.size) (v' : Value) : KpE n₀ B W (w1.setCell ⟨B, 0, none⟩ v') := by
  refine ⟨?_, fun i h1 h2 => ?_⟩
  · have := hgrow.size
    simp [World.setCell] at this ⊢
    omega
  · rw [Below.heap_setCell w1 ⟨B, 0, none⟩ v' i h2, hgrow.block i (by simp; omega) (fun he => by have := own_base hrow i he.symm; omega)]
    exact Below.heap_alloc _ _ _ (by omega)
theorem info_row : (Try.prog.info? 47).map (fun i => (i.zero, i.size, i.bytes)) = some (some (.slice none 0 0), 1, 24) := by kernel_rfl
/-- the headers of a row of rows -/
def fA (w : World) (A : Option Addr) (i : Nat) : Option Addr := match A with
  | some ad => match w.cell? (ad.add i) with
    | some (.slice B _ _) => B
    | _ => none
  | none => none
def fc (w : World) (A : Option Addr) (i : Nat) : Nat := match A with
  | some ad => match w.cell? (ad.add i) with
    | some (.slice _ _ c) => c
    | _ => 0
  | none => 0
def hdr (w : World) (A : Option Addr) (L : List (List Int)) (i : Nat) : Value := .slice (fA w A i) (row L i).length (fc w A i)
theorem hdr_at {w : World} {A : Option Addr} {L : List (List Int)} (h : Kd.C (Kd.slice 5 (Kd.int .u8)) w A L.length L) (i : Nat) (hi : i < L.length) :
    ∃ ad, A = some ad ∧ w.cell? (ad.add i) = some (hdr w A L i) ∧ (row L i).length ≤ fc w A i ∧ Kd.C (Kd.int .u8) w (fA w A i) (row L i).length (row L i) := by
  obtain ⟨ad, A0, c0, e, h1, h2, h3⟩ := at_L2 h (i : Int) (by omega) (by omega)
  subst e
  have r0 : rd_L2 L (i : Int) = row L i := by unfold rd_L2 row; simp
  rw [r0] at h1 h2 h3
  simp only [Int.toNat_natCast] at h1
  have eA : fA w (some ad) i = A0 := by simp [fA, h1]
  have ec : fc w (some ad) i = c0 := by simp [fc, h1]
  exact ⟨ad, rfl, by rw [hdr, eA, ec]; exact h1, by rw [ec]; exact h2, by rw [eA]; exact h3⟩
/-- rows by their headers -/
theorem C_of_cells {W : World} {v : Value} {base : Nat} {L : List (List Int)} {xs : List Nat} {hd : Nat → Value} {ok : ∀ i, i ∈ xs → ∃ A c, hd i = .slice A (row L i).length c ∧ (row L i).length ≤ c ∧ Kd.C (Kd.int .u8) W A (row L i).length (row L i)}
    (h : W.ownsRow base 47 1 v xs.length (xs.map hd)) (hm : xs.length ≤ 1000000) : ∃ A c, v = .slice A (xs.map (row L)).length c ∧ (xs.map (row L)).length ≤ c ∧ Kd.C (Kd.slice 5 (Kd.int .u8)) W A (xs.map (row L)).length (xs.map (row L)) := by
  rcases h.2 with ⟨rfl, h0⟩ | ⟨g, cap, cur, rfl, hg, hh, hc1, _, _, _⟩
  · have : xs = [] := List.eq_nil_of_length_eq_zero h0
    subst this
    exact ⟨none, 0, rfl, Nat.le_refl _, Kd.C_nil _ _⟩
  · refine ⟨some ⟨g, 0, none⟩, cap, by rw [List.length_map], by rw [List.length_map]; exact hc1, rfl, by rw [List.length_map]; omega, fun _ => ⟨_, rfl, fun j p hj => ?_⟩⟩
    rw [List.getElem?_map] at hj
    obtain ⟨i, hi, rfl⟩ := Option.map_eq_some_iff.1 hj
    have him : i ∈ xs := List.mem_of_getElem? hi
    obtain ⟨A, c, e1, e2, e3⟩ := ok i him
    refine ⟨[hd i], rfl, ⟨A, c, by rw [e1], e2, e3⟩, fun q u hu => ?_⟩
    have hq : q = 0 := by
      have := (List.getElem?_eq_some_iff.1 hu).1
      simp at this
      omega
    subst hq
    simp only [List.getElem?_cons_zero, Option.some.injEq] at hu
    subst hu
    have := h.cells (g := g) rfl (j * 1 + 0) (hd i) (by rw [Nat.mul_one, Nat.add_zero, List.getElem?_map, hi]; rfl)
    exact this
theorem nodup_take_succ {L : List Int} {j : Nat} (h : j < L.length) : (L.take (j + 1)).Nodup ↔ (L.take j).Nodup ∧ ¬ (L.take j).contains L[j] = true := by
  rw [List.take_succ_eq_append_getElem h, List.nodup_append]
  simp only [List.nodup_cons, List.not_mem_nil, not_false_eq_true, List.nodup_nil, and_self, true_and, List.mem_singleton, List.contains_iff_mem]
  constructor
  · rintro ⟨h1, h2⟩
    exact ⟨h1, fun h3 => h2 _ h3 _ rfl rfl⟩
  · rintro ⟨h1, h2⟩
    refine ⟨h1, ?_⟩
    rintro a ha b rfl rfl
    exact h2 ha
theorem mayB_bad {l : List (List Int)} {lost : List Int} {j : Nat} (h : j < lost.length) (hb : lost[j] < 0 ∨ (l.length : Int) ≤ lost[j] ∨ (lost.take j).contains lost[j] = true) : mayB l lost = false := by
  rw [Bool.eq_false_iff]
  intro hm
  simp only [mayB, Bool.and_eq_true, decide_eq_true_eq, List.all_eq_true] at hm
  obtain ⟨⟨⟨_, h1⟩, h2⟩, _⟩ := hm
  have h3 := h1 _ (List.getElem_mem h)
  rcases hb with hb | hb | hb
  · omega
  · omega
  · have h4 : (lost.take (j + 1)).Nodup := h2.sublist (List.take_sublist _ _)
    exact ((nodup_take_succ h).1 h4).2 hb
theorem mayB_len {l : List (List Int)} {lost : List Int} (h : ¬ 4 ≤ l.length ∨ ¬ l.length ≤ 16 ∨ ¬ lost.length ≤ 2) : mayB l lost = false := by
  rw [Bool.eq_false_iff]
  intro hm
  simp only [mayB, Bool.and_eq_true, decide_eq_true_eq, List.all_eq_true] at hm
  obtain ⟨⟨⟨⟨⟨h1, h2⟩, h3⟩, _⟩, _⟩, _⟩ := hm
  omega
theorem mayB_of {l : List (List Int)} {lost : List Int} (h1 : 4 ≤ l.length) (h2 : l.length ≤ 16) (h3 : lost.length ≤ 2) (h4 : ∀ j (h : j < lost.length), 0 ≤ lost[j] ∧ lost[j] < l.length) (h5 : lost.Nodup) : mayB l lost = alikeR (kept l lost) := by
  have e : lost.all (fun i => decide (0 ≤ i) && decide (i < (l.length : Int))) = true := by
    rw [List.all_eq_true]
    intro x hx
    obtain ⟨j, hj, rfl⟩ := List.getElem_of_mem hx
    have := h4 j hj
    simp only [Bool.and_eq_true, decide_eq_true_eq]
    exact this
  unfold mayB
  rw [e, decide_eq_true h1, decide_eq_true h2, decide_eq_true h3, decide_eq_true h5]
  simp only [Bool.and_true, Bool.true_and]
set_option maxRecDepth 100000 in
set_option maxHeartbeats 4000000 in
theorem may_any (A A' : Option Addr) (c c' : Nat) (L : List (List Int)) (lost : List Int) (w : World) (hm : L.length ≤ 1000000) (hm' : lost.length ≤ 1000000) (hr : Kd.C (Kd.slice 5 (Kd.int .u8)) w A L.length L) (ho : Kd.C (Kd.int .i64) w A' lost.length lost) (hc : L.length ≤ c) (hc' : lost.length ≤ c') :
    Calls Try.prog 66 #[.slice A L.length c, .slice A' lost.length c'] w fun e w' => ∃ r : Int, e = .returned (.tuple #[.int .i64 r, .bool (mayB L lost)]) ∧ (mayB L lost = true → r = (lenR (kept L lost) : Nat)) ∧ Below w.heap.size w w' := by
  obtain ⟨i0, hi, hz0, hz1, hz2⟩ := info_parts info_row
  have HR := Lib.hid hr
  have HO := Lib.hid ho
  have HM := Lib.hid hm
  have HM' := Lib.hid hm'
  have HCc := Lib.hid hc
  have HCc' := Lib.hid hc'
  clear hr ho hc hc'
  refine (callsIn_wide (n := 0)).1 ?_
  refine callsIn_of_wp_marks Try.func66 rfl trivial ?_ rfl
  simp only [Try.ntmps66, List.size_toArray, List.length_cons, List.length_nil, Nat.reduceAdd, Nat.reduceSub, Array.replicate_succ, Array.replicate_zero, List.push_toArray, List.append_toArray, List.nil_append, List.cons_append]
  by_cases h4 : L.length < 4
  · have hf := Lib.hid (mayB_len (l := L) (lost := lost) (by omega))
    gi_wp2_with fail
    refine ⟨_, results_tmp2 rfl _ _ _, 0, ?_, fun h => ?_, Below.refl _ _⟩
    · rw [hf.out]; rfl
    · rw [hf.out] at h; cases h
  by_cases h16 : 16 < L.length
  · have hf := Lib.hid (mayB_len (l := L) (lost := lost) (by omega))
    gi_wp2_with fail
    refine ⟨_, results_tmp2 rfl _ _ _, 0, ?_, fun h => ?_, Below.refl _ _⟩
    · rw [hf.out]; rfl
    · rw [hf.out] at h; cases h
  by_cases h2 : 2 < lost.length
  · have hf := Lib.hid (mayB_len (l := L) (lost := lost) (by omega))
    gi_wp2_with fail
    refine ⟨_, results_tmp2 rfl _ _ _, 0, ?_, fun h => ?_, Below.refl _ _⟩
    · rw [hf.out]; rfl
    · rw [hf.out] at h; cases h
  gi_wp2_with fail
  gi_loopw [25] (fun i wr => ∃ j : Nat, i = .int .i64 j ∧ j ≤ lost.length ∧ Hid (∀ m (h : m < lost.length), m < j → 0 ≤ lost[m] ∧ lost[m] < L.length) ∧ Hid (lost.take j).Nodup ∧ ∃ m, wr = w.drewN m) (fun i _ => lost.length - (intOf i).toNat)
  case atStart => exact ⟨0, rfl, Nat.zero_le _, Lib.hid (fun m _ h => by omega), Lib.hid (by simp), 0, rfl⟩
  case round =>
    obtain ⟨j, rfl, hj, hg, hnd, m, rfl⟩ := hrel
    by_cases hjl : j < lost.length
    · obtain ⟨ad, e, hx⟩ := Kd.at_int HO.out (j : Int) (by omega) (by omega)
      subst e
      have hx2 : (w.drewN m).cell? (ad.add j) = some (.int .i64 lost[j]) := by
        have h4 : Go.Proofs.YtibileffpgnjhaaW.PrintWords.rd lost (j : Int) = lost[j] := by unfold Go.Proofs.YtibileffpgnjhaaW.PrintWords.rd; simp [hjl]
        rw [h4] at hx
        simpa using hx
      clear hx
      obtain ⟨x, hxx⟩ : ∃ x, x = lost[j] := ⟨_, rfl⟩
      rw [← hxx] at hx2
      have HX := Lib.hid hxx
      clear hxx
      by_cases hx0 : x < 0
      · have hf := Lib.hid (mayB_bad (l := L) hjl (.inl (HX.out ▸ hx0)))
        gi_wp2_with fail
        refine ⟨_, results_tmp2 rfl _ _ _, 0, ?_, fun h => ?_, pw_below_drewN (Below.refl _ _) m⟩
        · rw [hf.out]; rfl
        · rw [hf.out] at h; cases h
      by_cases hxl : (L.length : Int) ≤ x
      · have hf := Lib.hid (mayB_bad (l := L) hjl (.inr (.inl (HX.out ▸ hxl))))
        gi_wp2_with fail
        refine ⟨_, results_tmp2 rfl _ _ _, 0, ?_, fun h => ?_, pw_below_drewN (Below.refl _ _) m⟩
        · rw [hf.out]; rfl
        · rw [hf.out] at h; cases h
      have HT := Lib.hid (Kd.C_take (Kd.C_drewN HO.out m) hj)
      have hcon := fun W => contains_any (some ad) j c' (lost.take j) x W (by rw [List.length_take]; omega) (by rw [List.length_take]; omega)
      have HCon := Lib.hid hcon
      have hjc : j ≤ c' := Nat.le_trans hj HCc'.out
      have HT2 := Lib.hid (show Kd.C (Kd.int .i64) (w.drewN m) (some ad) j (lost.take j) from by have := HT.out; rwa [List.length_take, Nat.min_eq_left hj] at this)
      clear hcon HT
      by_cases hcn : (lost.take j).contains x = true
      · have hf := Lib.hid (mayB_bad (l := L) hjl (.inr (.inr (by rw [← HX.out]; exact hcn))))
        gi_wp2_with fail
        refine (callsIn_wide.2 (HCon.out _ HT2.out hjc)).mono ?_
        rintro e w1 ⟨rfl, q, rfl⟩
        rw [hcn]
        clear hcn
        gi_wp2_with fail
        refine ⟨_, results_tmp2 rfl _ _ _, 0, ?_, fun h => ?_, pw_below_drewN (Below.refl _ _) (m + q)⟩
        · rw [hf.out]; rfl
        · rw [hf.out] at h; cases h
      · have HN := Lib.hid hcn
        have HF := Lib.hid (Bool.eq_false_iff.2 hcn)
        clear hcn
        gi_wp2_with fail
        refine (callsIn_wide.2 (HCon.out _ HT2.out hjc)).mono ?_
        rintro e w1 ⟨rfl, q, rfl⟩
        rw [HF.out]
        gi_wp2_with fail
        go_roundw
        case rel =>
          refine ⟨j + 1, by simp, by omega, Lib.hid (fun i h hi => ?_), Lib.hid ((nodup_take_succ hjl).2 ⟨hnd.out, by rw [← HX.out]; exact HN.out⟩), m + q, by simp [World.drewN_drewN]⟩
          by_cases hij : i = j
          · subst hij
            rw [← HX.out]
            exact ⟨by omega, by omega⟩
          · exact hg.out i h (by omega)
        case measure => simp [intOf]; omega
    · obtain rfl : j = lost.length := by omega
      have hall := mayB_of (l := L) (lost := lost) (by omega) (by omega) (by omega) (fun q h => hg.out q h h) (by have := hnd.out; rwa [List.take_length] at this)
      have HALL := Lib.hid hall
      clear hall hg hnd
      gi_wp2_with fail
      refine (callsIn_wide.2 (kept_any A A' L.length lost.length c c' _)).mono ?_
      rintro e w1 ⟨rfl, rfl⟩
      gi_wp2_with fail
      obtain ⟨W0, hW0⟩ : ∃ W0, ((((w.drewN m).alloc (Obj.cells #[Value.slice none 0 0] 25)).alloc (Obj.cells #[Value.slice A L.length c] 25)).alloc (Obj.cells #[Value.slice A' lost.length c'] 34)) = W0 := ⟨_, rfl⟩
      rw [hW0]
      have z0 : W0.heap.size = w.heap.size + 3 := by rw [← hW0]; simp
      have bW : Below w.heap.size w W0 := by rw [← hW0]; exact (((pw_below_drewN (Below.refl _ _) m).alloc (by simp) _).alloc (by simp) _).alloc (by simp; omega) _
      have c0 : Boxed W0 w.heap.size 25 (.slice none 0 0) := by rw [← hW0]; exact ((Boxed.new (w.drewN m) _ _).alloc _).alloc _
      have fl : W0.cell? ⟨w.heap.size + 1, 0, none⟩ = some (.slice A L.length c) := by rw [← hW0]; clear hW0; go_simp
      have fo : W0.cell? ⟨w.heap.size + 1 + 1, 0, none⟩ = some (.slice A' lost.length c') := by rw [← hW0]; clear hW0; go_simp
      clear hW0
      have KH := Lib.hid (fun W (h : KpE (w.heap.size + 3) w.heap.size W0 W) k (hlt : k < w.heap.size) => ((h.block k (by omega) (by omega)).trans (bW.block k hlt) : W.heap[k]? = w.heap[k]?))
      have hI : OwnFrom W0.heap.size (fun (pre : List Nat) W => (∃ v, Boxed W w.heap.size 25 v ∧ W.ownsRow (w.heap.size + 3) 47 1 v pre.length (pre.map (hdr w A L)) ∧ True) ∧ Below w.heap.size w W) :=
        OwnFrom.and (Own.from (holdsRow_own (w.heap.size + 3) w.heap.size 25 47 1 (fun pre : List Nat => pre.length) (fun pre => pre.map (hdr w A L)) (fun pre v => True)) _) (ownFrom_below (Nat.le_refl _) (by omega))
      refine range_c (gf := 89) rfl (fun _ _ => rfl) (kept1_c (w.heap.size + 1) (w.heap.size + 1 + 1) (w.heap.size + 3) w.heap.size (by omega) (by omega) (by omega) (by omega) A A' L.length c c' (hdr w A L) lost HM.out HM'.out HCc'.out W0 (by omega) fl fo ?_ ?_)
        (fun h k => h.trans k) (fun W l o o' hl h _ _ => ⟨by simp, fun k h1 h2 => World.putObj_heap_other (by omega)⟩) (fun A B ⟨n, e⟩ => by subst e; exact ⟨Nat.le_refl _, fun _ _ h _ => h⟩) (Below.refl _ _) (fun _ => rfl)
        (fun pre W => (∃ v, Boxed W w.heap.size 25 v ∧ W.ownsRow (w.heap.size + 3) 47 1 v pre.length (pre.map (hdr w A L)) ∧ True) ∧ Below w.heap.size w W) (fun _ _ _ => False) hI (fun c pre A B row h => h.elim) ?_ (fun _ _ _ _ _ h => h) ⟨⟨_, c0, World.ownsRow_nil _ _ _ _, trivial⟩, bW⟩ ?_ ?_ ?_
      · intro i hi
        obtain ⟨ad, e, h1, _, _⟩ := hdr_at HR.out i hi
        exact ⟨ad, e, fun W h => (World.cell?_of_block (KH.out W h _ (World.block_lt_of_cell? w _ h1))).trans h1⟩
      · intro W h
        exact (Kd.heap_int _).C (KH.out W h) HO.out
      · rintro pre A1 B1 ⟨q, rfl⟩ ⟨⟨v, hv, hrow, _⟩, hB⟩
        exact ⟨⟨v, hv, hrow, trivial⟩, pw_below_drewN hB q⟩
      · rintro l pre x W hi2 hlen hsp hsz
        gi_wp2_with fail
        refine ⟨KeepsOthers.refl _, KpE.refl _, fun X => _, fun A B row h hg hr => hI _ _ _ _ h hg hr, hi2, ?_⟩
        rintro W₂ ⟨⟨v, hv, hrow, _⟩, hB⟩ h4
        have hs2 : w.heap.size + 3 ≤ W₂.heap.size := by omega
        have hrow0 := own_weaken hrow (show w.heap.size ≤ w.heap.size + 3 by omega)
        have Hs2 := Lib.hid hs2
        clear h4 hsz hs2
        have hc := hv.cell
        have hlx : pre.length < L.length := hlen
        obtain ⟨A3, n3, c3, e3⟩ : ∃ A3 n3 c3, hdr w A L x = .slice A3 n3 c3 := ⟨_, _, _, rfl⟩
        rw [e3]
        gi_wp2_with (gi_at_builtin; refine wpListIn_append_own _ rfl _ _ 25 rfl (w.heap.size + 3) 47 i0 (.slice none 0 0) 1 24 Try.underlying25 hi hz0 hz1 hz2 rfl (by decide) _ _ _ rfl (hrow.alloc _) ⟨W₂.heap.size, 0, none⟩ 1 1 [.slice A3 n3 c3] rfl rfl (cell_one_new _ _ _) (by simp [Value.oneCell']) (by unfold maxLen; omega) (by omega) (by have := Hs2.out; simp; omega) ?_; intro v' w1 hown' hgrow _; obtain ⟨g', cap', rfl⟩ := ownsRow_succ hown'; obtain ⟨hv1, hv2, hr2, hk2, hb2⟩ := hv.appended (by decide) hrow0 hB.size (Nat.le_refl _) (own_weaken hown' (show w.heap.size ≤ w.heap.size + 3 by omega)) hgrow; have hc1 := hv1.cell; have hf1 := hv1.frozen)
        exact ⟨hk2, kp_appended hrow hgrow Hs2.out _, ⟨_, hv2, by simpa [e3] using hown'.kept (grownBy_setCell' w1 w.heap.size _) (.inr (hv1.not_row (by decide) hown').symm), trivial⟩, hB.trans hb2⟩
      · rintro D ys W hDl rfl ⟨⟨v, hv, hrow, _⟩, hB⟩ hD
        have hc := hv.cell
        have hlL : L.length ≤ 16 := by omega
        obtain ⟨A2, c2, rfl, hA2, hC2⟩ := C_of_cells (L := L) (ok := fun i hi => by
          obtain ⟨_, _, _, g1, g2⟩ := hdr_at HR.out i (idx_lt hi)
          exact ⟨_, _, rfl, g1, Kd.C_below g2 hB⟩) hrow (by have := idx_len L.length lost; omega)
        rw [← kept_idx] at hA2 hC2 hc
        have HA2 := Lib.hid hA2
        have HC2 := Lib.hid hC2
        clear hA2 hC2
        have hkl : (kept L lost).length ≤ 1000000 := by rw [kept_idx, List.length_map]; have := idx_len L.length lost; omega
        obtain ⟨k, hk⟩ := (alike_ev (kept L lost) hkl).rounds
        have HK := Lib.hid hk
        clear hk
        by_cases hal : alikeR (kept L lost) = true
        · have HAL := Lib.hid hal
          rw [if_pos hal] at HK
          clear hal
          gi_wp2_with fail
          refine (callsIn_wide.2 (rs_alike.calls k A2 c2 (kept L lost) _ _ W HC2.out HA2.out HK.out)).mono ?_
          rintro e w1 ⟨rfl, ⟨q, rfl⟩⟩
          gi_wp2_with fail
          refine ⟨by simp, .inl ⟨_, _, rfl, run_takeDeferred hD, ?_⟩⟩
          refine ⟨_, results_tmp2 rfl _ _ _, _, ?_, fun _ => rfl, (pw_below_drewN hB q).trans (belowK_b (w := w) (Nat.le_refl _) (W.drewN q) D _ _ (by omega) hD rfl rfl)⟩
          rw [HALL.out, HAL.out]
          rfl
        · have HAL := Lib.hid (Bool.eq_false_iff.2 hal)
          rw [if_neg hal] at HK
          clear hal
          gi_wp2_with fail
          refine (callsIn_wide.2 (rs_alike.calls k A2 c2 (kept L lost) _ _ W HC2.out HA2.out HK.out)).mono ?_
          rintro e w1 ⟨rfl, ⟨q, rfl⟩⟩
          gi_wp2_with fail
          refine ⟨by simp, .inl ⟨_, _, rfl, run_takeDeferred hD, ?_⟩⟩
          refine ⟨_, results_tmp2 rfl _ _ _, 0, ?_, fun h => ?_, (pw_below_drewN hB q).trans (belowK_b (w := w) (Nat.le_refl _) (W.drewN q) D _ _ (by omega) hD rfl rfl)⟩
          · rw [HALL.out, HAL.out]
            rfl
          · rw [HALL.out, HAL.out] at h
            cases h
      · intro D c pre W _ _ h; exact h.elim
end Go.Proofs.Ytibileffpgnjhaa.Kp
namespace Go.Proofs.Ytibileffpgnjhaa.Ow
open Go.RowKit Go.Proofs.YtibileffpgnjhaaW.PrintWords
open Go.Proofs.Ytibileffpgnjhaa.PRq Go.Proofs.Ytibileffpgnjhaa.Fld Go.Proofs.Ytibileffpgnjhaa.Pl Go.Proofs.Ytibileffpgnjhaa.Ot Go.Proofs.Ytibileffpgnjhaa.Tw Go.Proofs.Ytibileffpgnjhaa.Kp
set_option linter.unusedSimpArgs false
set_option linter.unusedVariables false
theorem info_byte : (Try.prog.info? 5).map (fun i => (i.zero, i.size, i.bytes)) = some (some (.int .u8 0), 1, 1) := by kernel_rfl
def oR (L : List (List Int)) (lost : List Int) (n i : Nat) : List Int := if lost.contains (i : Int) then List.replicate n 0 else row L i
def rowsAt (L : List (List Int)) (lost : List Int) (n j : Nat) : List (List Int) := (List.range L.length).map fun i => if i < j then oR L lost n i else []
theorem rowsAt_len (L : List (List Int)) (lost : List Int) (n j : Nat) : (rowsAt L lost n j).length = L.length := by simp [rowsAt]
theorem rowsAt_all (L : List (List Int)) (lost : List Int) (n : Nat) : rowsAt L lost n L.length = ownR L lost n := by
  apply List.ext_getElem (by simp [rowsAt, ownR])
  intro i h1 h2
  rw [rowsAt_len] at h1
  simp [rowsAt, ownR, oR, h1, row]
theorem rowsAt_set (L : List (List Int)) (lost : List Int) (n j : Nat) (hj : j < L.length) : (rowsAt L lost n j).set j (oR L lost n j) = rowsAt L lost n (j + 1) := by
  apply List.ext_getElem (by simp [rowsAt])
  intro i h1 h2
  rw [rowsAt_len] at h2
  rw [List.getElem_set]
  split
  · rename_i e; subst e; simp [rowsAt]
  · rename_i e
    simp only [rowsAt, List.getElem_map, List.getElem_range]
    by_cases h : i < j
    · rw [if_pos h, if_pos (by omega)]
    · rw [if_neg h, if_neg (by omega)]
theorem rowsAt_zero (L : List (List Int)) (lost : List Int) (n : Nat) : rowsAt L lost n 0 = List.replicate L.length [] := by
  apply List.ext_getElem (by simp [rowsAt])
  intro i h1 h2
  simp [rowsAt]
theorem out_new {W : World} {base G n : Nat} (h : W.ownsRow base 47 1 (.slice (some ⟨G, 0, none⟩) n n) n (List.replicate n (.slice none 0 0))) (hn : n ≤ 1000000) : Out W base G (List.replicate n (.slice none 0 0)) (List.replicate n []) := by
  refine ⟨by rw [List.length_replicate]; exact h, fun i h r h1 h2 => ?_, fun i j h g k hij hi hj he => ?_, by rw [List.length_replicate]; exact hn⟩
  · rw [List.getElem?_replicate] at h1 h2
    split at h1
    · rename_i hl
      rw [if_pos hl] at h2
      cases h1
      cases h2
      exact own_nil _ _ _ _
    · cases h1
  · rw [List.getElem?_replicate] at hi
    split at hi
    · cases hi
      cases he
    · cases hi
set_option maxRecDepth 100000 in
set_option maxHeartbeats 2000000 in
theorem own_any (A A' : Option Addr) (c c' n : Nat) (L : List (List Int)) (lost : List Int) (w : World) (hm : L.length ≤ 1000000) (hm' : lost.length ≤ 1000000) (hn : n ≤ 1000000) (hr : Kd.C (Kd.slice 5 (Kd.int .u8)) w A L.length L) (ho : Kd.C (Kd.int .i64) w A' lost.length lost) (hc' : lost.length ≤ c')
    (hk : ∀ i : Nat, i < L.length → lost.contains (i : Int) = false → (row L i).length = n) :
    Calls Try.prog 67 #[.slice A L.length c, .slice A' lost.length c', .int .i64 (n : Int)] w fun e w' => ∃ G hs, e = .returned (.slice (some ⟨G, 0, none⟩) L.length L.length) ∧ Out w' w.heap.size G hs (ownR L lost n) ∧ Below w.heap.size w w' := by
  obtain ⟨i0, hi0, hz00, hz01, hz02⟩ := info_parts info_row
  obtain ⟨i1, hi1, hz10, hz11, hz12⟩ := info_parts info_byte
  have HR := Lib.hid hr
  have HO := Lib.hid ho
  have HK := Lib.hid hk
  clear hr ho hk
  go_enter Try.func67, Try.ntmps67
  go_wp2_with (at_make; refine wpList_make_full w rfl _ _ 25 rfl w.heap.size 47 i0 (.slice none 0 0) 1 Try.underlying25 hi0 hz00 hz01 .i64 .i64 _ _ L.length rfl rfl rfl rfl (by rw [hz02]; omega) (by unfold maxLen; omega) (Nat.le_refl _) ?_; intro w1 how1 hgr1)
  have O1 : Out w1 w.heap.size w.heap.size (List.replicate L.length (.slice none 0 0)) (rowsAt L lost n 0) := by
    rw [rowsAt_zero]
    refine out_new ?_ hm
    have := how1
    simpa [toList_madeCells_one, Value.cells] using this
  have B1 : Below w.heap.size w w1 := Below.grown (Below.refl _ _) hgr1 (Nat.le_refl _) (fun k e => by cases e)
  go_loopw [15] (fun i wr => ∃ (j : Nat) (hs : List Value), i = .int .i64 j ∧ j ≤ L.length ∧ Hid (Out wr w.heap.size w.heap.size hs (rowsAt L lost n j)) ∧ Hid (Below w.heap.size w wr)) (fun i _ => L.length - (intOf i).toNat)
  case atStart => exact ⟨0, _, rfl, Nat.zero_le _, Lib.hid O1, Lib.hid B1⟩
  case round =>
    clear O1 B1 how1 hgr1
    obtain ⟨j, hs, rfl, hj, HOut, HB⟩ := hrel
    by_cases hjl : j < L.length
    · obtain ⟨ad, e, hx, hxc, hxC⟩ := hdr_at HR.out j hjl
      subst e
      have hx2 : wr.cell? (ad.add j) = some (hdr w (some ad) L j) := pw_cell_below HB.out hx
      have HXC := Lib.hid hxC
      clear hx hxC
      have hxe : hdr w (some ad) L j = .slice (fA w (some ad) j) (row L j).length (fc w (some ad) j) := rfl
      rw [hxe] at hx2
      clear hxe
      generalize fA w (some ad) j = A3 at hx2 hxc HXC
      generalize fc w (some ad) j = c3 at hx2 hxc HXC
      have hfz := HOut.out.frozen j
      have hcl := HOut.out.len
      have hrl := rowsAt_len L lost n j
      obtain ⟨hz, hzi⟩ := HOut.out.get (i := j) (by rw [hrl]; exact hjl)
      have HZI := Lib.hid hzi
      clear hcl hrl hzi
      have hB := HB.out.size
      go_wp2_with (at_make; refine wpList_make_full wr rfl _ _ 47 rfl wr.heap.size 5 i1 (.int .u8 0) 1 Try.underlying47 hi1 hz10 hz11 .i64 .i64 _ _ n rfl rfl rfl rfl (by rw [hz12]; omega) (by unfold maxLen; omega) (Nat.le_refl _) ?_; intro w2 how2 hgr2; have O2 := Lib.hid (HOut.out.below (Below.grown (Below.refl _ _) hgr2 (Nat.le_refl _) (fun k e => by cases e))); have hz2 := O2.out.cell HZI.out; have hf2 := O2.out.frozen j)
      have hrl := rowsAt_len L lost n j
      have br2 : BR w2 w.heap.size (.slice (some ⟨wr.heap.size, 0, none⟩) n n) (List.replicate n 0) := by
        have h1 := own_weaken how2 hB
        unfold BR encs
        rw [List.length_replicate]
        simpa [toList_madeCells_one, Value.cells] using h1
      have O3 := Lib.hid (O2.out.set (i := j) (v := .slice (some ⟨wr.heap.size, 0, none⟩) n n) (by rw [hrl]; exact hjl) br2 (fun i g k hi hg h2 => by
        have h4 : i < hs.length := (List.getElem?_eq_some_iff.1 hi).1
        have h5 := HOut.out.len
        have h6 := own_lt (HOut.out.row i g _ hi (List.getElem?_eq_getElem (by omega))) k hg
        have h7 : wr.heap.size = k := by simpa [Value.ownBlock] using h2
        omega))
      have B3 := Lib.hid ((HB.out.grown hgr2 (by omega) (fun k e => by cases e)).setCell (p := ⟨w.heap.size, j, none⟩) (Nat.le_refl _) (.slice (some ⟨wr.heap.size, 0, none⟩) n n))
      have IA := Lib.hid (show (hs.set j (.slice (some ⟨wr.heap.size, 0, none⟩) n n))[j]? = some (.slice (some ⟨wr.heap.size, 0, none⟩) n n) from by
        have h5 := HOut.out.len
        rw [List.getElem?_set_self (by omega)])
      clear hz2 hf2 br2 hfz how2 hrl
      obtain ⟨w3, hw3⟩ : ∃ w3, w2.setCell ⟨w.heap.size, j, none⟩ (.slice (some ⟨wr.heap.size, 0, none⟩) n n) = w3 := ⟨_, rfl⟩
      rw [hw3] at O3 B3 ⊢
      clear hw3
      have hcon := Lib.hid (contains_any A' lost.length c' lost (j : Int) w3 rfl hm' (Kd.C_below HO.out B3.out) hc')
      by_cases hc : lost.contains (j : Int) = true
      · have HS := Lib.hid (show (rowsAt L lost n j).set j (List.replicate n 0) = rowsAt L lost n (j + 1) from by rw [← rowsAt_set L lost n j hjl, oR, if_pos hc])
        rw [HS.out] at O3
        refine hcon.out.mono ?_
        rintro e w4 ⟨rfl, q, rfl⟩
        rw [hc]
        clear hc
        go_wp2_with fail
        go_roundw
        case rel => exact ⟨j + 1, _, by simp, by omega, Lib.hid (O3.out.below (pw_below_drewN (Below.refl _ _) q)), Lib.hid (pw_below_drewN B3.out q)⟩
        case measure => simp [intOf]; omega
      · have hcf := Bool.eq_false_iff.2 hc
        have HS := Lib.hid (show (rowsAt L lost n j).set j (row L j) = rowsAt L lost n (j + 1) from by rw [← rowsAt_set L lost n j hjl, oR, if_neg hc])
        have hkl := HK.out j hjl hcf
        refine hcon.out.mono ?_
        rintro e w4 ⟨rfl, q, rfl⟩
        rw [hcf]
        clear hc hcf
        have O4 := Lib.hid (O3.out.below (pw_below_drewN (Below.refl _ _) q))
        have B4 := Lib.hid (pw_below_drewN B3.out q)
        have ca := O4.out.cell IA.out
        clear O3 B3
        have brow := Lib.hid (O4.out.row j _ (List.replicate n 0) IA.out (by rw [List.getElem?_set_self (by rw [rowsAt_len]; exact hjl)]))
        have HC4 := Lib.hid (Kd.C_below HXC.out B4.out)
        have HRO := Lib.hid (brow.out.R (ok := fun _ => True) (fun _ _ => trivial))
        have HC5 := Lib.hid (show Kd.C (Kd.int .u8) (w3.drewN q) A3 n (row L j) from by have := HC4.out; rwa [hkl] at this)
        have HIN : (Try.prog.info? 5).map (·.size) = some 1 := by kernel_rfl
        go_wp2_with ((with_reducible show wpList _ _ _ _ _ _); refine Kd.R_copy (o := ⟨some 34, _, _, _, _, _⟩) (enc := Value.int .u8) (h1 := fun _ => rfl) (0 : Int) (w0 := w) w.heap.size rfl (.tmp 32) (.tmp 33) 47 47 5 rfl Try.underlying47 HIN (.slice (some ⟨wr.heap.size, 0, none⟩) n n) (List.replicate n 0) (row L j) A3 n c3 (fun _ => True) rfl rfl HRO.out HC5.out B4.out B4.out.size ?_; intro w5 h51 h52 h53)
        have hrow5 : BR w5 w.heap.size (.slice (some ⟨wr.heap.size, 0, none⟩) n n) (row L j) := by
          have h6 := BR.of h51
          rw [List.length_replicate, Nat.min_self, List.drop_eq_nil_of_le (by rw [List.length_replicate]; exact Nat.le_refl _), List.append_nil, List.take_of_length_le (by rw [hkl]; exact Nat.le_refl _)] at h6
          exact h6
        have O5 := Lib.hid (O4.out.put IA.out (Kept.of_grown h53 (Kept.refl _ _) (fun k e => .inl e.symm)) hrow5)
        clear h51 hrow5
        rw [List.set_set, HS.out] at O5
        go_wp2_with fail
        go_roundw
        case rel => exact ⟨j + 1, _, by simp, by omega, O5, Lib.hid h52⟩
        case measure => simp [intOf]; omega
    · have e : j = L.length := by omega
      subst e
      go_wp2_with fail
      go_ret
      rw [rowsAt_all] at HOut
      exact ⟨_, _, rfl, HOut.out, HB.out⟩
end Go.Proofs.Ytibileffpgnjhaa.Ow
namespace Go.Proofs.Ytibileffpgnjhaa.PRt
open Go.RowKit Go.Proofs.YtibileffpgnjhaaW.PrintWords Go.Proofs.YtibileffpgnjhaaW.PrintLast Go.Proofs.YtibileffpgnjhaaW.PrintMore
attribute [local go_sem] max2_int min2_int max_two min_two max_three min_three max_four min_four -- for this text's walks alone
set_option linter.unusedVariables false
set_option linter.unusedSimpArgs false
def errW : Option Int → Value
  | none => .nilIface
  | some c => .iface 0 (.int .i64 c)
theorem errW_none : errW none = .nilIface := rfl
theorem errW_some (c : Int) : errW (some c) = .iface 0 (.int .i64 c) := rfl
end Go.Proofs.Ytibileffpgnjhaa.PRt
namespace Go.Proofs.Ytibileffpgnjhaa.PRt
open Go.RowKit Go.Proofs.YtibileffpgnjhaaW.PrintWords Go.Proofs.YtibileffpgnjhaaW.PrintLast Go.Proofs.YtibileffpgnjhaaW.PrintMore
attribute [local go_sem] max2_int min2_int max_two min_two max_three min_three max_four min_four -- for this text's walks alone
set_option linter.unusedVariables false
set_option linter.unusedSimpArgs false
def cmp_isNaN_int.f (a0 : Int) : Option (Bool) := some (a0 != a0)
set_option maxHeartbeats 8000000 in
set_option maxRecDepth 100000 in
theorem cmp_isNaN_int.calls (a0 : Int) (r : Bool) (w : World) (h : cmp_isNaN_int.f a0 = some r) :
    Calls Try.prog 110 #[.int .i64 a0] w fun e w' => e = .returned (.bool r) ∧ Drawn0 w w' := by
  have H : (some (a0 != a0)) = some r := h
  clear h
  obtain rfl := Option.some.inj H
  go_enter Try.func110, Try.ntmps110
  go_wp2
  go_ret
  exact ⟨by first | rfl | (simp; done) | (simp [*]; done), by repeat (first | exact Drawn0.refl _ | apply Drawn0.step)⟩
def cmp_Less_int.f (a0 : Int) (a1 : Int) : Option (Bool) := (cmp_isNaN_int.f a0).bind fun t101 => (if t101 = true then ((cmp_isNaN_int.f a1).bind fun t102 => (if t102 = true then (some (decide (a0 < a1))) else (some true))) else (some (decide (a0 < a1))))
set_option maxHeartbeats 8000000 in
set_option maxRecDepth 100000 in
theorem cmp_Less_int.calls (a0 : Int) (a1 : Int) (r : Bool) (w : World) (h : cmp_Less_int.f a0 a1 = some r) :
    Calls Try.prog 100 #[.int .i64 a0, .int .i64 a1] w fun e w' => e = .returned (.bool r) ∧ Drawn0 w w' := by
  have H : ((cmp_isNaN_int.f a0).bind fun t101 => (if t101 = true then ((cmp_isNaN_int.f a1).bind fun t102 => (if t102 = true then (some (decide (a0 < a1))) else (some true))) else (some (decide (a0 < a1))))) = some r := h
  clear h
  replace H := Option.bind_eq_some_iff.mp H
  obtain ⟨t101, A30, H⟩ := H
  replace H : (if t101 = true then ((cmp_isNaN_int.f a1).bind fun t102 => (if t102 = true then (some (decide (a0 < a1))) else (some true))) else (some (decide (a0 < a1)))) = some r := H
  have A3 := Aside0.mk A30
  clear A30
  by_cases c4 : t101 = true
  · subst c4
    have H1 : ((cmp_isNaN_int.f a1).bind fun t102 => (if t102 = true then (some (decide (a0 < a1))) else (some true))) = some r := by rw [if_pos rfl] at H; exact H
    clear H
    have H := H1
    clear H1
    replace H := Option.bind_eq_some_iff.mp H
    obtain ⟨t102, A50, H⟩ := H
    replace H : (if t102 = true then (some (decide (a0 < a1))) else (some true)) = some r := H
    have A5 := Aside0.mk A50
    clear A50
    by_cases c6 : t102 = true
    · subst c6
      have H1 : (some (decide (a0 < a1))) = some r := by rw [if_pos rfl] at H; exact H
      clear H
      have H := H1
      clear H1
      obtain rfl := Option.some.inj H
      go_enter Try.func100, Try.ntmps100
      go_wp2_with (first | ((with_reducible refine gate_callee (f := 110) rfl ?_); refine goesL_ (some 6) rfl rfl Try.func110 (by kernel_rfl) rfl #[.int .i64 a0] rfl (by (try simp only [List.map_toArray, List.map_cons, List.map_nil]); first | done | rfl | (simp only [List.length_drop, List.length_take]; rfl)) ?_; (with_reducible refine (cmp_isNaN_int.calls a0 true _ A3.out).mono ?_); rintro e w' ⟨rfl, ⟨nd, rfl⟩⟩; refine ⟨_, rfl, ?_⟩) | (go_at_call 110; (with_reducible refine (cmp_isNaN_int.calls a1 true _ A5.out).mono ?_); rintro e w' ⟨rfl, ⟨nd, rfl⟩⟩))
      go_ret
      exact ⟨by first | rfl | (simp; done) | (simp [*]; done), by repeat (first | exact Drawn0.refl _ | apply Drawn0.step)⟩
    · replace c6 := Bool.eq_false_iff.mpr c6
      subst c6
      have H1 : (some true) = some r := by rw [if_neg (show ¬ (false = true) by decide)] at H; exact H
      clear H
      have H := H1
      clear H1
      obtain rfl := Option.some.inj H
      go_enter Try.func100, Try.ntmps100
      go_wp2_with (first | ((with_reducible refine gate_callee (f := 110) rfl ?_); refine goesL_ (some 6) rfl rfl Try.func110 (by kernel_rfl) rfl #[.int .i64 a0] rfl (by (try simp only [List.map_toArray, List.map_cons, List.map_nil]); first | done | rfl | (simp only [List.length_drop, List.length_take]; rfl)) ?_; (with_reducible refine (cmp_isNaN_int.calls a0 true _ A3.out).mono ?_); rintro e w' ⟨rfl, ⟨nd, rfl⟩⟩; refine ⟨_, rfl, ?_⟩) | (go_at_call 110; (with_reducible refine (cmp_isNaN_int.calls a1 false _ A5.out).mono ?_); rintro e w' ⟨rfl, ⟨nd, rfl⟩⟩))
      go_ret
      exact ⟨by first | rfl | (simp; done) | (simp [*]; done), by repeat (first | exact Drawn0.refl _ | apply Drawn0.step)⟩
  · replace c4 := Bool.eq_false_iff.mpr c4
    subst c4
    have H1 : (some (decide (a0 < a1))) = some r := by rw [if_neg (show ¬ (false = true) by decide)] at H; exact H
    clear H
    have H := H1
    clear H1
    obtain rfl := Option.some.inj H
    go_enter Try.func100, Try.ntmps100
    go_wp2_with (first | ((with_reducible refine gate_callee (f := 110) rfl ?_); refine goesL_ (some 6) rfl rfl Try.func110 (by kernel_rfl) rfl #[.int .i64 a0] rfl (by (try simp only [List.map_toArray, List.map_cons, List.map_nil]); first | done | rfl | (simp only [List.length_drop, List.length_take]; rfl)) ?_; (with_reducible refine (cmp_isNaN_int.calls a0 false _ A3.out).mono ?_); rintro e w' ⟨rfl, ⟨nd, rfl⟩⟩; refine ⟨_, rfl, ?_⟩))
    go_ret
    exact ⟨by first | rfl | (simp; done) | (simp [*]; done), by repeat (first | exact Drawn0.refl _ | apply Drawn0.step)⟩
mutual
def slices_insertionSortOrdered_int.l0 : Nat → List Int → Int → Int → Int → Option (List Int)
  | 0, _, _, _, _ => none
  | k + 1, x0, x1, x2, x6 => if x6 < x2 then (slices_insertionSortOrdered_int.l1 k x0 x1 x2 x6 x6) else (some x0)
def slices_insertionSortOrdered_int.l1 : Nat → List Int → Int → Int → Int → Int → Option (List Int)
  | 0, _, _, _, _, _ => none
  | k + 1, x0, x1, x2, x6, x7 => if x7 > x1 then (if 0 ≤ x7 then (if x7 < (x0.length : Int) then (if 0 ≤ (wrap64 (x7 - 1)) then (if (wrap64 (x7 - 1)) < (x0.length : Int) then ((cmp_Less_int.f (rd x0 x7) (rd x0 (wrap64 (x7 - 1)))).bind fun t105 => (if t105 = true then (slices_insertionSortOrdered_int.l1 k ((x0.set (x7 : Int).toNat (rd x0 (wrap64 (x7 - 1)))).set ((wrap64 (x7 - 1)) : Int).toNat (rd x0 x7)) x1 x2 x6 (wrap64 (x7 - 1))) else (slices_insertionSortOrdered_int.l0 k x0 x1 x2 (wrap64 (x6 + 1))))) else (none)) else (none)) else (none)) else (none)) else (slices_insertionSortOrdered_int.l0 k x0 x1 x2 (wrap64 (x6 + 1)))
end
def slices_insertionSortOrdered_int.f (k : Nat) (l0 : List Int) (a1 : Int) (a2 : Int) : Option (List Int) := slices_insertionSortOrdered_int.l0 k l0 a1 a2 (wrap64 (a1 + 1))
def slices_insertionSortOrdered_int.T4 : Bool × List (List Nat × List Nat) := (true, [([], []), ([], []), ([0, 1], [0, 1]), ([2], [2]), ([3], [3]), ([3], [3]), ([4, 5, 3], [3, 4, 5]), ([6, 3], [3, 6]), ([3], [3]), ([3], [3]), ([9, 3], [3, 9]), ([8, 10, 3], [3, 8, 10]), ([11, 3], [3, 11]), ([7, 12, 3, 3], [3, 7, 12]), ([3, 13], [3, 13])])
def slices_insertionSortOrdered_int.B4 : List Nat := [0, 0, 3, 7, 15, 15, 63, 127, 15, 15, 527, 1807, 3855, 8191, 16383]
theorem slices_insertionSortOrdered_int.tab4 : rtab .any (opsOf Try.f94 4) = slices_insertionSortOrdered_int.T4 := by kernel_rfl
theorem slices_insertionSortOrdered_int.bits4 : waitsOk slices_insertionSortOrdered_int.T4.2 slices_insertionSortOrdered_int.B4 = true := by kernel_rfl
def slices_insertionSortOrdered_int.T6 : Bool × List (List Nat × List Nat) := (true, [([], []), ([], []), ([], []), ([], []), ([3], [3]), ([], []), ([], []), ([6], [6]), ([5, 7], [5, 7]), ([8], [8]), ([], []), ([], []), ([10, 11], [10, 11]), ([12], [12]), ([0, 1, 0, 1, 5, 6, 7, 8, 9, 13], [0, 1]), ([14, 9, 0, 1, 5, 6, 7, 8, 9, 13], [9, 14]), ([2, 4, 0, 1, 2, 3, 4, 5, 6, 7, 8, 9, 10, 11, 12, 13, 14, 15], [2, 4]), ([16, 13, 15, 0, 1, 2, 3, 4, 5, 6, 7, 8, 9, 10, 11, 12, 13, 14, 15], [13, 16])])
def slices_insertionSortOrdered_int.B6 : List Nat := [0, 0, 0, 0, 8, 0, 0, 64, 224, 480, 0, 0, 3072, 7168, 16355, 32739, 65535, 131071]
theorem slices_insertionSortOrdered_int.tab6 : rtab .any (opsOf Try.f94 6) = slices_insertionSortOrdered_int.T6 := by kernel_rfl
theorem slices_insertionSortOrdered_int.bits6 : waitsOk slices_insertionSortOrdered_int.T6.2 slices_insertionSortOrdered_int.B6 = true := by kernel_rfl
set_option maxHeartbeats 8000000 in
set_option maxRecDepth 100000 in
theorem slices_insertionSortOrdered_int.calls (k : Nat) (P0_ : Nat → Prop) (u9000_ : Value) (l0 : List Int) (a1 : Int) (a2 : Int) (r : List Int) (w0 w : World) (hB : Below w0.heap.size w0 w) (ho0 : Kd.R (Kd.int .i64) 3 w w0.heap.size P0_ u9000_ l0) (h : slices_insertionSortOrdered_int.f k l0 a1 a2 = some r) :
    Calls Try.prog 94 #[u9000_, .int .i64 a1, .int .i64 a2] w fun e w' => e = .returned (.tuple #[]) ∧ Kd.R (Kd.int .i64) 3 w' w0.heap.size (fun k_ => (P0_ k_ ∨ w.heap.size ≤ k_)) u9000_ r ∧ Below w0.heap.size w0 w' ∧ Kept w w' (fun k_ => P0_ k_) := by
  have HO0 := Aside0.mk (show Kd.R (Kd.int .i64) 3 w w0.heap.size (fun k_ => (P0_ k_ ∨ w.heap.size ≤ k_)) u9000_ l0 from Kd.R_mono ho0 (fun k_ hk => (.inl hk)))
  have HK := Aside0.mk (Kept.refl w (fun k_ => P0_ k_))
  have HW0 := Aside0.mk hB.size
  have HB := Aside0.mk hB
  clear hB
  have H : (slices_insertionSortOrdered_int.l0 k l0 a1 a2 (wrap64 (a1 + 1))) = some r := h
  clear h
  have H' := Aside0.mk H
  clear H
  go_enter Try.func94, Try.ntmps94
  go_wp2
  go_loopg [6] k (fun kq v6 w' => ∃ (x0_1 : List Int) (x6_1 : Int), v6 = .int .i64 x6_1 ∧ Aside0 (slices_insertionSortOrdered_int.l0 kq x0_1 a1 a2 x6_1 = some r) ∧ Aside0 (kq ≤ k) ∧ Aside0 (Kd.R (Kd.int .i64) 3 w' w0.heap.size (fun k_ => (P0_ k_ ∨ w.heap.size ≤ k_)) u9000_ x0_1) ∧ Aside0 (Kept w w' (fun k_ => P0_ k_)) ∧ Aside0 (Below w0.heap.size w0 w'))
  case atStart => exact ⟨(l0), (wrap64 (a1 + 1)), (by first | rfl | (simp; done) | (simp [*]; done)), H', ⟨Nat.le_refl _⟩, ⟨by (with_reducible repeat (first | apply Kd.R_alloc | apply Kd.R_drewN | apply Kd.R_drew)); exact HO0.out⟩, ⟨by repeat (first | (with_reducible first | exact HK.out | apply Kept.alloc | apply Kept.drewN | apply Kept.drew) | exact HK.out)⟩, ⟨by repeat (first | (with_reducible first | exact HB.out | apply below_alloc | apply pw_below_drewN | apply below_drew1) | exact HB.out)⟩⟩
  case round =>
    clear H'
    try clear p2
    obtain ⟨x0_1, x6_1, rfl, HA, HK1, HO_0, HK, HB⟩ := hrel
    cases gk with
    | zero => exact absurd HA.out (by simp [slices_insertionSortOrdered_int.l0])
    | succ k1 =>
      have H := HA.out
      clear HA
      simp only [slices_insertionSortOrdered_int.l0] at H
      by_cases c4 : x6_1 < a2
      · rw [if_pos c4] at H
        have c4b0 : decide (x6_1 < a2) = true := decide_eq_true c4
        clear c4
        have H' := Aside0.mk H
        clear H
        go_wp2
        go_loopg [7] k1 (fun kq v7 w' => ∃ (x0_2 : List Int) (x7_2 : Int), v7 = .int .i64 x7_2 ∧ Aside0 (slices_insertionSortOrdered_int.l1 kq x0_2 a1 a2 x6_1 x7_2 = some r) ∧ Aside0 (kq ≤ k1) ∧ Aside0 (Kd.R (Kd.int .i64) 3 w' w0.heap.size (fun k_ => (P0_ k_ ∨ w.heap.size ≤ k_)) u9000_ x0_2) ∧ Aside0 (Kept w w' (fun k_ => P0_ k_)) ∧ Aside0 (Below w0.heap.size w0 w'))
        case atStart => exact ⟨(x0_1), (x6_1), (by first | rfl | (simp; done) | (simp [*]; done)), H', ⟨Nat.le_refl _⟩, ⟨by (with_reducible repeat (first | apply Kd.R_alloc | apply Kd.R_drewN | apply Kd.R_drew)); exact HO_0.out⟩, ⟨by repeat (first | (with_reducible first | exact HK.out | apply Kept.alloc | apply Kept.drewN | apply Kept.drew) | exact HK.out)⟩, ⟨by repeat (first | (with_reducible first | exact HB.out | apply below_alloc | apply pw_below_drewN | apply below_drew1) | exact HB.out)⟩⟩
        case round =>
          clear H'
          try clear p2
          try clear c4
          try clear c4b0
          try clear p2
          obtain ⟨x0_2, x7_2, rfl, HA, HK2, HO_0, HK, HB⟩ := hrel
          cases gk with
          | zero => exact absurd HA.out (by simp [slices_insertionSortOrdered_int.l1])
          | succ k2 =>
            have H := HA.out
            clear HA
            simp only [slices_insertionSortOrdered_int.l1] at H
            by_cases c5 : x7_2 > a1
            · rw [if_pos c5] at H
              have c5b0 : decide (a1 < x7_2) = true := decide_eq_true c5
              clear c5
              by_cases c6 : 0 ≤ x7_2
              · rw [if_pos c6] at H
                have c6b0 : decide (0 ≤ x7_2) = true := decide_eq_true c6
                clear c6
                by_cases c7 : x7_2 < (x0_2.length : Int)
                · rw [if_pos c7] at H
                  have c7b0 : decide (x7_2 < (x0_2.length : Int)) = true := decide_eq_true c7
                  clear c7
                  obtain ⟨ji8, hji8⟩ : ∃ j_ : Int, (wrap64 (x7_2 - 1)) = j_ := ⟨_, rfl⟩
                  replace H : (if 0 ≤ (ji8) then (if (ji8) < (x0_2.length : Int) then ((cmp_Less_int.f (rd x0_2 x7_2) (rd x0_2 (ji8))).bind fun t105 => (if t105 = true then (slices_insertionSortOrdered_int.l1 k2 ((x0_2.set (x7_2 : Int).toNat (rd x0_2 (ji8))).set ((ji8) : Int).toNat (rd x0_2 x7_2)) a1 a2 x6_1 ji8) else (slices_insertionSortOrdered_int.l0 k2 x0_2 a1 a2 (wrap64 (x6_1 + 1))))) else (none)) else (none)) = some r := by first | (rw [hji8] at H; exact H) | (simp only [hji8] at H ⊢; exact H)
                  have hji8w : (IntKind.i64.wrap (x7_2 - 1)) = ji8 := (i64_w _).trans hji8
                  by_cases c9 : 0 ≤ (ji8)
                  · rw [if_pos c9] at H
                    have c9b0 : decide (0 ≤ (ji8)) = true := decide_eq_true c9
                    clear c9
                    by_cases c10 : (ji8) < (x0_2.length : Int)
                    · rw [if_pos c10] at H
                      have c10b0 : decide ((ji8) < (x0_2.length : Int)) = true := decide_eq_true c10
                      clear c10
                      replace H := Option.bind_eq_some_iff.mp H
                      obtain ⟨t105, A110, H⟩ := H
                      replace H : (if t105 = true then (slices_insertionSortOrdered_int.l1 k2 ((x0_2.set (x7_2 : Int).toNat (rd x0_2 (ji8))).set ((ji8) : Int).toNat (rd x0_2 x7_2)) a1 a2 x6_1 ji8) else (slices_insertionSortOrdered_int.l0 k2 x0_2 a1 a2 (wrap64 (x6_1 + 1)))) = some r := H
                      have A11 := Aside0.mk A110
                      clear A110
                      by_cases c12 : t105 = true
                      · subst c12
                        have H1 : (slices_insertionSortOrdered_int.l1 k2 ((x0_2.set (x7_2 : Int).toNat (rd x0_2 (ji8))).set ((ji8) : Int).toNat (rd x0_2 x7_2)) a1 a2 x6_1 ji8) = some r := by rw [if_pos rfl] at H; exact H
                        clear H
                        have H := H1
                        clear H1
                        obtain ⟨y108, hy108⟩ : ∃ y_ : List Int, y_ = (x0_2.set (x7_2 : Int).toNat (rd x0_2 (ji8))) := ⟨_, rfl⟩
                        replace H : (slices_insertionSortOrdered_int.l1 k2 (y108.set ((ji8) : Int).toNat (rd x0_2 x7_2)) a1 a2 x6_1 ji8) = some r := by first | (rw [hy108]; with_reducible exact H) | (have H2_ := (Option.bind_some _ _).symm.trans H; rw [hy108]; with_reducible exact H2_) | (have H2_ := (Option.bind_some _ _).symm.trans H; with_reducible exact H2_) | with_reducible exact H | (rw [hy108]; exact H) | exact H
                        have Ny108 := Aside0.mk hy108
                        clear hy108
                        obtain ⟨y109, hy109⟩ : ∃ y_ : List Int, y_ = (y108.set ((ji8) : Int).toNat (rd x0_2 x7_2)) := ⟨_, rfl⟩
                        replace H : (slices_insertionSortOrdered_int.l1 k2 y109 a1 a2 x6_1 ji8) = some r := by first | (rw [hy109]; with_reducible exact H) | (have H2_ := (Option.bind_some _ _).symm.trans H; rw [hy109]; with_reducible exact H2_) | (have H2_ := (Option.bind_some _ _).symm.trans H; with_reducible exact H2_) | with_reducible exact H | (rw [hy109]; exact H) | exact H
                        have Ny109 := Aside0.mk hy109
                        clear hy109
                        have H' := Aside0.mk H
                        clear H
                        try go_wp2
                        have n0_ := Aside0.mk (Kd.R_drew HO_0.out)
                        have n1_ := Aside0.mk (Kept.drew HK.out)
                        have n2_ := Aside0.mk (below_drew1 HB.out)
                        clear HO_0
                        clear HK
                        clear HB
                        have HO_0 := n0_
                        have HK := n1_
                        have HB := n2_
                        clear n0_ n1_ n2_
                        obtain ⟨Ao16, co16, eo16⟩ := Kd.R_slice HO_0.out
                        (first | subst eo16 | (injection eo16 with f1_ f2_ f3_; have f4_ := f1_.symm; have f5_ := f3_.symm; clear f1_ f2_ f3_; subst f4_; subst f5_))
                        have p103 : 0 ≤ (x7_2 : Int) := of_decide_eq_true (by first | (with_reducible assumption) | assumption)
                        have q103 : x7_2 < (x0_2.length : Int) := of_decide_eq_true (by first | (with_reducible assumption) | assumption)
                        obtain ⟨ad103, e103, hx103_0⟩ := Kd.at_int (Kd.R_reads' HO_0.out).2.2 x7_2 p103 q103
                        cases e103
                        replace p103 := eq_true p103
                        replace q103 := eq_true q103
                        have p104 : 0 ≤ ((ji8) : Int) := of_decide_eq_true (by first | (with_reducible assumption) | assumption)
                        have q104 : (ji8) < (x0_2.length : Int) := of_decide_eq_true (by first | (with_reducible assumption) | assumption)
                        obtain ⟨ad104, e104, hx104_0⟩ := Kd.at_int (Kd.R_reads' HO_0.out).2.2 (ji8) p104 q104
                        obtain rfl : ad103 = ad104 := (by injection e104)
                        replace p104 := eq_true p104
                        replace q104 := eq_true q104
                        refine start_ (n := 15) (S := fun w' => w'.cell? (ad103.add (x7_2).toNat) = some (.int .i64 (rd x0_2 x7_2)) ∧ w'.cell? (ad103.add ((ji8)).toNat) = some (.int .i64 (rd x0_2 (ji8)))) (ds := []) #[false, false, false, false, false, false, false, false, false, false, false, false, false, false, false] (by kernel_rfl) rfl rfl ⟨hx103_0, hx104_0⟩ (fun hHeld => ?_); refine with_tabW slices_insertionSortOrdered_int.tab4 slices_insertionSortOrdered_int.bits4 (fun HT_ HW_ => ?_)
                        generalize wr.drew = w15 at HO_0 HK HB hx103_0 hx104_0 hHeld ⊢
                        refine pure_ (i := 0) (N := some 16) (v := ?_) (a' := ?_) #[true, false, false, false, false, false, false, false, false, false, false, false, false, false, false] rfl rfl (any_of HT_.out (by kernel_rfl)) (fun _ _ _ h => h) (Or.inl ⟨by rfl, ?_⟩) ?_ ?_
                        rotate_left
                        · intro w'
                          go_simp
                          with_reducible rfl
                        rotate_left
                        · simp only [Act.put, List.setIfInBounds_toArray, List.set_cons_zero, List.set_cons_succ, i64_w, i32_w]
                          rfl
                        refine pure_ (i := 1) (N := some 17) (v := ?_) (a' := ?_) #[true, true, false, false, false, false, false, false, false, false, false, false, false, false, false] rfl rfl (any_of HT_.out (by kernel_rfl)) (fun _ _ _ h => h) (Or.inl ⟨by rfl, ?_⟩) ?_ ?_
                        rotate_left
                        · intro w'
                          go_simp
                          with_reducible rfl
                        rotate_left
                        · simp only [Act.put, List.setIfInBounds_toArray, List.set_cons_zero, List.set_cons_succ, i64_w, i32_w]
                          rfl
                        refine pure_ (i := 2) (N := some 18) (v := ?_) (a' := ?_) #[true, true, true, false, false, false, false, false, false, false, false, false, false, false, false] rfl rfl (any_of HT_.out (by kernel_rfl)) (fun _ _ _ h => h) (Or.inl ⟨by rfl, ?_⟩) ?_ ?_
                        rotate_left
                        · intro w'
                          go_simp
                          with_reducible rfl
                        rotate_left
                        · simp only [Act.put, List.setIfInBounds_toArray, List.set_cons_zero, List.set_cons_succ, i64_w, i32_w]
                          rfl
                        refine pure_ (i := 3) (N := some 19) (v := ?_) (a' := ?_) #[true, true, true, true, false, false, false, false, false, false, false, false, false, false, false] rfl rfl (any_of HT_.out (by kernel_rfl)) (fun _ _ _ h => h) (Or.inl ⟨by rfl, ?_⟩) ?_ ?_
                        rotate_left
                        · intro w'
                          go_simp
                          with_reducible rfl
                        rotate_left
                        · simp only [Act.put, List.setIfInBounds_toArray, List.set_cons_zero, List.set_cons_succ, i64_w, i32_w]
                          rfl
                        refine pure_ (i := 4) (N := some 20) (v := ?_) (a' := ?_) #[true, true, true, true, true, false, false, false, false, false, false, false, false, false, false] rfl rfl (any_of HT_.out (by kernel_rfl)) (fun _ _ _ h => h) (Or.inl ⟨by rfl, ?_⟩) ?_ ?_
                        rotate_left
                        · intro w'
                          go_simp
                          with_reducible rfl
                        rotate_left
                        · simp only [Act.put, List.setIfInBounds_toArray, List.set_cons_zero, List.set_cons_succ, i64_w, i32_w]
                          rfl
                        refine pure_ (i := 5) (N := some 21) (v := ?_) (a' := ?_) #[true, true, true, true, true, true, false, false, false, false, false, false, false, false, false] rfl rfl (any_of HT_.out (by kernel_rfl)) (fun _ _ _ h => h) (Or.inl ⟨by rfl, ?_⟩) ?_ ?_
                        rotate_left
                        · intro w'
                          go_simp
                          with_reducible rfl
                        rotate_left
                        · simp only [Act.put, List.setIfInBounds_toArray, List.set_cons_zero, List.set_cons_succ, i64_w, i32_w]
                          rfl
                        refine pure_ (i := 6) (N := some 22) (v := ?_) (a' := ?_) #[true, true, true, true, true, true, true, false, false, false, false, false, false, false, false] rfl rfl (any_of HT_.out (by kernel_rfl)) (fun _ _ _ h => h) (Or.inl ⟨by rfl, ?_⟩) ?_ ?_
                        rotate_left
                        · intro w'
                          go_simp
                          with_reducible rfl
                        rotate_left
                        · simp only [Act.put, List.setIfInBounds_toArray, List.set_cons_zero, List.set_cons_succ, i64_w, i32_w]
                          rfl
                        refine pure_ (i := 8) (N := some 24) (v := ?_) (a' := ?_) #[true, true, true, true, true, true, true, false, true, false, false, false, false, false, false] rfl rfl (any_of HT_.out (by kernel_rfl)) (fun _ _ _ h => h) (Or.inl ⟨by rfl, ?_⟩) ?_ ?_
                        rotate_left
                        · intro w'
                          go_simp
                          with_reducible rfl
                        rotate_left
                        · simp only [Act.put, List.setIfInBounds_toArray, List.set_cons_zero, List.set_cons_succ, i64_w, i32_w]
                          rfl
                        refine pure_ (i := 9) (N := some 25) (v := ?_) (a' := ?_) #[true, true, true, true, true, true, true, false, true, true, false, false, false, false, false] rfl rfl (any_of HT_.out (by kernel_rfl)) (fun _ _ _ h => h) (Or.inl ⟨by rfl, ?_⟩) ?_ ?_
                        rotate_left
                        · intro w'
                          go_simp
                          with_reducible rfl
                        rotate_left
                        · simp only [Act.put, List.setIfInBounds_toArray, List.set_cons_zero, List.set_cons_succ, i64_w, i32_w]
                          rfl
                        refine pure_ (i := 10) (N := some 26) (v := ?_) (a' := ?_) #[true, true, true, true, true, true, true, false, true, true, true, false, false, false, false] rfl rfl (any_of HT_.out (by kernel_rfl)) (fun _ _ _ h => h) (Or.inl ⟨by rfl, ?_⟩) ?_ ?_
                        rotate_left
                        · intro w'
                          go_simp
                          with_reducible rfl
                        rotate_left
                        · simp only [Act.put, List.setIfInBounds_toArray, List.set_cons_zero, List.set_cons_succ, i64_w, i32_w]
                          rfl
                        refine pure_ (i := 11) (N := some 27) (v := ?_) (a' := ?_) #[true, true, true, true, true, true, true, false, true, true, true, true, false, false, false] rfl rfl (any_of HT_.out (by kernel_rfl)) (fun _ _ _ h => h) (Or.inl ⟨by rfl, ?_⟩) ?_ ?_
                        rotate_left
                        · intro w'
                          go_simp
                          with_reducible rfl
                        rotate_left
                        · simp only [Act.put, List.setIfInBounds_toArray, List.set_cons_zero, List.set_cons_succ, i64_w, i32_w]
                          rfl
                        refine take_ (i := 7) (N := some 23) (v := ?_) (a' := ?_) #[true, true, true, true, true, true, true, true, true, true, true, true, false, false, false] rfl rfl (take_ofW HT_.out HW_.out (by kernel_rfl)) (fun _ _ _ h => h) (Or.inl ⟨by rfl, ?_⟩) hHeld ?_ ?_
                        rotate_left
                        · rintro w' ⟨s0, s1⟩
                          go_simp
                          with_reducible rfl
                        rotate_left
                        · simp only [Act.put, List.setIfInBounds_toArray, List.set_cons_zero, List.set_cons_succ, i64_w, i32_w]
                          rfl
                        refine take_ (i := 12) (N := some 28) (v := ?_) (a' := ?_) #[true, true, true, true, true, true, true, true, true, true, true, true, true, false, false] rfl rfl (take_ofW HT_.out HW_.out (by kernel_rfl)) (fun _ _ _ h => h) (Or.inl ⟨by rfl, ?_⟩) hHeld ?_ ?_
                        rotate_left
                        · rintro w' ⟨s0, s1⟩
                          go_simp
                          with_reducible rfl
                        rotate_left
                        · simp only [Act.put, List.setIfInBounds_toArray, List.set_cons_zero, List.set_cons_succ, i64_w, i32_w]
                          rfl
                        refine one_ (i := 13) (N := some 29) #[true, true, true, true, true, true, true, true, true, true, true, true, true, true, false] rfl rfl (one_of HT_.out (by kernel_rfl)) (by decide) (fun K hK => ?_)
                        refine goes_ Try.func100 (by kernel_rfl) rfl #[.int .i64 (rd x0_2 x7_2), .int .i64 (rd x0_2 (ji8))] (by rfl) rfl rfl (by (try simp only [List.map_toArray, List.map_cons, List.map_nil]); first | done | (simp only [hji8]; rfl) | rfl | (simp only [List.length_drop, List.length_take]; rfl)) ?_
                        with_reducible refine (cmp_Less_int.calls (rd x0_2 x7_2) (rd x0_2 (ji8)) true _ A11.out).mono ?_
                        rintro e w' ⟨rfl, ⟨nd, rfl⟩⟩
                        refine ⟨_, rfl, ?_⟩
                        refine hK.out _ _ ⟨hHeld.1, hHeld.2⟩ (fun hHeld => ?_)
                        clear hK K
                        refine norm_ (a' := ?_) ?_ ?_
                        rotate_left
                        · show Act.put _ (some 29) _ = _
                          simp only [Act.put, List.setIfInBounds_toArray, List.set_cons_zero, List.set_cons_succ, i64_w, i32_w]
                          rfl
                        refine pure_ (i := 14) (N := some 30) (v := ?_) (a' := ?_) #[true, true, true, true, true, true, true, true, true, true, true, true, true, true, true] rfl rfl (any_of HT_.out (by kernel_rfl)) (fun _ _ _ h => h) (Or.inl ⟨by rfl, ?_⟩) ?_ ?_
                        rotate_left
                        · intro w'
                          go_simp
                          with_reducible rfl
                        rotate_left
                        · simp only [Act.put, List.setIfInBounds_toArray, List.set_cons_zero, List.set_cons_succ, i64_w, i32_w]
                          rfl
                        refine done_ (done_of HT_.out (by kernel_rfl)) ?_
                        try go_wp2
                        (try (rw [drewN_self w15]; generalize hq_ : World.drewN w15 _ = w15; have n0_ : Aside0 (Kd.R (Kd.int .i64) 3 w15 w0.heap.size (fun k_ => (P0_ k_ ∨ w.heap.size ≤ k_)) (.slice (some ad103) x0_2.length co16) x0_2) := ⟨by rw [← hq_]; exact (by (with_reducible repeat (first | apply Kd.R_alloc | apply Kd.R_drewN | apply Kd.R_drew)); exact HO_0.out)⟩; have n1_ : Aside0 (Kept w w15 (fun k_ => P0_ k_)) := ⟨by rw [← hq_]; exact (by repeat (first | (with_reducible first | exact HK.out | apply Kept.alloc | apply Kept.drewN | apply Kept.drew) | exact HK.out))⟩; have n2_ : Aside0 (Below w0.heap.size w0 w15) := ⟨by rw [← hq_]; exact (by repeat (first | (with_reducible first | exact HB.out | apply below_alloc | apply pw_below_drewN | apply below_drew1) | exact HB.out))⟩; clear HO_0 HK HB hq_; have HO_0 := n0_; have HK := n1_; have HB := n2_; clear n0_ n1_ n2_))
                        have n0_ := Aside0.mk (Kd.R_drew HO_0.out)
                        have n1_ := Aside0.mk (Kept.drew HK.out)
                        have n2_ := Aside0.mk (below_drew1 HB.out)
                        clear HO_0
                        clear HK
                        clear HB
                        have HO_0 := n0_
                        have HK := n1_
                        have HB := n2_
                        clear n0_ n1_ n2_
                        have p106 : 0 ≤ ((ji8) : Int) := of_decide_eq_true (by first | (with_reducible assumption) | assumption)
                        have q106 : (ji8) < (x0_2.length : Int) := of_decide_eq_true (by first | (with_reducible assumption) | assumption)
                        obtain ⟨ad106, e106, hx106_0⟩ := Kd.at_int (Kd.R_reads' HO_0.out).2.2 (ji8) p106 q106
                        obtain rfl : ad103 = ad106 := (by injection e106)
                        replace p106 := eq_true p106
                        replace q106 := eq_true q106
                        have p107 : 0 ≤ (x7_2 : Int) := of_decide_eq_true (by first | (with_reducible assumption) | assumption)
                        have q107 : x7_2 < (x0_2.length : Int) := of_decide_eq_true (by first | (with_reducible assumption) | assumption)
                        obtain ⟨ad107, e107, hx107_0⟩ := Kd.at_int (Kd.R_reads' HO_0.out).2.2 x7_2 p107 q107
                        obtain rfl : ad103 = ad107 := (by injection e107)
                        replace p107 := eq_true p107
                        replace q107 := eq_true q107
                        have p13 : 0 ≤ (x7_2 : Int) := of_decide_eq_true (by first | (with_reducible assumption) | assumption)
                        have q13 : (x7_2 : Int) < ((x0_2.length : Int) : Int) := of_decide_eq_true (by first | (with_reducible assumption) | assumption)
                        obtain ⟨go13, co13, eo13, gb13, gl13, cl13, HG13⟩ := Kd.R_form HO_0.out (by omega)
                        (first | cases eo13 | (injection eo13 with ea_ en_ ec_; (first | subst ea_ | (injection ea_ with ea_; subst ea_)); subst ec_; clear en_))
                        have GB13 := Aside0.mk gb13
                        have GG13 := Aside0.mk HG13
                        clear gb13 gl13 HG13
                        have HMgo13 := Aside0.mk (show (P0_ go13 ∨ w.heap.size ≤ go13) from (HO_0.out.1 _ rfl))
                        (first | simp only [add_plain] at hx103_0 | skip)
                        (first | simp only [add_plain] at hx104_0 | skip)
                        (first | simp only [add_plain] at hx106_0 | skip)
                        (first | simp only [add_plain] at hx107_0 | skip)
                        obtain ⟨hx13_0, hf13_0⟩ := Kd.R_celln 0 HO_0.out (x7_2 : Int) p13 q13
                        replace p13 := eq_true p13
                        replace q13 := eq_true q13
                        have HP18 := Kd.R_putn HO_0.out (x7_2 : Int) (rd x0_2 (ji8))
                        rw [← Ny108.out] at HP18
                        have HQ18 := Aside0.mk HP18
                        clear HP18
                        have p14 : 0 ≤ ((ji8) : Int) := of_decide_eq_true (by first | (with_reducible assumption) | assumption)
                        have q14 : ((ji8) : Int) < ((x0_2.length : Int) : Int) := of_decide_eq_true (by first | (with_reducible assumption) | assumption)
                        obtain ⟨hx14_0, hf14_0⟩ := Kd.R_celln 0 HQ18.out ((ji8) : Int) p14 q14
                        replace p14 := eq_true p14
                        replace q14 := eq_true q14
                        have HP19 := Kd.R_putn HQ18.out ((ji8) : Int) (rd x0_2 x7_2)
                        rw [← Ny109.out] at HP19
                        have HQ19 := Aside0.mk HP19
                        clear HP19
                        refine start_ (n := 18) (S := fun w' => w'.cell? ⟨go13, ((ji8)).toNat, none⟩ = some (.int .i64 (rd x0_2 (ji8))) ∧ w'.cell? ⟨go13, (x7_2).toNat, none⟩ = some (.int .i64 (rd x0_2 x7_2))) (ds := [15, 17]) #[false, false, false, false, false, false, false, false, false, false, false, false, false, false, false, false, false, false] (by kernel_rfl) rfl rfl ⟨hx106_0, hx107_0⟩ (fun hHeld => ?_); refine with_tabW slices_insertionSortOrdered_int.tab6 slices_insertionSortOrdered_int.bits6 (fun HT_ HW_ => ?_)
                        generalize w15.drew = w17 at HO_0 HK HB GG13 HQ18 HQ19 hf13_0 hf14_0 hx103_0 hx104_0 hx106_0 hx107_0 hx13_0 hx14_0 hHeld ⊢
                        refine pure_ (i := 0) (N := some 33) (v := ?_) (a' := ?_) #[true, false, false, false, false, false, false, false, false, false, false, false, false, false, false, false, false, false] rfl rfl (any_of HT_.out (by kernel_rfl)) (fun _ _ _ h => h) (Or.inl ⟨by rfl, ?_⟩) ?_ ?_
                        rotate_left
                        · intro w'
                          go_simp
                          with_reducible rfl
                        rotate_left
                        · simp only [Act.put, List.setIfInBounds_toArray, List.set_cons_zero, List.set_cons_succ, i64_w, i32_w]
                          rfl
                        refine pure_ (i := 1) (N := some 34) (v := ?_) (a' := ?_) #[true, true, false, false, false, false, false, false, false, false, false, false, false, false, false, false, false, false] rfl rfl (any_of HT_.out (by kernel_rfl)) (fun _ _ _ h => h) (Or.inl ⟨by rfl, ?_⟩) ?_ ?_
                        rotate_left
                        · intro w'
                          go_simp
                          with_reducible rfl
                        rotate_left
                        · simp only [Act.put, List.setIfInBounds_toArray, List.set_cons_zero, List.set_cons_succ, i64_w, i32_w]
                          rfl
                        refine pure_ (i := 2) (N := some 35) (v := ?_) (a' := ?_) #[true, true, true, false, false, false, false, false, false, false, false, false, false, false, false, false, false, false] rfl rfl (any_of HT_.out (by kernel_rfl)) (fun _ _ _ h => h) (Or.inl ⟨by rfl, ?_⟩) ?_ ?_
                        rotate_left
                        · intro w'
                          go_simp
                          with_reducible rfl
                        rotate_left
                        · simp only [Act.put, List.setIfInBounds_toArray, List.set_cons_zero, List.set_cons_succ, i64_w, i32_w]
                          rfl
                        refine pure_ (i := 3) (N := some 36) (v := ?_) (a' := ?_) #[true, true, true, true, false, false, false, false, false, false, false, false, false, false, false, false, false, false] rfl rfl (any_of HT_.out (by kernel_rfl)) (fun _ _ _ h => h) (Or.inl ⟨by rfl, ?_⟩) ?_ ?_
                        rotate_left
                        · intro w'
                          go_simp
                          with_reducible rfl
                        rotate_left
                        · simp only [Act.put, List.setIfInBounds_toArray, List.set_cons_zero, List.set_cons_succ, i64_w, i32_w]
                          rfl
                        refine pure_ (i := 4) (N := some 37) (v := ?_) (a' := ?_) #[true, true, true, true, true, false, false, false, false, false, false, false, false, false, false, false, false, false] rfl rfl (any_of HT_.out (by kernel_rfl)) (fun _ _ _ h => h) (Or.inl ⟨by rfl, ?_⟩) ?_ ?_
                        rotate_left
                        · intro w'
                          go_simp
                          with_reducible rfl
                        rotate_left
                        · simp only [Act.put, List.setIfInBounds_toArray, List.set_cons_zero, List.set_cons_succ, i64_w, i32_w]
                          rfl
                        refine pure_ (i := 5) (N := some 38) (v := ?_) (a' := ?_) #[true, true, true, true, true, true, false, false, false, false, false, false, false, false, false, false, false, false] rfl rfl (any_of HT_.out (by kernel_rfl)) (fun _ _ _ h => h) (Or.inl ⟨by rfl, ?_⟩) ?_ ?_
                        rotate_left
                        · intro w'
                          go_simp
                          with_reducible rfl
                        rotate_left
                        · simp only [Act.put, List.setIfInBounds_toArray, List.set_cons_zero, List.set_cons_succ, i64_w, i32_w]
                          rfl
                        refine pure_ (i := 6) (N := some 39) (v := ?_) (a' := ?_) #[true, true, true, true, true, true, true, false, false, false, false, false, false, false, false, false, false, false] rfl rfl (any_of HT_.out (by kernel_rfl)) (fun _ _ _ h => h) (Or.inl ⟨by rfl, ?_⟩) ?_ ?_
                        rotate_left
                        · intro w'
                          go_simp
                          with_reducible rfl
                        rotate_left
                        · simp only [Act.put, List.setIfInBounds_toArray, List.set_cons_zero, List.set_cons_succ, i64_w, i32_w]
                          rfl
                        refine pure_ (i := 7) (N := some 40) (v := ?_) (a' := ?_) #[true, true, true, true, true, true, true, true, false, false, false, false, false, false, false, false, false, false] rfl rfl (any_of HT_.out (by kernel_rfl)) (fun _ _ _ h => h) (Or.inl ⟨by rfl, ?_⟩) ?_ ?_
                        rotate_left
                        · intro w'
                          go_simp
                          with_reducible rfl
                        rotate_left
                        · simp only [Act.put, List.setIfInBounds_toArray, List.set_cons_zero, List.set_cons_succ, i64_w, i32_w]
                          rfl
                        refine pure_ (i := 8) (N := some 41) (v := ?_) (a' := ?_) #[true, true, true, true, true, true, true, true, true, false, false, false, false, false, false, false, false, false] rfl rfl (any_of HT_.out (by kernel_rfl)) (fun _ _ _ h => h) (Or.inl ⟨by rfl, ?_⟩) ?_ ?_
                        rotate_left
                        · intro w'
                          go_simp
                          with_reducible rfl
                        rotate_left
                        · simp only [Act.put, List.setIfInBounds_toArray, List.set_cons_zero, List.set_cons_succ, i64_w, i32_w]
                          rfl
                        refine pure_ (i := 10) (N := some 43) (v := ?_) (a' := ?_) #[true, true, true, true, true, true, true, true, true, false, true, false, false, false, false, false, false, false] rfl rfl (any_of HT_.out (by kernel_rfl)) (fun _ _ _ h => h) (Or.inl ⟨by rfl, ?_⟩) ?_ ?_
                        rotate_left
                        · intro w'
                          go_simp
                          with_reducible rfl
                        rotate_left
                        · simp only [Act.put, List.setIfInBounds_toArray, List.set_cons_zero, List.set_cons_succ, i64_w, i32_w]
                          rfl
                        refine pure_ (i := 11) (N := some 44) (v := ?_) (a' := ?_) #[true, true, true, true, true, true, true, true, true, false, true, true, false, false, false, false, false, false] rfl rfl (any_of HT_.out (by kernel_rfl)) (fun _ _ _ h => h) (Or.inl ⟨by rfl, ?_⟩) ?_ ?_
                        rotate_left
                        · intro w'
                          go_simp
                          with_reducible rfl
                        rotate_left
                        · simp only [Act.put, List.setIfInBounds_toArray, List.set_cons_zero, List.set_cons_succ, i64_w, i32_w]
                          rfl
                        refine pure_ (i := 12) (N := some 45) (v := ?_) (a' := ?_) #[true, true, true, true, true, true, true, true, true, false, true, true, true, false, false, false, false, false] rfl rfl (any_of HT_.out (by kernel_rfl)) (fun _ _ _ h => h) (Or.inl ⟨by rfl, ?_⟩) ?_ ?_
                        rotate_left
                        · intro w'
                          go_simp
                          with_reducible rfl
                        rotate_left
                        · simp only [Act.put, List.setIfInBounds_toArray, List.set_cons_zero, List.set_cons_succ, i64_w, i32_w]
                          rfl
                        refine take_ (i := 9) (N := some 42) (v := ?_) (a' := ?_) #[true, true, true, true, true, true, true, true, true, true, true, true, true, false, false, false, false, false] rfl rfl (take_ofW HT_.out HW_.out (by kernel_rfl)) (fun _ _ _ h => h) (Or.inl ⟨by rfl, ?_⟩) hHeld ?_ ?_
                        rotate_left
                        · rintro w' ⟨s0, s1⟩
                          go_simp
                          with_reducible rfl
                        rotate_left
                        · simp only [Act.put, List.setIfInBounds_toArray, List.set_cons_zero, List.set_cons_succ, i64_w, i32_w]
                          rfl
                        refine take_ (i := 13) (N := some 46) (v := ?_) (a' := ?_) #[true, true, true, true, true, true, true, true, true, true, true, true, true, true, false, false, false, false] rfl rfl (take_ofW HT_.out HW_.out (by kernel_rfl)) (fun _ _ _ h => h) (Or.inl ⟨by rfl, ?_⟩) hHeld ?_ ?_
                        rotate_left
                        · rintro w' ⟨s0, s1⟩
                          go_simp
                          with_reducible rfl
                        rotate_left
                        · simp only [Act.put, List.setIfInBounds_toArray, List.set_cons_zero, List.set_cons_succ, i64_w, i32_w]
                          rfl
                        refine pure_ (i := 14) (N := some 47) (v := ?_) (a' := ?_) #[true, true, true, true, true, true, true, true, true, true, true, true, true, true, true, false, false, false] rfl rfl (any_of HT_.out (by kernel_rfl)) (fun _ _ _ h => h) (Or.inl ⟨by rfl, ?_⟩) ?_ ?_
                        rotate_left
                        · intro w'
                          go_simp
                          with_reducible rfl
                        rotate_left
                        · simp only [Act.put, List.setIfInBounds_toArray, List.set_cons_zero, List.set_cons_succ, i64_w, i32_w]
                          rfl
                        refine last_ (i := 15) (N := none) #[true, true, true, true, true, true, true, true, true, true, true, true, true, true, true, true, false, false] rfl rfl (one_of HT_.out (by kernel_rfl)) (by decide) (fun K hK => ?_)
                        refine skip_ (w1 := ?_) (by rfl) rfl ?_ ?_
                        rotate_left
                        · go_simp
                          rfl
                        refine hK.out _ _ ?_
                        clear hK K
                        refine pure_ (i := 16) (N := some 48) (v := ?_) (a' := ?_) #[true, true, true, true, true, true, true, true, true, true, true, true, true, true, true, true, true, false] rfl rfl (any_of HT_.out (by kernel_rfl)) (fun _ _ _ h => h) (Or.inl ⟨by rfl, ?_⟩) ?_ ?_
                        rotate_left
                        · intro w'
                          go_simp
                          with_reducible rfl
                        rotate_left
                        · simp only [Act.put, List.setIfInBounds_toArray, List.set_cons_zero, List.set_cons_succ, i64_w, i32_w]
                          rfl
                        refine last_ (i := 17) (N := none) #[true, true, true, true, true, true, true, true, true, true, true, true, true, true, true, true, true, true] rfl rfl (one_of HT_.out (by kernel_rfl)) (by decide) (fun K hK => ?_)
                        refine skip_ (w1 := ?_) (by rfl) rfl ?_ ?_
                        rotate_left
                        · go_simp
                          rfl
                        refine hK.out _ _ ?_
                        clear hK K
                        refine done_ (done_of HT_.out (by kernel_rfl)) ?_
                        try go_wp2
                        go_roundg k2
                        case measure => have := HK1.out; have := HK2.out; omega
                        case rel => exact ⟨(y109), (ji8), (by first | rfl | (simp; done) | (simp only [← hji8] <;> (first | rfl | simp)) | (simp [*]; done)), H', ⟨by have := HK1.out; have := HK2.out; omega⟩, ⟨by (with_reducible repeat (first | apply Kd.R_alloc | apply Kd.R_drewN | apply Kd.R_drew)); exact HQ19.out⟩, ⟨by repeat (first | (with_reducible first | exact HK.out | apply Kept.alloc | apply Kept.drewN | apply Kept.drew | refine Kept.setCell ?_ HMgo13.out _ | refine Kept.setCell ?_ HMgo13.out _) | exact HK.out)⟩, ⟨by repeat (first | (with_reducible first | exact HB.out | apply below_alloc | apply pw_below_drewN | apply below_drew1 | refine below_set ?_ GB13.out | refine below_set ?_ GB13.out) | exact HB.out)⟩⟩
                      · replace c12 := Bool.eq_false_iff.mpr c12
                        subst c12
                        have H1 : (slices_insertionSortOrdered_int.l0 k2 x0_2 a1 a2 (wrap64 (x6_1 + 1))) = some r := by rw [if_neg (show ¬ (false = true) by decide)] at H; exact H
                        clear H
                        have H := H1
                        clear H1
                        have H' := Aside0.mk H
                        clear H
                        try go_wp2
                        have n0_ := Aside0.mk (Kd.R_drew HO_0.out)
                        have n1_ := Aside0.mk (Kept.drew HK.out)
                        have n2_ := Aside0.mk (below_drew1 HB.out)
                        clear HO_0
                        clear HK
                        clear HB
                        have HO_0 := n0_
                        have HK := n1_
                        have HB := n2_
                        clear n0_ n1_ n2_
                        obtain ⟨Ao21, co21, eo21⟩ := Kd.R_slice HO_0.out
                        (first | subst eo21 | (injection eo21 with f1_ f2_ f3_; have f4_ := f1_.symm; have f5_ := f3_.symm; clear f1_ f2_ f3_; subst f4_; subst f5_))
                        have p103 : 0 ≤ (x7_2 : Int) := of_decide_eq_true (by first | (with_reducible assumption) | assumption)
                        have q103 : x7_2 < (x0_2.length : Int) := of_decide_eq_true (by first | (with_reducible assumption) | assumption)
                        obtain ⟨ad103, e103, hx103_0⟩ := Kd.at_int (Kd.R_reads' HO_0.out).2.2 x7_2 p103 q103
                        cases e103
                        replace p103 := eq_true p103
                        replace q103 := eq_true q103
                        have p104 : 0 ≤ ((ji8) : Int) := of_decide_eq_true (by first | (with_reducible assumption) | assumption)
                        have q104 : (ji8) < (x0_2.length : Int) := of_decide_eq_true (by first | (with_reducible assumption) | assumption)
                        obtain ⟨ad104, e104, hx104_0⟩ := Kd.at_int (Kd.R_reads' HO_0.out).2.2 (ji8) p104 q104
                        obtain rfl : ad103 = ad104 := (by injection e104)
                        replace p104 := eq_true p104
                        replace q104 := eq_true q104
                        refine start_ (n := 15) (S := fun w' => w'.cell? (ad103.add (x7_2).toNat) = some (.int .i64 (rd x0_2 x7_2)) ∧ w'.cell? (ad103.add ((ji8)).toNat) = some (.int .i64 (rd x0_2 (ji8)))) (ds := []) #[false, false, false, false, false, false, false, false, false, false, false, false, false, false, false] (by kernel_rfl) rfl rfl ⟨hx103_0, hx104_0⟩ (fun hHeld => ?_); refine with_tabW slices_insertionSortOrdered_int.tab4 slices_insertionSortOrdered_int.bits4 (fun HT_ HW_ => ?_)
                        generalize wr.drew = w20 at HO_0 HK HB hx103_0 hx104_0 hHeld ⊢
                        refine pure_ (i := 0) (N := some 16) (v := ?_) (a' := ?_) #[true, false, false, false, false, false, false, false, false, false, false, false, false, false, false] rfl rfl (any_of HT_.out (by kernel_rfl)) (fun _ _ _ h => h) (Or.inl ⟨by rfl, ?_⟩) ?_ ?_
                        rotate_left
                        · intro w'
                          go_simp
                          with_reducible rfl
                        rotate_left
                        · simp only [Act.put, List.setIfInBounds_toArray, List.set_cons_zero, List.set_cons_succ, i64_w, i32_w]
                          rfl
                        refine pure_ (i := 1) (N := some 17) (v := ?_) (a' := ?_) #[true, true, false, false, false, false, false, false, false, false, false, false, false, false, false] rfl rfl (any_of HT_.out (by kernel_rfl)) (fun _ _ _ h => h) (Or.inl ⟨by rfl, ?_⟩) ?_ ?_
                        rotate_left
                        · intro w'
                          go_simp
                          with_reducible rfl
                        rotate_left
                        · simp only [Act.put, List.setIfInBounds_toArray, List.set_cons_zero, List.set_cons_succ, i64_w, i32_w]
                          rfl
                        refine pure_ (i := 2) (N := some 18) (v := ?_) (a' := ?_) #[true, true, true, false, false, false, false, false, false, false, false, false, false, false, false] rfl rfl (any_of HT_.out (by kernel_rfl)) (fun _ _ _ h => h) (Or.inl ⟨by rfl, ?_⟩) ?_ ?_
                        rotate_left
                        · intro w'
                          go_simp
                          with_reducible rfl
                        rotate_left
                        · simp only [Act.put, List.setIfInBounds_toArray, List.set_cons_zero, List.set_cons_succ, i64_w, i32_w]
                          rfl
                        refine pure_ (i := 3) (N := some 19) (v := ?_) (a' := ?_) #[true, true, true, true, false, false, false, false, false, false, false, false, false, false, false] rfl rfl (any_of HT_.out (by kernel_rfl)) (fun _ _ _ h => h) (Or.inl ⟨by rfl, ?_⟩) ?_ ?_
                        rotate_left
                        · intro w'
                          go_simp
                          with_reducible rfl
                        rotate_left
                        · simp only [Act.put, List.setIfInBounds_toArray, List.set_cons_zero, List.set_cons_succ, i64_w, i32_w]
                          rfl
                        refine pure_ (i := 4) (N := some 20) (v := ?_) (a' := ?_) #[true, true, true, true, true, false, false, false, false, false, false, false, false, false, false] rfl rfl (any_of HT_.out (by kernel_rfl)) (fun _ _ _ h => h) (Or.inl ⟨by rfl, ?_⟩) ?_ ?_
                        rotate_left
                        · intro w'
                          go_simp
                          with_reducible rfl
                        rotate_left
                        · simp only [Act.put, List.setIfInBounds_toArray, List.set_cons_zero, List.set_cons_succ, i64_w, i32_w]
                          rfl
                        refine pure_ (i := 5) (N := some 21) (v := ?_) (a' := ?_) #[true, true, true, true, true, true, false, false, false, false, false, false, false, false, false] rfl rfl (any_of HT_.out (by kernel_rfl)) (fun _ _ _ h => h) (Or.inl ⟨by rfl, ?_⟩) ?_ ?_
                        rotate_left
                        · intro w'
                          go_simp
                          with_reducible rfl
                        rotate_left
                        · simp only [Act.put, List.setIfInBounds_toArray, List.set_cons_zero, List.set_cons_succ, i64_w, i32_w]
                          rfl
                        refine pure_ (i := 6) (N := some 22) (v := ?_) (a' := ?_) #[true, true, true, true, true, true, true, false, false, false, false, false, false, false, false] rfl rfl (any_of HT_.out (by kernel_rfl)) (fun _ _ _ h => h) (Or.inl ⟨by rfl, ?_⟩) ?_ ?_
                        rotate_left
                        · intro w'
                          go_simp
                          with_reducible rfl
                        rotate_left
                        · simp only [Act.put, List.setIfInBounds_toArray, List.set_cons_zero, List.set_cons_succ, i64_w, i32_w]
                          rfl
                        refine pure_ (i := 8) (N := some 24) (v := ?_) (a' := ?_) #[true, true, true, true, true, true, true, false, true, false, false, false, false, false, false] rfl rfl (any_of HT_.out (by kernel_rfl)) (fun _ _ _ h => h) (Or.inl ⟨by rfl, ?_⟩) ?_ ?_
                        rotate_left
                        · intro w'
                          go_simp
                          with_reducible rfl
                        rotate_left
                        · simp only [Act.put, List.setIfInBounds_toArray, List.set_cons_zero, List.set_cons_succ, i64_w, i32_w]
                          rfl
                        refine pure_ (i := 9) (N := some 25) (v := ?_) (a' := ?_) #[true, true, true, true, true, true, true, false, true, true, false, false, false, false, false] rfl rfl (any_of HT_.out (by kernel_rfl)) (fun _ _ _ h => h) (Or.inl ⟨by rfl, ?_⟩) ?_ ?_
                        rotate_left
                        · intro w'
                          go_simp
                          with_reducible rfl
                        rotate_left
                        · simp only [Act.put, List.setIfInBounds_toArray, List.set_cons_zero, List.set_cons_succ, i64_w, i32_w]
                          rfl
                        refine pure_ (i := 10) (N := some 26) (v := ?_) (a' := ?_) #[true, true, true, true, true, true, true, false, true, true, true, false, false, false, false] rfl rfl (any_of HT_.out (by kernel_rfl)) (fun _ _ _ h => h) (Or.inl ⟨by rfl, ?_⟩) ?_ ?_
                        rotate_left
                        · intro w'
                          go_simp
                          with_reducible rfl
                        rotate_left
                        · simp only [Act.put, List.setIfInBounds_toArray, List.set_cons_zero, List.set_cons_succ, i64_w, i32_w]
                          rfl
                        refine pure_ (i := 11) (N := some 27) (v := ?_) (a' := ?_) #[true, true, true, true, true, true, true, false, true, true, true, true, false, false, false] rfl rfl (any_of HT_.out (by kernel_rfl)) (fun _ _ _ h => h) (Or.inl ⟨by rfl, ?_⟩) ?_ ?_
                        rotate_left
                        · intro w'
                          go_simp
                          with_reducible rfl
                        rotate_left
                        · simp only [Act.put, List.setIfInBounds_toArray, List.set_cons_zero, List.set_cons_succ, i64_w, i32_w]
                          rfl
                        refine take_ (i := 7) (N := some 23) (v := ?_) (a' := ?_) #[true, true, true, true, true, true, true, true, true, true, true, true, false, false, false] rfl rfl (take_ofW HT_.out HW_.out (by kernel_rfl)) (fun _ _ _ h => h) (Or.inl ⟨by rfl, ?_⟩) hHeld ?_ ?_
                        rotate_left
                        · rintro w' ⟨s0, s1⟩
                          go_simp
                          with_reducible rfl
                        rotate_left
                        · simp only [Act.put, List.setIfInBounds_toArray, List.set_cons_zero, List.set_cons_succ, i64_w, i32_w]
                          rfl
                        refine take_ (i := 12) (N := some 28) (v := ?_) (a' := ?_) #[true, true, true, true, true, true, true, true, true, true, true, true, true, false, false] rfl rfl (take_ofW HT_.out HW_.out (by kernel_rfl)) (fun _ _ _ h => h) (Or.inl ⟨by rfl, ?_⟩) hHeld ?_ ?_
                        rotate_left
                        · rintro w' ⟨s0, s1⟩
                          go_simp
                          with_reducible rfl
                        rotate_left
                        · simp only [Act.put, List.setIfInBounds_toArray, List.set_cons_zero, List.set_cons_succ, i64_w, i32_w]
                          rfl
                        refine one_ (i := 13) (N := some 29) #[true, true, true, true, true, true, true, true, true, true, true, true, true, true, false] rfl rfl (one_of HT_.out (by kernel_rfl)) (by decide) (fun K hK => ?_)
                        refine goes_ Try.func100 (by kernel_rfl) rfl #[.int .i64 (rd x0_2 x7_2), .int .i64 (rd x0_2 (ji8))] (by rfl) rfl rfl (by (try simp only [List.map_toArray, List.map_cons, List.map_nil]); first | done | (simp only [hji8]; rfl) | rfl | (simp only [List.length_drop, List.length_take]; rfl)) ?_
                        with_reducible refine (cmp_Less_int.calls (rd x0_2 x7_2) (rd x0_2 (ji8)) false _ A11.out).mono ?_
                        rintro e w' ⟨rfl, ⟨nd, rfl⟩⟩
                        refine ⟨_, rfl, ?_⟩
                        refine hK.out _ _ ⟨hHeld.1, hHeld.2⟩ (fun hHeld => ?_)
                        clear hK K
                        refine norm_ (a' := ?_) ?_ ?_
                        rotate_left
                        · show Act.put _ (some 29) _ = _
                          simp only [Act.put, List.setIfInBounds_toArray, List.set_cons_zero, List.set_cons_succ, i64_w, i32_w]
                          rfl
                        refine pure_ (i := 14) (N := some 30) (v := ?_) (a' := ?_) #[true, true, true, true, true, true, true, true, true, true, true, true, true, true, true] rfl rfl (any_of HT_.out (by kernel_rfl)) (fun _ _ _ h => h) (Or.inl ⟨by rfl, ?_⟩) ?_ ?_
                        rotate_left
                        · intro w'
                          go_simp
                          with_reducible rfl
                        rotate_left
                        · simp only [Act.put, List.setIfInBounds_toArray, List.set_cons_zero, List.set_cons_succ, i64_w, i32_w]
                          rfl
                        refine done_ (done_of HT_.out (by kernel_rfl)) ?_
                        try go_wp2
                        go_roundg k2
                        case measure => have := HK1.out; have := HK2.out; omega
                        case rel => exact ⟨(x0_2), (wrap64 (x6_1 + 1)), (by first | rfl | (simp; done) | (simp [*]; done)), H', ⟨by have := HK1.out; have := HK2.out; omega⟩, ⟨by (with_reducible repeat (first | apply Kd.R_alloc | apply Kd.R_drewN | apply Kd.R_drew)); exact HO_0.out⟩, ⟨by repeat (first | (with_reducible first | exact HK.out | apply Kept.alloc | apply Kept.drewN | apply Kept.drew) | exact HK.out)⟩, ⟨by repeat (first | (with_reducible first | exact HB.out | apply below_alloc | apply pw_below_drewN | apply below_drew1) | exact HB.out)⟩⟩
                    · rw [if_neg c10] at H
                      exact absurd H (by simp)
                  · rw [if_neg c9] at H
                    exact absurd H (by simp)
                · rw [if_neg c7] at H
                  exact absurd H (by simp)
              · rw [if_neg c6] at H
                exact absurd H (by simp)
            · rw [if_neg c5] at H
              have c5b0 : decide (a1 < x7_2) = false := decide_eq_false c5
              clear c5
              have H' := Aside0.mk H
              clear H
              try go_wp2
              have n0_ := Aside0.mk (Kd.R_drew HO_0.out)
              have n1_ := Aside0.mk (Kept.drew HK.out)
              have n2_ := Aside0.mk (below_drew1 HB.out)
              clear HO_0
              clear HK
              clear HB
              have HO_0 := n0_
              have HK := n1_
              have HB := n2_
              clear n0_ n1_ n2_
              refine start_ (n := 15) (S := fun w' => True) (ds := []) #[false, false, false, false, false, false, false, false, false, false, false, false, false, false, false] (by kernel_rfl) rfl rfl trivial (fun hHeld => ?_); refine with_tabW slices_insertionSortOrdered_int.tab4 slices_insertionSortOrdered_int.bits4 (fun HT_ HW_ => ?_)
              generalize wr.drew = w22 at HO_0 HK HB hHeld ⊢
              refine pure_ (i := 0) (N := some 16) (v := ?_) (a' := ?_) #[true, false, false, false, false, false, false, false, false, false, false, false, false, false, false] rfl rfl (any_of HT_.out (by kernel_rfl)) (fun _ _ _ h => h) (Or.inl ⟨by rfl, ?_⟩) ?_ ?_
              rotate_left
              · intro w'
                go_simp
                with_reducible rfl
              rotate_left
              · simp only [Act.put, List.setIfInBounds_toArray, List.set_cons_zero, List.set_cons_succ, i64_w, i32_w]
                rfl
              refine pure_ (i := 1) (N := some 17) (v := ?_) (a' := ?_) #[true, true, false, false, false, false, false, false, false, false, false, false, false, false, false] rfl rfl (any_of HT_.out (by kernel_rfl)) (fun _ _ _ h => h) (Or.inl ⟨by rfl, ?_⟩) ?_ ?_
              rotate_left
              · intro w'
                go_simp
                with_reducible rfl
              rotate_left
              · simp only [Act.put, List.setIfInBounds_toArray, List.set_cons_zero, List.set_cons_succ, i64_w, i32_w]
                rfl
              refine pure_ (i := 2) (N := some 18) (v := ?_) (a' := ?_) #[true, true, true, false, false, false, false, false, false, false, false, false, false, false, false] rfl rfl (any_of HT_.out (by kernel_rfl)) (fun _ _ _ h => h) (Or.inl ⟨by rfl, ?_⟩) ?_ ?_
              rotate_left
              · intro w'
                go_simp
                with_reducible rfl
              rotate_left
              · simp only [Act.put, List.setIfInBounds_toArray, List.set_cons_zero, List.set_cons_succ, i64_w, i32_w]
                rfl
              refine pure_ (i := 3) (N := some 19) (v := ?_) (a' := ?_) #[true, true, true, true, false, false, false, false, false, false, false, false, false, false, false] rfl rfl (any_of HT_.out (by kernel_rfl)) (fun _ _ _ h => h) (Or.inl ⟨by rfl, ?_⟩) ?_ ?_
              rotate_left
              · intro w'
                go_simp
                with_reducible rfl
              rotate_left
              · simp only [Act.put, List.setIfInBounds_toArray, List.set_cons_zero, List.set_cons_succ, i64_w, i32_w]
                rfl
              refine pure_ (i := 4) (N := some 20) (v := undef) (a' := ?_) #[true, true, true, true, true, false, false, false, false, false, false, false, false, false, false] rfl rfl (any_of HT_.out (by kernel_rfl)) (fun _ _ _ h => h) (Or.inr ⟨by rfl, rfl⟩) ?_ ?_
              rotate_left
              · simp only [Act.put, List.setIfInBounds_toArray, List.set_cons_zero, List.set_cons_succ, i64_w, i32_w]
                rfl
              refine pure_ (i := 5) (N := some 21) (v := undef) (a' := ?_) #[true, true, true, true, true, true, false, false, false, false, false, false, false, false, false] rfl rfl (any_of HT_.out (by kernel_rfl)) (fun _ _ _ h => h) (Or.inr ⟨by rfl, rfl⟩) ?_ ?_
              rotate_left
              · simp only [Act.put, List.setIfInBounds_toArray, List.set_cons_zero, List.set_cons_succ, i64_w, i32_w]
                rfl
              refine pure_ (i := 6) (N := some 22) (v := undef) (a' := ?_) #[true, true, true, true, true, true, true, false, false, false, false, false, false, false, false] rfl rfl (any_of HT_.out (by kernel_rfl)) (fun _ _ _ h => h) (Or.inr ⟨by rfl, rfl⟩) ?_ ?_
              rotate_left
              · simp only [Act.put, List.setIfInBounds_toArray, List.set_cons_zero, List.set_cons_succ, i64_w, i32_w]
                rfl
              refine pure_ (i := 7) (N := some 23) (v := undef) (a' := ?_) #[true, true, true, true, true, true, true, true, false, false, false, false, false, false, false] rfl rfl (any_of HT_.out (by kernel_rfl)) (fun _ _ _ h => h) (Or.inr ⟨by rfl, rfl⟩) ?_ ?_
              rotate_left
              · simp only [Act.put, List.setIfInBounds_toArray, List.set_cons_zero, List.set_cons_succ, i64_w, i32_w]
                rfl
              refine pure_ (i := 8) (N := some 24) (v := undef) (a' := ?_) #[true, true, true, true, true, true, true, true, true, false, false, false, false, false, false] rfl rfl (any_of HT_.out (by kernel_rfl)) (fun _ _ _ h => h) (Or.inr ⟨by rfl, rfl⟩) ?_ ?_
              rotate_left
              · simp only [Act.put, List.setIfInBounds_toArray, List.set_cons_zero, List.set_cons_succ, i64_w, i32_w]
                rfl
              refine pure_ (i := 9) (N := some 25) (v := undef) (a' := ?_) #[true, true, true, true, true, true, true, true, true, true, false, false, false, false, false] rfl rfl (any_of HT_.out (by kernel_rfl)) (fun _ _ _ h => h) (Or.inr ⟨by rfl, rfl⟩) ?_ ?_
              rotate_left
              · simp only [Act.put, List.setIfInBounds_toArray, List.set_cons_zero, List.set_cons_succ, i64_w, i32_w]
                rfl
              refine pure_ (i := 10) (N := some 26) (v := undef) (a' := ?_) #[true, true, true, true, true, true, true, true, true, true, true, false, false, false, false] rfl rfl (any_of HT_.out (by kernel_rfl)) (fun _ _ _ h => h) (Or.inr ⟨by rfl, rfl⟩) ?_ ?_
              rotate_left
              · simp only [Act.put, List.setIfInBounds_toArray, List.set_cons_zero, List.set_cons_succ, i64_w, i32_w]
                rfl
              refine pure_ (i := 11) (N := some 27) (v := undef) (a' := ?_) #[true, true, true, true, true, true, true, true, true, true, true, true, false, false, false] rfl rfl (any_of HT_.out (by kernel_rfl)) (fun _ _ _ h => h) (Or.inr ⟨by rfl, rfl⟩) ?_ ?_
              rotate_left
              · simp only [Act.put, List.setIfInBounds_toArray, List.set_cons_zero, List.set_cons_succ, i64_w, i32_w]
                rfl
              refine pure_ (i := 12) (N := some 28) (v := undef) (a' := ?_) #[true, true, true, true, true, true, true, true, true, true, true, true, true, false, false] rfl rfl (any_of HT_.out (by kernel_rfl)) (fun _ _ _ h => h) (Or.inr ⟨by rfl, rfl⟩) ?_ ?_
              rotate_left
              · simp only [Act.put, List.setIfInBounds_toArray, List.set_cons_zero, List.set_cons_succ, i64_w, i32_w]
                rfl
              refine pure_ (i := 13) (N := some 29) (v := undef) (a' := ?_) #[true, true, true, true, true, true, true, true, true, true, true, true, true, true, false] rfl rfl (any_of HT_.out (by kernel_rfl)) (fun _ _ _ h => h) (Or.inr ⟨by rfl, rfl⟩) ?_ ?_
              rotate_left
              · simp only [Act.put, List.setIfInBounds_toArray, List.set_cons_zero, List.set_cons_succ, i64_w, i32_w]
                rfl
              refine pure_ (i := 14) (N := some 30) (v := ?_) (a' := ?_) #[true, true, true, true, true, true, true, true, true, true, true, true, true, true, true] rfl rfl (any_of HT_.out (by kernel_rfl)) (fun _ _ _ h => h) (Or.inl ⟨by rfl, ?_⟩) ?_ ?_
              rotate_left
              · intro w'
                go_simp
                with_reducible rfl
              rotate_left
              · simp only [Act.put, List.setIfInBounds_toArray, List.set_cons_zero, List.set_cons_succ, i64_w, i32_w]
                rfl
              refine done_ (done_of HT_.out (by kernel_rfl)) ?_
              try go_wp2
              go_roundg k2
              case measure => have := HK1.out; have := HK2.out; omega
              case rel => exact ⟨(x0_2), (wrap64 (x6_1 + 1)), (by first | rfl | (simp; done) | (simp [*]; done)), H', ⟨by have := HK1.out; have := HK2.out; omega⟩, ⟨by (with_reducible repeat (first | apply Kd.R_alloc | apply Kd.R_drewN | apply Kd.R_drew)); exact HO_0.out⟩, ⟨by repeat (first | (with_reducible first | exact HK.out | apply Kept.alloc | apply Kept.drewN | apply Kept.drew) | exact HK.out)⟩, ⟨by repeat (first | (with_reducible first | exact HB.out | apply below_alloc | apply pw_below_drewN | apply below_drew1) | exact HB.out)⟩⟩
      · rw [if_neg c4] at H
        have c4b0 : decide (x6_1 < a2) = false := decide_eq_false c4
        clear c4
        obtain rfl := Option.some.inj H
        go_wp2
        first | go_end0 | ((try simp only [Exit.inBlock, Exit.then]); refine bodyPost_ret (results_none rfl _ _ _) rfl ?_)
        exact ⟨by first | rfl | (simp [errW_none, errW_some] <;> rfl) | (simp [*, errW_none, errW_some] <;> rfl), by (with_reducible repeat (first | apply Kd.R_alloc | apply Kd.R_drewN | apply Kd.R_drew)); exact HO_0.out, by repeat (first | (with_reducible first | exact HB.out | apply below_alloc | apply pw_below_drewN | apply below_drew1) | exact HB.out), by repeat (first | (with_reducible first | exact HK.out | apply Kept.alloc | apply Kept.drewN | apply Kept.drew) | exact HK.out)⟩
end Go.Proofs.Ytibileffpgnjhaa.PRt
namespace Go.Proofs.Ytibileffpgnjhaa.Sr
open Go.RowKit Go.Proofs.YtibileffpgnjhaaW.PrintWords
open Go.Proofs.Ytibileffpgnjhaa.PRt
open Go.Proofs.Ytibileffpgnjhaa.Fld (srt)
set_option linter.unusedSimpArgs false
set_option linter.unusedVariables false
set_option maxRecDepth 100000 in
set_option maxHeartbeats 1000000 in
theorem len64_any (n : Nat) (hn : n ≤ 2) (w : World) : Calls Try.prog 104 #[.int .u64 n] w fun e w' => (∃ r : Int, e = .returned (.int .i64 r)) ∧ w' = w := by
  obtain rfl | rfl | rfl : n = 0 ∨ n = 1 ∨ n = 2 := by omega
  all_goals
    go_enter Try.func104, Try.ntmps104
    go_wp2
    go_ret
    exact ⟨⟨_, rfl⟩, rfl⟩
theorem len_any (n : Nat) (hn : n ≤ 2) (w : World) : Calls Try.prog 92 #[.int .u64 n] w fun e w' => (∃ r : Int, e = .returned (.int .i64 r)) ∧ w' = w := by
  go_enter Try.func92, Try.ntmps92
  go_wp2_with fail
  refine (len64_any n hn w).mono ?_
  rintro e w1 ⟨⟨r, rfl⟩, rfl⟩
  go_wp2
  go_ret
  exact ⟨⟨_, rfl⟩, rfl⟩
set_option maxRecDepth 100000 in
set_option maxHeartbeats 1000000 in
theorem pdq_any (k : Nat) (P0_ : Nat → Prop) (u : Value) (l0 : List Int) (m lim : Int) (r : List Int) (w0 w : World) (hB : Below w0.heap.size w0 w) (ho0 : Kd.R (Kd.int .i64) 3 w w0.heap.size P0_ u l0) (h0 : 0 ≤ m) (h2 : m ≤ 12) (h : slices_insertionSortOrdered_int.f k l0 0 m = some r) :
    Calls Try.prog 91 #[u, .int .i64 0, .int .i64 m, .int .i64 lim] w fun e w' => e = .returned (.tuple #[]) ∧ Kd.R (Kd.int .i64) 3 w' w0.heap.size (fun k_ => (P0_ k_ ∨ w.heap.size ≤ k_)) u r ∧ Below w0.heap.size w0 w' := by
  have HC := Lib.hid (slices_insertionSortOrdered_int.calls k P0_ u l0 0 m r w0 w hB ho0 h)
  clear hB ho0 h
  go_enter Try.func91, Try.ntmps91
  go_wp2_with fail
  go_loopw [1, 2] (fun a b wr => a = .int .i64 0 ∧ b = .int .i64 m ∧ wr = w) (fun _ _ _ => 0)
  case atStart => exact ⟨rfl, rfl, rfl⟩
  case round =>
    obtain ⟨rfl, rfl, rfl⟩ := hrel
    have hm : (decide (m ≤ 12)) = true := decide_eq_true h2
    have hw : wrap64 (m - 0) = m := by unfold wrap64; omega
    go_wp2_with fail
    refine HC.out.mono ?_
    rintro e w1 ⟨rfl, h1, h2, h3⟩
    go_wp2_with fail
    go_returns
    exact ⟨rfl, h1, h2⟩
theorem sort_any (k : Nat) (P0_ : Nat → Prop) (A : Option Addr) (c : Nat) (l0 : List Int) (r : List Int) (w0 w : World) (hB : Below w0.heap.size w0 w) (ho0 : Kd.R (Kd.int .i64) 3 w w0.heap.size P0_ (.slice A l0.length c) l0) (h2 : l0.length ≤ 2) (h : slices_insertionSortOrdered_int.f k l0 0 l0.length = some r) :
    Calls Try.prog 83 #[.slice A l0.length c] w fun e w' => e = .returned (.tuple #[]) ∧ Kd.R (Kd.int .i64) 3 w' w0.heap.size (fun k_ => (P0_ k_ ∨ w.heap.size ≤ k_)) (.slice A l0.length c) r ∧ Below w0.heap.size w0 w' := by
  have HC := Lib.hid (fun lim => pdq_any k P0_ (.slice A l0.length c) l0 l0.length lim r w0 w hB ho0 (by omega) (by omega) h)
  have HL := Lib.hid (len_any l0.length h2)
  clear hB ho0 h
  go_enter Try.func83, Try.ntmps83
  go_wp2_with fail
  refine (HL.out _).mono ?_
  rintro e w1 ⟨⟨q, rfl⟩, rfl⟩
  go_wp2_with fail
  refine (HC.out _).mono ?_
  rintro e w1 ⟨rfl, h1, h2⟩
  go_wp2_with fail
  go_returns
  exact ⟨rfl, h1, h2⟩
theorem ins_two (xs : List Int) (h : xs.length ≤ 2) : ∃ k, slices_insertionSortOrdered_int.f k xs 0 xs.length = some (srt xs) := by
  refine ⟨4, ?_⟩
  match xs, h with
  | [], _ => simp [slices_insertionSortOrdered_int.f, slices_insertionSortOrdered_int.l0, srt, wrap64]
  | [a], _ => simp [slices_insertionSortOrdered_int.f, slices_insertionSortOrdered_int.l0, srt, wrap64]
  | [a, b], _ =>
    by_cases hab : b < a
    · have : ¬ a ≤ b := by omega
      simp [slices_insertionSortOrdered_int.f, slices_insertionSortOrdered_int.l0, slices_insertionSortOrdered_int.l1, srt, wrap64, cmp_Less_int.f, cmp_isNaN_int.f, rd, hab, this]
    · have : a ≤ b := by omega
      simp [slices_insertionSortOrdered_int.f, slices_insertionSortOrdered_int.l0, slices_insertionSortOrdered_int.l1, srt, wrap64, cmp_Less_int.f, cmp_isNaN_int.f, rd, hab, this]
set_option maxRecDepth 100000 in
set_option maxHeartbeats 1000000 in
theorem sorted_any (Bs : Nat) (A : Option Addr) (c : Nat) (xs : List Int) (hm : xs.length ≤ 2) (w : World) (hBs : Bs < w.heap.size) (fs : w.cell? ⟨Bs, 0, none⟩ = some (.slice A xs.length c)) (hr : Kd.C (Kd.int .i64) w A xs.length xs) :
    Calls Try.prog 68 #[.func (.func 84) #[] #[.pointer (some ⟨Bs, 0, none⟩)]] w fun e w' =>
      ∃ v, e = .returned v ∧ Kd.R (Kd.int .i64) 3 w' w.heap.size (fun _ => True) v (srt xs) ∧ Below w.heap.size w w' := by
  obtain ⟨k, hk⟩ := ins_two xs hm
  have HK := Lib.hid hk
  clear hk
  go_enter Try.func68, Try.ntmps68
  go_wp2_with fail
  refine (Go.Proofs.Ytibileffpgnjhaa.So.collect_any Bs A c xs (by omega) w hBs fs hr).mono ?_
  rintro e w1 ⟨v, rfl, hown, hb⟩
  have hR : Kd.R (Kd.int .i64) 3 w1 w.heap.size (fun _ => True) v xs := Kd.R_of_own (by unfold encs; exact hown) (fun _ _ => trivial)
  obtain ⟨A1, c1, rfl⟩ := Kd.R_slice hR
  have HS := Lib.hid (sort_any k (fun _ => True) A1 c1 xs (srt xs) w w1 hb hR hm HK.out)
  clear hown hR
  go_wp2_with fail
  refine HS.out.mono ?_
  rintro e w2 ⟨rfl, h1, h2⟩
  have H1 := Lib.hid h1
  clear h1
  go_wp2_with fail
  go_ret
  exact ⟨_, rfl, Kd.R_mono H1.out (fun _ _ => trivial), h2⟩
end Go.Proofs.Ytibileffpgnjhaa.Sr
