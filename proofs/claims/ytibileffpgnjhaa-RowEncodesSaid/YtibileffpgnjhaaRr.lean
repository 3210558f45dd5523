/-
  The document's parities (ramekinref5.Parity), plainly; one row made again.
-/
import Derived.Test.YtibileffpgnjhaaPk
import Derived.Test.YtibileffpgnjhaaPRrx3
import Derived.Test.YtibileffpgnjhaaPRrx2
namespace Go.Proofs.Ytibileffpgnjhaa.Rp
open Go.RowKit Go.Proofs.YtibileffpgnjhaaW.PrintWords
open Go.Proofs.Ytibileffpgnjhaa.Fld Go.Proofs.Ytibileffpgnjhaa.Pl
set_option linter.unusedSimpArgs false
set_option linter.unusedVariables false
theorem even_l0 (L : List (List Int)) (hm : L.length ≤ 1000000) (h0 : 0 < L.length) : ∀ d i : Nat, L.length - i = d → i ≤ L.length → Ev (fun k => PRq.ramekinref5_even.l0 k L (i : Int)) ((L.drop i).all fun r => r.length == (row L 0).length)
  | 0, i, hd, hi => by
    obtain rfl : i = L.length := by omega
    refine Ev.step (f := fun _ => some true) (fun k => ?_) ?_
    · rw [PRq.ramekinref5_even.l0, if_neg (by omega)]
    · rw [List.drop_length]; exact Ev.now _
  | d + 1, i, hd, hi => by
    have hil : i < L.length := by omega
    have hdr : L.drop i = L[i] :: L.drop (i + 1) := List.drop_eq_getElem_cons hil
    have hr0 : PRq.rd_L2 L 0 = row L 0 := by unfold PRq.rd_L2 row; simp
    by_cases h : (L[i].length : Int) = ((row L 0).length : Int)
    · refine Ev.step (f := fun k => PRq.ramekinref5_even.l0 k L ((i + 1 : Nat) : Int)) (fun k => ?_) ?_
      · rw [PRq.ramekinref5_even.l0, if_pos (by omega), if_pos (by omega), if_pos (by omega), rdL_nat, row_lt hil, hr0, if_pos h, w64 (by omega) (by omega)]; rfl
      · have := even_l0 L hm h0 d (i + 1) (by omega) (by omega)
        rw [hdr, List.all_cons, show (L[i].length == (row L 0).length) = true from by rw [beq_iff_eq]; omega, Bool.true_and]
        exact this
    · refine Ev.step (f := fun _ => some false) (fun k => ?_) ?_
      · rw [PRq.ramekinref5_even.l0, if_pos (by omega), if_pos (by omega), if_pos (by omega), rdL_nat, row_lt hil, hr0, if_neg h]
      · rw [hdr, List.all_cons, show (L[i].length == (row L 0).length) = false from by rw [beq_eq_false_iff_ne]; omega, Bool.false_and]
        exact Ev.now _
theorem even_ok (L : List (List Int)) (n a b : Nat) (hn : ∀ r ∈ L, r.length = n) (h1 : 1 ≤ a) (ha : a ≤ L.length) (hb : L.length ≤ b) (hm : L.length ≤ 1000000) : PRr.ramekinref5_even.f L (a : Int) (b : Int) = some true := by
  refine Lim.lim_ev (fun k => PRq.ramekinref5_even.mono _ _ _ k) ?_
  refine Ev.congr (f := fun k => PRq.ramekinref5_even.j0 k L false) (fun k => ?_) (Ev.step (f := fun k => PRq.ramekinref5_even.l0 k L ((1 : Nat) : Int)) (fun k => ?_) ?_)
  · rw [PRq.ramekinref5_even.f, if_neg (by omega), decide_eq_false (by omega)]
  · rw [PRq.ramekinref5_even.j0, if_neg (by simp)]; rfl
  · have := even_l0 L hm (by omega) (L.length - 1) 1 (by omega) (by omega)
    have e : ((L.drop 1).all fun r => r.length == (row L 0).length) = true := by
      rw [List.all_eq_true]
      intro r hr
      rw [beq_iff_eq, hn r (List.mem_of_mem_drop hr), row_lt (by omega), hn _ (List.getElem_mem _)]
    rw [e] at this
    exact this
theorem rmul {x y : Int} (hx : Byt x) (hy : Byt y) : PRr.ramekinref2_Mul.f x y = some (mulI x y) := Lim.lim_ev (fun k => PRq.ramekinref2_Mul.mono _ _ k) (refmul_ev hx hy)
theorem rexp (n : Nat) (hn : n < 255) : PRr.ramekinref2_Exp.f (n : Int) = some (expI n) := Lim.lim_ev (fun k => PRq.ramekinref2_Exp.mono _ k) (refexp_ev n hn)
theorem par_l1 (L : List (List Int)) (i : Nat) (r : List Int) (b : Int) (p q : List Int) (hi : i < L.length) (hr : row L i = r) (hp : p.length = r.length) (hq : q.length = r.length) (hlen : r.length ≤ 281474976710656) (hb : Byt b) (bp : Bytes p) (bq : Bytes q) (br : Bytes r) (R : List Int × List Int)
    (h : Ev (fun k => PRr.ramekinref5_Parity.l0 k L (Pl.part p r none r.length) (Pl.part q r (some b) r.length) ((i : Int) + 1)) R) (hi2 : i < 1000000) :
    ∀ d j : Nat, r.length - j = d → j ≤ r.length → Ev (fun k => PRr.ramekinref5_Parity.l1 k L (Pl.part p r none j) (Pl.part q r (some b) j) (i : Int) b (j : Int)) R
  | 0, j, hd, hj => by
    obtain rfl : j = r.length := by omega
    have hr2 : PRr.rd_L1 L (i : Int) = r := by rw [← hr]; unfold PRr.rd_L1 row; simp
    refine Ev.step (f := fun k => PRr.ramekinref5_Parity.l0 k L (Pl.part p r none r.length) (Pl.part q r (some b) r.length) ((i : Int) + 1)) (fun k => ?_) h
    rw [PRr.ramekinref5_Parity.l1, if_pos (by omega), if_pos (by omega), hr2, if_neg (by omega), w64 (by omega) (by omega)]
  | d + 1, j, hd, hj => by
    have hjr : j < r.length := by omega
    have hr2 : PRr.rd_L1 L (i : Int) = r := by rw [← hr]; unfold PRr.rd_L1 row; simp
    refine Ev.step (f := fun k => PRr.ramekinref5_Parity.l1 k L (Pl.part p r none (j + 1)) (Pl.part q r (some b) (j + 1)) (i : Int) b ((j + 1 : Nat) : Int)) (fun k => ?_) (par_l1 L i r b p q hi hr hp hq hlen hb bp bq br R h hi2 d (j + 1) (by omega) (by omega))
    have e1 : at_ (Pl.part p r none j) j = at_ p j := by rw [part_at _ _ _ _ _ (by omega), if_neg (by omega)]
    have e2 : at_ (Pl.part q r (some b) j) j = at_ q j := by rw [part_at _ _ _ _ _ (by omega), if_neg (by omega)]
    have e3 := part_set p r none j (by omega)
    have e4 := part_set q r (some b) j (by omega)
    have t3 : term r none j = at_ r j := rfl
    have t4 : term r (some b) j = mulI b (at_ r j) := rfl
    rw [t3] at e3
    rw [t4] at e4
    rw [PRr.ramekinref5_Parity.l1, if_pos (by omega), if_pos (by omega), hr2, if_pos (by omega), if_pos (by omega), if_pos (by rw [part_len]; omega), if_pos (by rw [part_len]; omega), w64 (by omega) (by omega)]
    simp only [rd_nat, e1, e2, Int.toNat_natCast]
    rw [rmul hb (byt_at br j)]
    simp only [Option.bind_some]
    rw [xor_u8 (byt_at bp j) (byt_at br j), xor_u8 (byt_at bq j) (byt_mul (byt_at br j)), e3, e4]
    rfl
theorem par_l0 (L : List (List Int)) (n : Nat) (hn : ∀ r ∈ L, r.length = n) (hL : ∀ r ∈ L, Bytes r) (h254 : L.length ≤ 254) (hn2 : n ≤ 281474976710656) :
    ∀ d i, L.length - i = d → i ≤ L.length → Ev (fun k => PRr.ramekinref5_Parity.l0 k L (sumP (L.take i) n) (sumQ (L.take i) n) (i : Int)) (sumP L n, sumQ L n)
  | 0, i, hd, hi => by
    obtain rfl : i = L.length := by omega
    refine Ev.step (f := fun _ => some (sumP L n, sumQ L n)) (fun k => ?_) (Ev.now _)
    rw [PRr.ramekinref5_Parity.l0, if_neg (by omega), List.take_length]
  | d + 1, i, hd, hi => by
    have hiL : i < L.length := by omega
    have hm : L[i] ∈ L := List.getElem_mem hiL
    have htk : ∀ r ∈ L.take i, Bytes r := fun r hr => hL r (List.mem_of_mem_take hr)
    refine Ev.step (f := fun k => PRr.ramekinref5_Parity.l1 k L (sumP (L.take i) n) (sumQ (L.take i) n) (i : Int) (expI i) 0) (fun k => ?_) ?_
    · rw [PRr.ramekinref5_Parity.l0, if_pos (by omega), rexp i (by omega)]
      rfl
    · have h1 := par_l1 L i L[i] (expI i) (sumP (L.take i) n) (sumQ (L.take i) n) hiL (row_lt hiL) (by rw [sumP_len, hn _ hm]) (by rw [sumQ_len, hn _ hm]) (by rw [hn _ hm]; exact hn2) (byt_exp i) (bytes_sumP _ _ htk) (bytes_sumQ _ _ htk) (hL _ hm) (sumP L n, sumQ L n) ?_ (by omega) L[i].length 0 (by omega) (by omega)
      · simpa [part_zero] using h1
      · have := par_l0 L n hn hL h254 hn2 d (i + 1) (by omega) (by omega)
        have e1 : Pl.part (sumP (L.take i) n) L[i] none L[i].length = sumP (L.take (i + 1)) n := by
          refine ext_at (by rw [part_len, sumP_len, sumP_len]) (fun k hk => ?_)
          rw [part_len, sumP_len] at hk
          rw [part_at _ _ _ _ _ (by rw [sumP_len]; exact hk), if_pos (by rw [hn _ hm]; exact hk), sumP_at _ hk, sumP_at _ hk, List.take_succ_eq_append_getElem hiL, pS_snoc _ _ _ htk (hL _ hm)]
          rfl
        have e2 : Pl.part (sumQ (L.take i) n) L[i] (some (expI i)) L[i].length = sumQ (L.take (i + 1)) n := by
          refine ext_at (by rw [part_len, sumQ_len, sumQ_len]) (fun k hk => ?_)
          rw [part_len, sumQ_len] at hk
          rw [part_at _ _ _ _ _ (by rw [sumQ_len]; exact hk), if_pos (by rw [hn _ hm]; exact hk), sumQ_at _ hk, sumQ_at _ hk, List.take_succ_eq_append_getElem hiL, qS_snoc _ _ _ _ htk (hL _ hm)]
          have : (L.take i).length = i := by simp; omega
          rw [this, Nat.zero_add]
          rfl
        rw [e1, e2]
        simpa using this
theorem refpar_ev (L : List (List Int)) (n : Nat) (hn : ∀ r ∈ L, r.length = n) (hL : ∀ r ∈ L, Bytes r) (h2 : 2 ≤ L.length) (h14 : L.length ≤ 14) (hn2 : n ≤ 281474976710656) : Ev (fun k => PRr.ramekinref5_Parity.f k L) (sumP L n, sumQ L n) := by
  have hr0 : PRr.rd_L1 L 0 = row L 0 := by unfold PRr.rd_L1 row; simp
  have hl0 : (row L 0).length = n := by rw [row_lt (by omega)]; exact hn _ (List.getElem_mem _)
  refine Ev.congr (f := fun k => PRr.ramekinref5_Parity.l0 k L (sumP (L.take 0) n) (sumQ (L.take 0) n) ((0 : Nat) : Int)) (fun k => ?_) (par_l0 L n hn hL (by omega) hn2 L.length 0 (by omega) (by omega))
  have he := even_ok L n 2 14 hn (by omega) (by omega) (by omega) (by omega)
  rw [PRr.ramekinref5_Parity.f, show (2 : Int) = ((2 : Nat) : Int) from rfl, show (14 : Int) = ((14 : Nat) : Int) from rfl, he]
  simp only [Option.bind_some, ↓reduceIte]
  rw [if_pos (by omega), hr0, hl0, if_pos (by omega), if_pos (by simpa using hn2)]
  simp only [Int.toNat_natCast, List.take_zero]
  rw [← rep_zero, ← rep_zero']
  rfl
end Go.Proofs.Ytibileffpgnjhaa.Rp
