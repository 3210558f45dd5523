/-
  RsKnown, plainly: parities of rows of one byte are the sum, and the sum of powers times them; of one more row they change by just that row.
-/
import Derived.Test.YtdbnladpogpiiaaPRsx2
import Derived.Test.YtdbnladpogpiiaaPa
namespace Go.Proofs.Ytdbnladpogpiiaa.Pure
open Go.RowKit Go.Proofs.Ytdbnladpogpiiaa.PRs Go.Proofs.YtdbnladpogpiiaaW.PrintWords Go.Proofs.YtdbnladpogpiiaaW.PrintLast Go.Proofs.Ytdbnladpogpiiaa.Fld Go.Proofs.Ytdbnladpogpiiaa.Pl Go.Proofs.Ytdbnladpogpiiaa.Pa
set_option linter.unusedSimpArgs false
set_option linter.unusedVariables false

theorem known_loop (L : List (List Int)) (n : Nat) (a : Int) (hlen : L.length = n) (hn13 : n ≤ 13) (h1 : ∀ r ∈ L, r.length = 1) (hB : ∀ r ∈ L, Bytes r) (ha : Byt a) :
    ∀ d i, n - i = d → i ≤ n → Ev (fun k => ramekinlaw5_RsKnown.l0 k (n : Int) a L (sumP L 1) (sumQ L 1) (sumP (L ++ [[a]]) 1) (sumQ (L ++ [[a]]) 1) (pS (L.take i) 0) (qS 0 (L.take i) 0) (i : Int)) true
  | 0, i, hd, hi => by
    obtain rfl : i = n := by omega
    refine Ev.step (f := fun _ => some true) (fun k => ?_) (Ev.now _)
    have hba : Bytes [a] := by intro x hx; simp at hx; subst hx; exact ha
    have hat : at_ [a] 0 = a := rfl
    have p1 : rd (sumP L 1) 0 = pS L 0 := by rw [rd_zero, sumP_at _ (by omega)]
    have q1 : rd (sumQ L 1) 0 = qS 0 L 0 := by rw [rd_zero, sumQ_at _ (by omega)]
    have p2 : rd (sumP (L ++ [[a]]) 1) 0 = xorI (pS L 0) a := by rw [rd_zero, sumP_at _ (by omega), pS_snoc _ _ _ hB hba, hat]
    have q2 : rd (sumQ (L ++ [[a]]) 1) 0 = xorI (qS 0 L 0) (mulI (expI i) a) := by rw [rd_zero, sumQ_at _ (by omega), qS_snoc _ _ _ _ hB hba, hat, hlen, Nat.zero_add]
    have ht : L.take i = L := by rw [← hlen]; exact List.take_length
    rw [ramekinlaw5_RsKnown.l0, if_neg (by omega), ht, p1, q1, p2, q2, if_pos (by rw [sumP_len]; omega), if_pos rfl, if_pos (by rw [sumQ_len]; omega), if_pos rfl, if_pos (by rw [sumP_len]; omega),
      xor_u8 (byt_pS L 0 hB) ha, if_pos rfl, if_pos (by rw [sumQ_len]; omega), exp_s i (by omega)]
    simp only [Option.bind_some]
    rw [mul_s (byt_exp i) ha]
    simp only [Option.bind_some]
    rw [xor_u8 (byt_qS 0 L 0 hB) (byt_mul ha), beq_self_eq_true]
  | d + 1, i, hd, hi => by
    have hiL : i < L.length := by omega
    have hm : L[i] ∈ L := List.getElem_mem hiL
    have htk : ∀ r ∈ L.take i, Bytes r := fun r hr => hB r (List.mem_of_mem_take hr)
    have hi1 : (L.take i).length = i := by simp; omega
    refine Ev.step (fun k => ?_) (known_loop L n a hlen hn13 h1 hB ha d (i + 1) (by omega) (by omega))
    rw [ramekinlaw5_RsKnown.l0, if_pos (by omega), if_pos (by omega), if_pos (by omega), rdL2_nat, row_lt hiL, if_pos (by rw [h1 _ hm]; omega), exp_s i (by omega)]
    simp only [Option.bind_some]
    rw [rd_zero, mul_s (byt_exp i) (byt_at (hB _ hm) 0)]
    simp only [Option.bind_some]
    rw [xor_u8 (byt_pS _ 0 htk) (byt_at (hB _ hm) 0), xor_u8 (byt_qS 0 _ 0 htk) (byt_mul (byt_at (hB _ hm) 0)), List.take_succ_eq_append_getElem hiL, pS_snoc _ _ _ htk (hB _ hm), qS_snoc _ _ _ _ htk (hB _ hm), hi1, Nat.zero_add, w64 (by omega) (by omega)]
    rfl
theorem RsKnown : ramekinlaw5_RsKnown.Pure := by
  intro l0 a1 a2 hml hs hw w1 w2
  unfold maxLen at hml
  have ha := u8_of w2
  obtain ⟨m, hm1, hm2⟩ := mod_nat a1 12 (by omega)
  obtain ⟨L, hL, hlen, hrow, hB⟩ := rows_s l0 (2 + m) 1 (by omega) (by omega) (by omega)
  have hba : Bytes [a2] := by intro x hx; simp at hx; subst hx; exact ha
  have hL' : ∀ r ∈ L ++ [[a2]], Bytes r := by
    intro r hr
    rcases List.mem_append.1 hr with h | h
    · exact hB r h
    · rw [List.mem_singleton.1 h]; exact hba
  have hr' : ∀ r ∈ L ++ [[a2]], r.length = 1 := by
    intro r hr
    rcases List.mem_append.1 hr with h | h
    · exact hrow r h
    · rw [List.mem_singleton.1 h]; rfl
  have hlen' : (L ++ [[a2]]).length = 3 + m := by simp [hlen]; omega
  have e2 : wrap64 (2 + (m : Int)) = ((2 + m : Nat) : Int) := by rw [w64 (by omega) (by omega)]; omega
  have key : ∀ k, ramekinlaw5_RsKnown.f k l0 a1 a2 = ramekinlaw5_RsKnown.j0 k ((2 + m : Nat) : Int) a2 L (sumP L 1) (sumQ L 1) (sumP (L ++ [[a2]]) 1) (sumQ (L ++ [[a2]]) 1) false := by
    intro k
    unfold ramekinlaw5_RsKnown.f
    rw [known_s]
    simp only [Option.bind_some, ↓reduceIte]
    rw [within_s a1 12 (by omega) (by omega)]
    simp only [Option.bind_some]
    rw [show a1 % 12 = (m : Int) from hm1, e2, show (1 : Int) = ((1 : Nat) : Int) from rfl, hL]
    simp only [Option.bind_some]
    rw [parity_s L 1 hrow hB (by omega) (by omega) (by omega)]
    simp only [Option.bind_some, List.nil_append, List.length_nil]
    rw [if_pos (by omega), if_pos (by omega), parity_s (L ++ [[a2]]) 1 hr' hL' (by omega) (by omega) (by omega)]
    simp only [Option.bind_some, sumP_len, sumQ_len, Int.natCast_one, ↓reduceIte]
    rfl
  refine Ev.rounds (Ev.congr key ?_)
  refine Ev.step (fun k => ?_) (known_loop L (2 + m) a2 hlen (by omega) hrow hB ha (2 + m) 0 (by omega) (by omega))
  rw [ramekinlaw5_RsKnown.j0]
  simp [pS, qS]
end Go.Proofs.Ytdbnladpogpiiaa.Pure
