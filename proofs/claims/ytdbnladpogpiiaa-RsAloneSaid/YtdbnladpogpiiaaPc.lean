/-
  ramekinlaw4.Places, plainly: so many places at most, each its own, all within.
-/
import Derived.Test.YtdbnladpogpiiaaCw
namespace Go.Proofs.Ytdbnladpogpiiaa.Pc
open Go.RowKit Go.Proofs.YtdbnladpogpiiaaW.PrintWords
open Go.Proofs.Ytdbnladpogpiiaa.PRq Go.Proofs.Ytdbnladpogpiiaa.Fld Go.Proofs.Ytdbnladpogpiiaa.Pl
set_option linter.unusedSimpArgs false
set_option linter.unusedVariables false
theorem within4_f (a n : Int) (hn : 1 ≤ n) (hn2 : n ≤ 4611686018427387904) : ramekinlaw4_within.f a n = some (a % n) := by
  have hk := tmod_within a n hn
  have h2 := Int.emod_nonneg a (b := n) (by omega)
  have h3 := Int.emod_lt_of_pos a (b := n) (by omega)
  unfold ramekinlaw4_within.f
  rw [if_neg (by omega)]
  by_cases h : Int.tmod a n < 0
  · rw [if_pos h] at hk ⊢
    rw [w64 (by omega) (by omega), hk]
  · rw [if_neg h] at hk ⊢
    rw [hk]
theorem places_l1 (x0 : List Int) (m lim : Int) (x7 : List Int) (x8 t : Int) (hl : x7.length ≤ 1000000) (R : List Int)
    (h : Ev (fun k => if x7.contains t = true then ramekinlaw4_Places.l0 k x0 m lim x7 (wrap64 (x8 + 1)) else ramekinlaw4_Places.l0 k x0 m lim (x7 ++ [t]) (wrap64 (x8 + 1))) R) :
    ∀ d i (b : Bool), x7.length - i = d → i ≤ x7.length → (b = (x7.take i).contains t) → Ev (fun k => ramekinlaw4_Places.l1 k x0 m lim x7 x8 t b (i : Int)) R
  | 0, i, b, hd, hi, hb => by
    obtain rfl : i = x7.length := by omega
    rw [List.take_length] at hb
    refine Ev.step (fun k => ?_) h
    rw [ramekinlaw4_Places.l1, if_neg (by omega), hb]
    by_cases hc : x7.contains t = true
    · rw [if_pos hc, if_pos hc]
    · rw [if_neg hc, if_neg hc, if_pos (by omega)]
  | d + 1, i, b, hd, hi, hb => by
    have hil : i < x7.length := by omega
    have hrd : rd x7 (i : Int) = x7[i] := by rw [rd_nat, at_lt hil]
    have htk : (x7.take (i + 1)).contains t = ((x7.take i).contains t || (t == x7[i])) := by
      rw [List.take_succ_eq_append_getElem hil, List.contains_append]
      rw [List.contains_cons, List.contains_nil, Bool.or_false]
    refine Ev.step (fun k => ?_) (places_l1 x0 m lim x7 x8 t hl R h d (i + 1) ((x7.take (i + 1)).contains t) (by omega) (by omega) rfl)
    rw [ramekinlaw4_Places.l1, if_pos (by omega), w64 (n := (i : Int) + 1) (by omega) (by omega)]
    by_cases hc : b = true
    · rw [if_pos hc, htk, ← hb, hc]
      rfl
    · rw [if_neg hc, if_pos (by omega), hrd, htk, ← hb, Bool.eq_false_iff.2 hc, Bool.false_or, Bool.beq_comm]
      rfl
/-- what Places answers -/
def Ok (lim m : Nat) (P : List Int) : Prop := P.length ≤ lim ∧ (∀ i ∈ P, 0 ≤ i ∧ i < (m : Int)) ∧ P.Nodup
theorem places_l0 (l3 : List Int) (m lim : Nat) (hm : 1 ≤ m) (hm2 : m ≤ 1000000) (hlim : lim ≤ 1000) (hl : l3.length ≤ 9223372036854775807) : ∀ d i (x7 : List Int), l3.length - i = d → i ≤ l3.length → Ok lim m x7 → ∃ P, Ev (fun k => ramekinlaw4_Places.l0 k l3 (m : Int) (lim : Int) x7 (i : Int)) P ∧ Ok lim m P
  | 0, i, x7, hd, hi, hok => by
    obtain rfl : i = l3.length := by omega
    refine ⟨x7, Ev.step (f := fun k => ramekinlaw4_Places.j1 k l3 (m : Int) (lim : Int) x7 (l3.length : Int) false) (fun k => ?_) (Ev.step (f := fun _ => some x7) (fun k => ?_) (Ev.now _)), hok⟩
    · rw [ramekinlaw4_Places.l0, if_neg (by omega)]
    · rw [ramekinlaw4_Places.j1, if_neg (by simp)]
  | d + 1, i, x7, hd, hi, hok => by
    have hil : i < l3.length := by omega
    by_cases hfull : x7.length < lim
    · obtain ⟨t, ht⟩ : ∃ t, t = rd l3 (i : Int) % (m : Int) := ⟨_, rfl⟩
      have t1 := Int.emod_nonneg (rd l3 (i : Int)) (b := (m : Int)) (by omega)
      have t2 := Int.emod_lt_of_pos (rd l3 (i : Int)) (b := (m : Int)) (by omega)
      rw [← ht] at t1 t2
      have e1 : wrap64 ((i : Int) + 1) = ((i + 1 : Nat) : Int) := by rw [w64 (by omega) (by omega)]; rfl
      have go : ∀ P, Ev (fun k => if x7.contains t = true then ramekinlaw4_Places.l0 k l3 (m : Int) (lim : Int) x7 ((i + 1 : Nat) : Int) else ramekinlaw4_Places.l0 k l3 (m : Int) (lim : Int) (x7 ++ [t]) ((i + 1 : Nat) : Int)) P → Ev (fun k => ramekinlaw4_Places.l0 k l3 (m : Int) (lim : Int) x7 (i : Int)) P := fun P hP => by
        refine Ev.step (f := fun k => ramekinlaw4_Places.j1 k l3 (m : Int) (lim : Int) x7 (i : Int) true) (fun k => ?_) (Ev.step (f := fun k => ramekinlaw4_Places.l1 k l3 (m : Int) (lim : Int) x7 (i : Int) t false ((0 : Nat) : Int)) (fun k => ?_) ?_)
        · rw [ramekinlaw4_Places.l0, if_pos (by omega), decide_eq_true (by omega)]
        · rw [ramekinlaw4_Places.j1, if_pos rfl, if_pos (by omega), if_pos (by omega), within4_f _ _ (by omega) (by omega), ← ht]
          rfl
        · exact places_l1 l3 (m : Int) (lim : Int) x7 (i : Int) t (by omega) P (by rw [e1]; exact hP) x7.length 0 false (by omega) (by omega) (by simp)
      by_cases hc : x7.contains t = true
      · obtain ⟨P, h1, h2⟩ := places_l0 l3 m lim hm hm2 hlim hl d (i + 1) x7 (by omega) (by omega) hok
        exact ⟨P, go P (Ev.congr (fun k => by rw [if_pos hc]) h1), h2⟩
      · have hok2 : Ok lim m (x7 ++ [t]) := by
          refine ⟨by simp; omega, fun j hj => ?_, ?_⟩
          · rcases List.mem_append.1 hj with hj | hj
            · exact hok.2.1 j hj
            · rw [List.mem_singleton.1 hj]; exact ⟨t1, t2⟩
          · rw [List.nodup_append]
            refine ⟨hok.2.2, by simp, ?_⟩
            rintro a ha b hb rfl
            rw [List.mem_singleton.1 hb] at ha
            exact hc (by simpa using ha)
        obtain ⟨P, h1, h2⟩ := places_l0 l3 m lim hm hm2 hlim hl d (i + 1) (x7 ++ [t]) (by omega) (by omega) hok2
        exact ⟨P, go P (Ev.congr (fun k => by rw [if_neg hc]) h1), h2⟩
    · refine ⟨x7, Ev.step (f := fun k => ramekinlaw4_Places.j1 k l3 (m : Int) (lim : Int) x7 (i : Int) false) (fun k => ?_) (Ev.step (f := fun _ => some x7) (fun k => ?_) (Ev.now _)), hok⟩
      · rw [ramekinlaw4_Places.l0, if_pos (by omega), decide_eq_false (by omega)]
      · rw [ramekinlaw4_Places.j1, if_neg (by simp)]
theorem places_ev (l3 : List Int) (m lim : Nat) (hm : 1 ≤ m) (hm2 : m ≤ 1000000) (hlim : lim ≤ 1000) (hl : l3.length ≤ 9223372036854775807) : ∃ P, Ev (fun k => ramekinlaw4_Places.f k l3 (m : Int) (lim : Int)) P ∧ Ok lim m P :=
  places_l0 l3 m lim hm hm2 hlim hl l3.length 0 [] (by omega) (by omega) ⟨by simp, by simp, by simp⟩
end Go.Proofs.Ytdbnladpogpiiaa.Pc
