/-
  The document's Fix (ramekinref5): its walk.
-/
import Derived.Test.YtdbnladpogpiiaaFe
import Derived.Test.YtdbnladpogpiiaaFw
import Derived.Deep.QuietTactic
import Derived.BigQuiet
import Derived.StillTailTactics
import Derived.Deep.RegionHeld3
import Derived.Deep.DeepCutAuto
import Derived.IntWalk
namespace Go.Proofs.Ytdbnladpogpiiaa.Fr
open Go.RowKit Go.Proofs.YtdbnladpogpiiaaW.PrintWords Go.Proofs.YtdbnladpogpiiaaW.PrintLast
open Go.Proofs.Ytdbnladpogpiiaa.Fld Go.Proofs.Ytdbnladpogpiiaa.Pl Go.Proofs.Ytdbnladpogpiiaa.Ot Go.Proofs.Ytdbnladpogpiiaa.Oc Go.Proofs.Ytdbnladpogpiiaa.Kp Go.Proofs.Ytdbnladpogpiiaa.Fw Go.Proofs.Ytdbnladpogpiiaa.Co Go.Proofs.Ytdbnladpogpiiaa.Cw Go.Proofs.Ytdbnladpogpiiaa.Cd Go.Proofs.Ytdbnladpogpiiaa.Fd
set_option linter.unusedSimpArgs false
set_option linter.unusedVariables false
theorem info_boolt : (Try.prog.info? 4).map (fun i => (i.zero, i.size, i.bytes)) = some (some (.bool false), 1, 1) := by kernel_rfl
abbrev Post (L : List (List Int)) (lost : List Int) (w : World) (e : Ending) (w' : World) : Prop := ∃ v0 : Value, e = .returned (.tuple #[v0, .bool (mayB L lost)]) ∧ Kd.N (Kd.slice 5 (Kd.int .u8)) 22 w' w.heap.size (fun k => w.heap.size ≤ k) v0 (if mayB L lost = true then fixR L lost else []) ∧ Below w.heap.size w w'
theorem ret_nil {L : List (List Int)} {lost : List Int} {w w' : World} (hf : mayB L lost = false) (hb : Below w.heap.size w w') : Post L lost w (.returned (.tuple #[.slice none 0 0, .bool false])) w' := by
  refine ⟨_, by rw [hf], ?_, hb⟩
  rw [hf]
  exact Kd.N_nil _ _ _ _ _
theorem pair_dup {lost : List Int} (h2 : lost.length = 2) (h : lost[0]'(by omega) = lost[1]'(by omega)) (L : List (List Int)) : mayB L lost = false := by
  refine mayB_bad (j := 1) (by omega) (.inr (.inr ?_))
  match lost, h2 with
  | [a, b], _ =>
    simp at h
    simp [h]
theorem rd_at' (P : List Int) (j : Nat) (hj : j < P.length) : Go.Proofs.YtdbnladpogpiiaaW.PrintWords.rd P (j : Int) = P[j] := by
  simp [Go.Proofs.YtdbnladpogpiiaaW.PrintWords.rd, rdOf, hj]
/-- which of the places are lost, of the first j told -/
def goneB (n : Nat) (lost : List Int) (j : Nat) : List Bool := (List.range n).map fun i : Nat => (lost.take j).contains (i : Int)
theorem goneB_len (n : Nat) (lost : List Int) (j : Nat) : (goneB n lost j).length = n := by simp [goneB]
theorem goneB_zero (n : Nat) (lost : List Int) : goneB n lost 0 = List.replicate n false := by
  unfold goneB
  rw [List.take_zero]
  exact List.eq_replicate_iff.2 ⟨by simp, fun b hb => by
    obtain ⟨i, _, rfl⟩ := List.mem_map.1 hb
    rfl⟩
theorem goneB_get (n : Nat) (lost : List Int) (j i : Nat) (hi : i < n) : (goneB n lost j)[i]? = some ((lost.take j).contains (i : Int)) := by
  unfold goneB
  rw [List.getElem?_map, List.getElem?_range hi]
  rfl
theorem goneB_set (n : Nat) (lost : List Int) (j k : Nat) (hj : j < lost.length) (hk : lost[j] = (k : Int)) (hkn : k < n) : (goneB n lost j).set k true = goneB n lost (j + 1) := by
  apply List.ext_getElem?
  intro i
  by_cases hi : i < n
  · rw [goneB_get n lost (j + 1) i hi]
    have e : (lost.take (j + 1)).contains (i : Int) = ((lost.take j).contains (i : Int) || decide (i = k)) := by
      rw [List.take_succ_eq_append_getElem hj, List.contains_eq_any_beq, List.any_append, List.contains_eq_any_beq, hk]
      congr 1
      rw [List.any_cons, List.any_nil, Bool.or_false]
      by_cases h : i = k
      · subst h; simp
      · rw [decide_eq_false h, beq_eq_false_iff_ne]; omega
    rw [e]
    by_cases h : k = i
    · subst h
      rw [List.getElem?_set_self (by rw [goneB_len]; exact hi)]
      simp
    · rw [List.getElem?_set_ne h, goneB_get n lost j i hi, decide_eq_false (Ne.symm h), Bool.or_false]
  · rw [List.getElem?_eq_none (by rw [List.length_set, goneB_len]; omega), List.getElem?_eq_none (by rw [goneB_len]; omega)]
theorem kept_differ {L : List (List Int)} {lost : List Int} {t m : Nat} (ht : t < L.length) (hm : m < L.length) (ct : lost.contains (t : Int) = false) (cm : lost.contains (m : Int) = false) (hne : (row L t).length ≠ (row L m).length) : mayB L lost = false := by
  rw [Bool.eq_false_iff]
  intro h
  obtain ⟨_, _, _, _, _, h6⟩ := may_facts h
  exact hne ((kept_len h6 t ht ct).trans (kept_len h6 m hm cm).symm)
theorem own_grown {w w1 : World} {b b' : Nat} {e e' : TypeId} {s s' n n' : Nat} {v v' : Value} {xs xs' : List Value} (h : w.ownsRow b e s v n xs) (h' : w.ownsRow b' e' s' v' n' xs') (hne : e ≠ e') (hg : w.grownBy w1 v'.ownBlock) : w1.ownsRow b e s v n xs :=
  own_move h (fun k hk => hg.block k (own_lt h k hk) (fun e2 => by
    rcases own_type_ne h h' hne with h1 | h1
    · rw [h1] at hk; cases hk
    · exact h1 (by rw [hk, e2])))
/-- what the checks have told -/
theorem may_told {L : List (List Int)} {lost : List Int} {z : Int} (h4 : ¬ L.length < 4) (h16 : ¬ 16 < L.length) (h2 : ¬ 2 < lost.length) (hd : ¬ ∃ h : lost.length = 2, lost[0]'(by omega) = lost[1]'(by omega)) (hin : ∀ m (h : m < lost.length), m < lost.length → 0 ≤ lost[m] ∧ lost[m] < L.length)
    (hs : ∀ t : Nat, t < L.length → lost.contains (t : Int) = false → ((row L t).length : Int) = z) (hz : (z = -1 ∧ ∀ t : Nat, t < L.length → lost.contains (t : Int) = true) ∨ (0 ≤ z ∧ ∃ t : Nat, t < L.length ∧ lost.contains (t : Int) = false)) :
    ∃ s : Nat, z = (s : Int) ∧ mayB L lost = true ∧ lenR (kept L lost) = s ∧ (∀ t : Nat, t < L.length → lost.contains (t : Int) = false → (row L t).length = s) ∧ ∃ t : Nat, t < L.length ∧ lost.contains (t : Int) = false := by
  obtain ⟨i0, hi0, hc0⟩ := Rf.spare lost (by omega)
  have hz2 : 0 ≤ z ∧ ∃ t : Nat, t < L.length ∧ lost.contains (t : Int) = false := by
    rcases hz with ⟨_, h⟩ | h
    · rw [h i0 (by omega)] at hc0; cases hc0
    · exact h
  obtain ⟨s, rfl⟩ := Int.eq_ofNat_of_zero_le hz2.1
  have hs2 : ∀ t : Nat, t < L.length → lost.contains (t : Int) = false → (row L t).length = s := fun t h1 h2 => by
    have := hs t h1 h2
    omega
  have hkr : ∀ r ∈ kept L lost, r.length = s := by
    rw [kept_idx]
    intro r hr
    obtain ⟨j, hj, rfl⟩ := List.mem_map.1 hr
    refine hs2 j (idx_lt hj) ?_
    unfold idx at hj
    rw [List.mem_filter] at hj
    simpa using hj.2
  have hnd : lost.Nodup := by
    match lost, h2, hd with
    | [], _, _ => simp
    | [a], _, _ => simp
    | [a, b], _, hd =>
      have : ¬ a = b := fun e => hd ⟨rfl, e⟩
      simp [this]
    | a :: b :: d :: t, h2, _ => simp at h2
  refine ⟨s, rfl, ?_, lenR_of hkr ?_, hs2, hz2.2⟩
  · rw [mayB_of (by omega) (by omega) (by omega) (fun j h => hin j h h) hnd]
    exact alikeR_of hkr
  · intro h
    have : row L i0 ∈ kept L lost := by
      rw [kept_idx]
      refine List.mem_map.2 ⟨i0, ?_, rfl⟩
      unfold idx
      rw [List.mem_filter]
      exact ⟨by simp; omega, by rw [hc0]; rfl⟩
    rw [h] at this
    cases this
theorem range_oR (L : List (List Int)) (lost : List Int) (s : Nat) : (List.range L.length).map (Ow.oR L lost s) = ownR L lost s := by
  have h := Ow.rowsAt_all L lost s
  rw [← h]
  unfold Ow.rowsAt
  refine List.map_congr_left fun i hi => ?_
  rw [if_pos (List.mem_range.1 hi)]
theorem info_intt : (Try.prog.info? 3).map (fun i => (i.zero, i.size, i.bytes)) = some (some (.int .i64 0), 1, 8) := by kernel_rfl
theorem away {w w1 : World} {base n b' : Nat} {e' : TypeId} {s' n' : Nat} {v v' : Value} {hs xs' : List Value} {rows : List (List Int)} (O : OutV w base v n hs rows) (h' : w.ownsRow b' e' s' v' n' xs') (hne : 22 ≠ e') (hne2 : 5 ≠ e') (hg : w.grownBy w1 v'.ownBlock) : OutV w1 base v n hs rows :=
  ⟨own_grown O.head h' hne hg, O.len, fun i h r h1 h2 => own_grown (O.row i h r h1 h2) h' hne2 hg, O.apart, O.max⟩
theorem stored_all {W0 W : World} {G cap n i s Ri ci k nA nB : Nat} {bA bB : Nat} {hs xA xB : List Value} {rows : List (List Int)} {vA vB : Value} (x : Int) (O : OutC W W0.heap.size G cap n hs rows) (hi : hs[i]? = some (.slice (some ⟨Ri, 0, none⟩) s ci)) (hr : BR W W0.heap.size (.slice (some ⟨Ri, 0, none⟩) s ci) (row rows i)) (hlen : (row rows i).length = s)
    (hb : W0.heap.size ≤ Ri) (hA : W.ownsRow bA 3 1 vA nA xA) (hB : W.ownsRow bB 4 1 vB nB xB) (hBl : Below W0.heap.size W0 W) :
    OutC (W.setCell ⟨Ri, k, none⟩ (.int .u8 x)) W0.heap.size G cap n hs (rows.set i ((row rows i).set k x)) ∧ (W.setCell ⟨Ri, k, none⟩ (.int .u8 x)).ownsRow bA 3 1 vA nA xA ∧ (W.setCell ⟨Ri, k, none⟩ (.int .u8 x)).ownsRow bB 4 1 vB nB xB ∧ Below W0.heap.size W0 (W.setCell ⟨Ri, k, none⟩ (.int .u8 x)) := by
  have hr2 : W.ownsRow W0.heap.size 5 1 (.slice (some ⟨Ri, 0, none⟩) s ci) s (encs (Value.int .u8) (row rows i)) := by have h := hr; unfold BR at h; rwa [hlen] at h
  have h1 := (hr2.stored k (.int .u8 x)).2
  exact ⟨O.store hi hr hlen, own_grown hA hr2 (by decide) h1, own_grown hB hr2 (by decide) h1, hBl.setCell (p := ⟨Ri, k, none⟩) hb _⟩
theorem post_of {L rows : List (List Int)} {lost : List Int} {w W0 w' : World} {G cap : Nat} {hs : List Value} (O : OutC w' W0.heap.size G cap L.length hs rows) (hr : rows = fixR L lost) (hm : mayB L lost = true) (hS : W0.heap.size = w.heap.size) (hB : Below w.heap.size w w') : Post L lost w (.returned (.tuple #[.slice (some ⟨G, 0, none⟩) L.length cap, .bool true])) w' := by
  refine ⟨_, by rw [hm], ?_, hB⟩
  rw [if_pos hm, ← hr, ← hS]
  exact OutC.N O
theorem rexp_any (n : Nat) (hn : n < 255) (w : World) : Calls Try.prog 16 #[.int .i64 (n : Int)] w fun e w' => e = .returned (.int .u8 (expI n)) ∧ Drawn0 w w' := by
  obtain ⟨k, hk⟩ := (refexp_ev n hn).rounds
  exact PRq.ramekinref2_Exp.calls k _ _ w hk
theorem rmul_any (x y : Int) (hx : Byt x) (hy : Byt y) (w : World) : Calls Try.prog 15 #[.int .u8 x, .int .u8 y] w fun e w' => e = .returned (.int .u8 (mulI x y)) ∧ Drawn0 w w' := by
  obtain ⟨k, hk⟩ := (refmul_ev hx hy).rounds
  exact PRq.ramekinref2_Mul.calls k _ _ _ w hk
theorem rinv_any (x : Int) (hx : Byt x) (h0 : x ≠ 0) (w : World) : Calls Try.prog 40 #[.int .u8 x] w fun e w' => e = .returned (.int .u8 (invI x)) ∧ Drawn0 w w' := by
  obtain ⟨k, hk⟩ := (refinv_ev hx h0).rounds
  exact PRq.ramekinref2_Inv.calls k _ _ w hk
theorem two_stored {W0 V U : World} {G cap n s x y k Rx Ry cy nA nB : Nat} {bA bB : Nat} {hs xA xB : List Value} {R D : List (List Int)} {a : List Int} {vA vB : Value} (hR : Tw.GoodR s R) (hD : Tw.GoodR s D) (hl : D.length = R.length) (hk : k < s) (hx : x < R.length) (hy : y < R.length) (hxy : x ≠ y) (ha : a = [(x : Int), (y : Int)])
    (h1 : OutC (V.setCell ⟨Rx, k, none⟩ (.int .u8 (at_ (row D x) k))) W0.heap.size G cap n hs ((partR R D a k).set x ((row (partR R D a k) x).set k (at_ (row D x) k))) ∧ (V.setCell ⟨Rx, k, none⟩ (.int .u8 (at_ (row D x) k))).ownsRow bA 3 1 vA nA xA ∧ (V.setCell ⟨Rx, k, none⟩ (.int .u8 (at_ (row D x) k))).ownsRow bB 4 1 vB nB xB ∧ Below W0.heap.size W0 (V.setCell ⟨Rx, k, none⟩ (.int .u8 (at_ (row D x) k))))
    (hiy : hs[y]? = some (.slice (some ⟨Ry, 0, none⟩) s cy)) (hry : BR V W0.heap.size (.slice (some ⟨Ry, 0, none⟩) s cy) (row (partR R D a k) y)) (hne : Rx ≠ Ry) (hly : (row (partR R D [(x : Int), (y : Int)] k) y).length = s) (hby : W0.heap.size ≤ Ry)
    (hU : Below (V.setCell ⟨Rx, k, none⟩ (.int .u8 (at_ (row D x) k))).heap.size (V.setCell ⟨Rx, k, none⟩ (.int .u8 (at_ (row D x) k))) U) :
    OutC (U.setCell ⟨Ry, k, none⟩ (.int .u8 (at_ (row D y) k))) W0.heap.size G cap n hs (partR R D a (k + 1)) ∧ (U.setCell ⟨Ry, k, none⟩ (.int .u8 (at_ (row D y) k))).ownsRow bA 3 1 vA nA xA ∧ (U.setCell ⟨Ry, k, none⟩ (.int .u8 (at_ (row D y) k))).ownsRow bB 4 1 vB nB xB ∧ Below W0.heap.size W0 (U.setCell ⟨Ry, k, none⟩ (.int .u8 (at_ (row D y) k))) := by
  subst ha
  have hrow : row ((partR R D [(x : Int), (y : Int)] k).set x ((row (partR R D [(x : Int), (y : Int)] k) x).set k (at_ (row D x) k))) y = row (partR R D [(x : Int), (y : Int)] k) y := Tw.row_set_ne hxy _
  have hry2 : BR (V.setCell ⟨Rx, k, none⟩ (.int .u8 (at_ (row D x) k))) W0.heap.size (.slice (some ⟨Ry, 0, none⟩) s cy) (row (partR R D [(x : Int), (y : Int)] k) y) := hry.move (fun j e => Below.heap_setCell V ⟨Rx, k, none⟩ _ j (fun e2 => hne (by
    have h3 : Ry = j := by simpa [Value.ownBlock] using e
    have h4 : j = Rx := e2
    omega)))
  have h2 := stored_all (k := k) (at_ (row D y) k) (h1.1.below hU) hiy (by rw [hrow]; exact hry2.below hU) (by rw [hrow]; exact hly) hby (pw_own_below h1.2.1 hU) (pw_own_below h1.2.2.1 hU) (h1.2.2.2.trans (hU.mono h1.2.2.2.size))
  rw [hrow] at h2
  have e := part_two hR hD hl hk hx hy hxy
  unfold stepR at e
  rw [e] at h2
  exact h2
set_option maxRecDepth 100000 in
set_option maxHeartbeats 16000000 in
theorem reffix_any (A A' : Option Addr) (c c' : Nat) (L : List (List Int)) (lost : List Int) (w : World) (hm : L.length ≤ 1000000) (hm' : lost.length ≤ 1000000) (hr : Kd.C (Kd.slice 5 (Kd.int .u8)) w A L.length L) (ho : Kd.C (Kd.int .i64) w A' lost.length lost) (hc : L.length ≤ c) (hc' : lost.length ≤ c')
    (hb : ∀ r ∈ L, Bytes r) (hl : ∀ r ∈ L, r.length ≤ 1000000) :
    Calls Try.prog 24 #[.slice A L.length c, .slice A' lost.length c'] w (Post L lost w) := by
  obtain ⟨iB, hiB, hzB0, hzB1, hzB2⟩ := info_parts info_boolt
  obtain ⟨iR, hiR, hzR0, hzR1, hzR2⟩ := info_parts info_row
  obtain ⟨iY, hiY, hzY0, hzY1, hzY2⟩ := info_parts Ow.info_byte
  obtain ⟨iI, hiI, hzI0, hzI1, hzI2⟩ := info_parts info_intt
  have HR := Lib.hid hr
  have HO := Lib.hid ho
  have HBy := Lib.hid hb
  have HLn := Lib.hid hl
  clear hr ho hb hl
  go_enter Try.func24, Try.ntmps24
  by_cases h4 : L.length < 4
  · as_aux_lemma =>
    -- DONE{
    have g4 : decide ((L.length : Int) < 4) = true := decide_eq_true (by omega)
    have hf := Lib.hid (mayB_len (l := L) (lost := lost) (by omega))
    go_wp2_with fail
    go_quiet (fail)
    go_wp2
    refine bodyPost_ret (results_tmp2 rfl _ _ _) rfl ?_
    exact ret_nil hf.out (pw_below_drewN (Below.refl _ _) _)
    -- }DONE
  by_cases h16 : 16 < L.length
  · as_aux_lemma =>
    -- DONE{
    have g4 : decide ((L.length : Int) < 4) = false := decide_eq_false (by omega)
    have g16 : decide ((16 : Int) < (L.length : Int)) = true := decide_eq_true (by omega)
    have hf := Lib.hid (mayB_len (l := L) (lost := lost) (by omega))
    go_wp2_with fail
    go_quiet (fail)
    go_wp2
    refine bodyPost_ret (results_tmp2 rfl _ _ _) rfl ?_
    exact ret_nil hf.out (pw_below_drewN (Below.refl _ _) _)
    -- }DONE
  by_cases h2 : 2 < lost.length
  · as_aux_lemma =>
    -- DONE{
    have g4 : decide ((L.length : Int) < 4) = false := decide_eq_false (by omega)
    have g16 : decide ((16 : Int) < (L.length : Int)) = false := decide_eq_false (by omega)
    have g2 : decide ((2 : Int) < (lost.length : Int)) = true := decide_eq_true (by omega)
    have hf := Lib.hid (mayB_len (l := L) (lost := lost) (by omega))
    go_wp2_with fail
    go_quiet (fail)
    go_wp2
    refine bodyPost_ret (results_tmp2 rfl _ _ _) rfl ?_
    exact ret_nil hf.out (pw_below_drewN (Below.refl _ _) _)
    -- }DONE
  have g4 : decide ((L.length : Int) < 4) = false := decide_eq_false (by omega)
  have g16 : decide ((16 : Int) < (L.length : Int)) = false := decide_eq_false (by omega)
  have g2 : decide ((2 : Int) < (lost.length : Int)) = false := decide_eq_false (by omega)
  by_cases hdup : ∃ h : lost.length = 2, lost[0]'(by omega) = lost[1]'(by omega)
  · as_aux_lemma =>
    -- DONE{
    obtain ⟨e2, he⟩ := hdup
    have hf := Lib.hid (pair_dup e2 he L)
    obtain ⟨ad, e, hx0⟩ := Kd.at_int HO.out (0 : Int) (by omega) (by omega)
    obtain ⟨ad', e', hx1⟩ := Kd.at_int HO.out (1 : Int) (by omega) (by omega)
    subst e
    cases e'
    have he2 : Go.Proofs.YtdbnladpogpiiaaW.PrintWords.rd lost 0 = Go.Proofs.YtdbnladpogpiiaaW.PrintWords.rd lost 1 := by
      have h0 := rd_at' lost 0 (by omega)
      have h1 := rd_at' lost 1 (by omega)
      exact h0.trans (he.trans h1.symm)
    have HE2 := Lib.hid he2
    have g5 : ((lost.length : Int) == 2) = true := by rw [beq_iff_eq]; omega
    have g6 : (Go.Proofs.YtdbnladpogpiiaaW.PrintWords.rd lost 0 == Go.Proofs.YtdbnladpogpiiaaW.PrintWords.rd lost 1) = true := by rw [beq_iff_eq]; exact he2
    have l0 : (0 : Int) < (lost.length : Int) := by omega
    have l1 : (1 : Int) < (lost.length : Int) := by omega
    have l0n : 0 < lost.length := by omega
    have l1n : 1 < lost.length := by omega
    have a0 : ad.add 0 = ad := by simp [Addr.add]
    rw [show (0 : Int).toNat = 0 from rfl, a0] at hx0; rw [show (1 : Int).toNat = 1 from rfl, show ad.add 1 = ⟨ad.block, ad.off + 1, none⟩ from by simp [Addr.add]] at hx1; clear a0
    clear he he2 e2
    go_wp2_with fail
    go_quiet (fail)
    go_wp2
    refine bodyPost_ret (results_tmp2 rfl _ _ _) rfl ?_
    exact ret_nil hf.out (pw_below_drewN (Below.refl _ _) _)
    -- }DONE
  have HD := Lib.hid hdup
  go_upto_region 1 with fail
  go_cut [50] (fun s50 wx => s50 = .bool false ∧ ∃ q, wx = w.drewN q)
  case first => as_aux_lemma =>
    -- DONE{
    by_cases e2 : lost.length = 2
    · obtain ⟨ad, e, hx0⟩ := Kd.at_int HO.out (0 : Int) (by omega) (by omega)
      obtain ⟨ad', e', hx1⟩ := Kd.at_int HO.out (1 : Int) (by omega) (by omega)
      subst e
      cases e'
      have hne : ¬ Go.Proofs.YtdbnladpogpiiaaW.PrintWords.rd lost 0 = Go.Proofs.YtdbnladpogpiiaaW.PrintWords.rd lost 1 := fun h => hdup ⟨e2, ((rd_at' lost 0 (by omega)).symm.trans (h.trans (rd_at' lost 1 (by omega))))⟩
      have g5 : ((lost.length : Int) == 2) = true := by rw [beq_iff_eq]; omega
      have g6 : (Go.Proofs.YtdbnladpogpiiaaW.PrintWords.rd lost 0 == Go.Proofs.YtdbnladpogpiiaaW.PrintWords.rd lost 1) = false := by rw [beq_eq_false_iff_ne]; exact hne
      have l0 : (0 : Int) < (lost.length : Int) := by omega
      have l1 : (1 : Int) < (lost.length : Int) := by omega
      have l0n : 0 < lost.length := by omega
      have l1n : 1 < lost.length := by omega
      have a0 : ad.add 0 = ad := by simp [Addr.add]
      rw [show (0 : Int).toNat = 0 from rfl, a0] at hx0; rw [show (1 : Int).toNat = 1 from rfl, show ad.add 1 = ⟨ad.block, ad.off + 1, none⟩ from by simp [Addr.add]] at hx1; clear a0
      clear hne e2 hdup
      go_quiet (fail)
      go_wp2
      go_meet
      exact ⟨rfl, _, rfl⟩
    · have g5 : ((lost.length : Int) == 2) = false := by rw [beq_eq_false_iff_ne]; omega
      clear e2 hdup
      go_quiet (fail)
      go_wp2
      go_meet
      exact ⟨rfl, _, rfl⟩
    -- }DONE
  case rest =>
    obtain ⟨rfl, q0, rfl⟩ := hcut
    clear hdup g4 g16 g2
    obtain ⟨W0, hW0⟩ : ∃ x, w.drewN q0 = x := ⟨_, rfl⟩
    have B0 := Lib.hid (show Below w.heap.size w W0 from by rw [← hW0]; exact pw_below_drewN (Below.refl _ _) q0)
    have S0 := Lib.hid (show W0.heap.size = w.heap.size from by rw [← hW0]; rfl)
    have HR0 := Lib.hid (Kd.C_below HR.out B0.out)
    have HO0 := Lib.hid (Kd.C_below HO.out B0.out)
    rw [hW0]
    clear hW0
    go_wp2_with (at_make; refine wpList_make_full W0 rfl _ _ 63 rfl W0.heap.size 4 iB (.bool false) 1 Try.underlying63 hiB hzB0 hzB1 .i64 .i64 _ _ L.length rfl rfl rfl rfl (by rw [hzB2]; omega) (by unfold maxLen; omega) (Nat.le_refl _) ?_; intro w1 how1 hgr1)
    have OB1 := Lib.hid (show w1.ownsRow W0.heap.size 4 1 (.slice (some ⟨W0.heap.size, 0, none⟩) L.length L.length) L.length (encs Value.bool (goneB L.length lost 0)) from by
      rw [goneB_zero]
      have := how1
      unfold encs
      simpa [toList_madeCells_one, Value.cells] using this)
    have B1 := Lib.hid (Below.grown (Below.refl W0.heap.size W0) hgr1 (Nat.le_refl _) (fun k e => by cases e))
    obtain ⟨g1, hg1⟩ : ∃ x, W0.heap.size = x := ⟨_, rfl⟩
    have HG1 := Lib.hid hg1
    rw [hg1] at OB1 ⊢
    clear how1 hgr1 hg1
    go_loopw [7] (fun i wr => ∃ j : Nat, i = .int .i64 j ∧ j ≤ lost.length ∧ Hid (∀ m (h : m < lost.length), m < j → 0 ≤ lost[m] ∧ lost[m] < L.length) ∧ Hid (wr.ownsRow g1 4 1 (.slice (some ⟨g1, 0, none⟩) L.length L.length) L.length (encs Value.bool (goneB L.length lost j))) ∧ Hid (Below W0.heap.size W0 wr)) (fun i _ => lost.length - (intOf i).toNat)
    case atStart => exact ⟨0, rfl, Nat.zero_le _, Lib.hid (fun m _ h => by omega), OB1, B1⟩
    case round =>
      clear OB1 B1
      obtain ⟨j, rfl, hj, HIn, HOB, HB⟩ := hrel
      by_cases hjl : j < lost.length
      · as_aux_lemma =>
        -- DONE{
        obtain ⟨ad, e, hx⟩ := Kd.at_int (Kd.C_below HO0.out HB.out) (j : Int) (by omega) (by omega)
        subst e
        rw [rd_at' lost j hjl, Int.toNat_natCast] at hx
        obtain ⟨x, hxx⟩ : ∃ x, x = lost[j] := ⟨_, rfl⟩
        rw [← hxx] at hx
        have HX := Lib.hid hxx
        clear hxx
        by_cases hx0 : x < 0
        · have hf := Lib.hid (mayB_bad (l := L) hjl (.inl (HX.out ▸ hx0)))
          go_wp2_with fail
          refine bodyPost_ret (results_tmp2 rfl _ _ _) rfl ?_
          exact ret_nil hf.out (B0.out.trans (HB.out.mono B0.out.size))
        by_cases hxl : (L.length : Int) ≤ x
        · have hf := Lib.hid (mayB_bad (l := L) hjl (.inr (.inl (HX.out ▸ hxl))))
          go_wp2_with fail
          refine bodyPost_ret (results_tmp2 rfl _ _ _) rfl ?_
          exact ret_nil hf.out (B0.out.trans (HB.out.mono B0.out.size))
        obtain ⟨k, hk⟩ := Int.eq_ofNat_of_zero_le (show 0 ≤ x by omega)
        have HXk := Lib.hid (show lost[j] = (k : Int) from by rw [← HX.out, hk])
        have hkn : k < L.length := by omega
        rw [hk] at hx
        have hkl : ¬ (L.length : Int) ≤ (k : Int) := by omega
        clear hk hx0 hxl HX
        have hfz := Sh.bfrozen HOB.out k
        have hst := HOB.out.stored k (.bool true)
        have hset : (encs Value.bool (goneB L.length lost j)).set k (.bool true) = encs Value.bool (goneB L.length lost (j + 1)) := by
          rw [← goneB_set L.length lost j k hjl HXk.out hkn]
          unfold encs
          rw [List.map_set]
        rw [hset] at hst
        have HSt := Lib.hid hst
        have hcl : wr.cell? ⟨g1, k, none⟩ = some (.bool ((lost.take j).contains (k : Int))) := by
          rw [HOB.out.cellAt k (by omega)]
          unfold encs
          rw [List.getElem?_map, goneB_get L.length lost j k hkn]
          rfl
        have HG1l := Lib.hid (show g1 = W0.heap.size from HG1.out.symm)
        clear hst hset
        go_wp2_with fail
        go_roundw
        case rel => exact ⟨j + 1, by simp, by omega, Lib.hid (fun m h hmj => by
          by_cases e : m = j
          · subst e; rw [HXk.out]; omega
          · exact HIn.out m h (by omega)), Lib.hid HSt.out.1, Lib.hid (HB.out.grown HSt.out.2 HB.out.size (fun k e => by injection e with e; have := HG1l.out; omega))⟩
        case measure => simp [intOf]; omega
        -- }DONE
      · obtain rfl : j = lost.length := by omega
        go_wp2_with fail
        obtain ⟨W1, hW1⟩ : ∃ x, x = wr := ⟨_, rfl⟩
        have HGone := Lib.hid (show ∀ t : Nat, t < L.length → W1.cell? ⟨g1, t, none⟩ = some (.bool (lost.contains (t : Int))) from fun t ht => by
          rw [hW1, HOB.out.cellAt t (by omega)]
          unfold encs
          rw [List.getElem?_map, goneB_get L.length lost lost.length t ht, List.take_of_length_le (Nat.le_refl _)]
          rfl)
        have HOB1 := Lib.hid (show W1.ownsRow g1 4 1 (.slice (some ⟨g1, 0, none⟩) L.length L.length) L.length (encs Value.bool (goneB L.length lost lost.length)) from by rw [hW1]; exact HOB.out)
        have HB1 := Lib.hid (show Below W0.heap.size W0 W1 from by rw [hW1]; exact HB.out)
        have HR1 := Lib.hid (Kd.C_below HR0.out HB1.out)
        rw [← hW1]
        clear hW1 HOB HB
        go_loopw [8, 9] (fun sz i wr => ∃ (m : Nat) (z : Int), sz = .int .i64 z ∧ i = .int .i64 m ∧ m ≤ L.length ∧ wr = W1 ∧ Hid (∀ t : Nat, t < m → lost.contains (t : Int) = false → ((row L t).length : Int) = z) ∧ Hid ((z = -1 ∧ ∀ t : Nat, t < m → lost.contains (t : Int) = true) ∨ (0 ≤ z ∧ ∃ t : Nat, t < m ∧ lost.contains (t : Int) = false))) (fun _ i _ => L.length - (intOf i).toNat)
        case atStart => exact ⟨0, -1, rfl, rfl, Nat.zero_le _, rfl, Lib.hid (fun t h => by omega), Lib.hid (.inl ⟨rfl, fun t h => by omega⟩)⟩
        case round =>
          obtain ⟨m, z, rfl, rfl, hmn, hwr, HS, HZ⟩ := hrel
          subst hwr
          by_cases hml : m < L.length
          · as_aux_lemma =>
            -- DONE{
            have hgm := HGone.out m hml
            by_cases hc : lost.contains (m : Int) = true
            · rw [hc] at hgm
              have HC := Lib.hid hc
              clear hc
              go_wp2_with fail
              go_roundw
              case rel => exact ⟨m + 1, z, rfl, by simp, by omega, trivial, Lib.hid (fun t ht hct => by
                by_cases e : t = m
                · subst e; rw [HC.out] at hct; cases hct
                · exact HS.out t (by omega) hct), Lib.hid (by
                rcases HZ.out with ⟨h1, h2⟩ | ⟨h1, t, h2, h3⟩
                · exact .inl ⟨h1, fun t ht => by
                    by_cases e : t = m
                    · subst e; exact HC.out
                    · exact h2 t (by omega)⟩
                · exact .inr ⟨h1, t, by omega, h3⟩)⟩
              case measure => simp [intOf]; omega
            · rw [Bool.not_eq_true] at hc
              rw [hc] at hgm
              have HC := Lib.hid hc
              obtain ⟨ad, e, hx, hxc, hxC⟩ := hdr_at HR1.out m hml
              subst e
              obtain ⟨lm, hlm⟩ : ∃ x, (row L m).length = x := ⟨_, rfl⟩
              have HLm := Lib.hid hlm
              have hxe : hdr wr (some ad) L m = .slice (fA wr (some ad) m) lm (fc wr (some ad) m) := by rw [hdr, hlm]
              rw [hxe] at hx
              clear hc hxe hxc hxC hlm
              generalize fA wr (some ad) m = A6 at hx
              generalize fc wr (some ad) m = c6 at hx
              by_cases hz : 0 ≤ z
              · have hzd : decide (0 ≤ z) = true := decide_eq_true hz
                by_cases hlz : (lm : Int) = z
                · have hb1 : ((lm : Int) != z) = false := by rw [hlz]; simp
                  have HLZ := Lib.hid hlz
                  clear hlz
                  go_wp2_with fail
                  go_roundw
                  case rel => exact ⟨m + 1, (lm : Int), rfl, by simp, by omega, trivial, Lib.hid (fun t ht hct => by
                    by_cases e : t = m
                    · subst e; rw [HLm.out]
                    · rw [HS.out t (by omega) hct, HLZ.out]), Lib.hid (.inr ⟨by omega, m, by omega, HC.out⟩)⟩
                  case measure => simp [intOf]; omega
                · have hb1 : ((lm : Int) != z) = true := by rw [bne_iff_ne]; exact hlz
                  have hf := Lib.hid (show mayB L lost = false from by
                    rcases HZ.out with ⟨h1, _⟩ | ⟨_, t, h2, h3⟩
                    · omega
                    · refine kept_differ (show t < L.length by omega) hml h3 HC.out (fun h => hlz ?_)
                      rw [← HS.out t h2 h3, h, HLm.out])
                  go_wp2_with fail
                  refine bodyPost_ret (results_tmp2 rfl _ _ _) rfl ?_
                  exact ret_nil hf.out (B0.out.trans (HB1.out.mono B0.out.size))
              · have hzd : decide (0 ≤ z) = false := decide_eq_false hz
                go_wp2_with fail
                go_roundw
                case rel => exact ⟨m + 1, (lm : Int), rfl, by simp, by omega, trivial, Lib.hid (fun t ht hct => by
                    by_cases e : t = m
                    · subst e; rw [HLm.out]
                    · rcases HZ.out with ⟨_, h2⟩ | ⟨h1, _⟩
                      · rw [h2 t (by omega)] at hct; cases hct
                      · omega), Lib.hid (.inr ⟨by omega, m, by omega, HC.out⟩)⟩
                case measure => simp [intOf]; omega
            -- }DONE
          · obtain rfl : m = L.length := by omega
            obtain ⟨s, rfl, hmay, hlr, hsl, hex⟩ := may_told h4 h16 h2 HD.out HIn.out HS.out HZ.out
            have HMay := Lib.hid hmay
            have HLr := Lib.hid hlr
            have HSl := Lib.hid hsl
            have hs1 : s ≤ 1000000 := by
              obtain ⟨t, ht, hc⟩ := hex
              have h1 := hsl t ht hc
              have h3 := HLn.out _ (List.getElem_mem ht)
              rw [← row_lt ht] at h3
              omega
            clear hmay hlr hsl hex HS HZ HIn HD
            go_wp2_with fail
            have HG2 := Lib.hid (show g1 = W0.heap.size from HG1.out.symm)
            obtain ⟨W1, hW1⟩ : ∃ x, x = wr := ⟨_, rfl⟩
            subst hW1
            obtain ⟨R0, hR0⟩ : ∃ x : Nat → List (List Int), x = fun j => (List.range j).map (Ow.oR L lost s) := ⟨_, rfl⟩
            have HRz := Lib.hid (show R0 0 = [] from by rw [hR0]; rfl)
            have HRs := Lib.hid (show ∀ j, R0 (j + 1) = R0 j ++ [Ow.oR L lost s j] from fun j => by rw [hR0]; simp only [List.range_succ, List.map_append, List.map_cons, List.map_nil])
            have HRa := Lib.hid (show R0 L.length = ownR L lost s from by rw [hR0]; exact range_oR L lost s)
            clear hR0
            have O0 := Lib.hid (OutV.none_ W1 W0.heap.size)
            rw [← HRz.out] at O0
            go_loopw [10, 11] (fun v i w2 => ∃ (m : Nat) (hs : List Value), i = .int .i64 m ∧ m ≤ L.length ∧ Hid (OutV w2 W0.heap.size v m hs (R0 m)) ∧ Hid (w2.ownsRow g1 4 1 (.slice (some ⟨g1, 0, none⟩) L.length L.length) L.length (encs Value.bool (goneB L.length lost lost.length))) ∧ Hid (Below W0.heap.size W0 w2)) (fun _ i _ => L.length - (intOf i).toNat)
            case atStart => exact ⟨0, [], rfl, Nat.zero_le _, O0, HOB1, HB1⟩
            case round =>
              clear O0
              obtain ⟨m, hs, rfl, hmn, HO2, HOB2, HB2⟩ := hrel
              by_cases hml : m < L.length
              · as_aux_lemma =>
                -- DONE{
                have hgm : wr.cell? ⟨g1, m, none⟩ = some (.bool (lost.contains (m : Int))) := by
                  rw [HOB2.out.cellAt m (by omega)]
                  unfold encs
                  rw [List.getElem?_map, goneB_get L.length lost lost.length m hml, List.take_of_length_le (Nat.le_refl _)]
                  rfl
                have hB2 := HB2.out.size
                have h16' : L.length ≤ 16 := by omega
                by_cases hc : lost.contains (m : Int) = true
                · rw [hc] at hgm
                  have HRow := Lib.hid (show Ow.oR L lost s m = List.replicate s 0 from by rw [Ow.oR, if_pos hc])
                  clear hc
                  go_wp2_with (first
                    | (at_make; refine wpList_make_full wr rfl _ _ 22 rfl wr.heap.size 5 iY (.int .u8 0) 1 Try.underlying22 hiY hzY0 hzY1 .i64 .i64 _ _ s rfl rfl rfl rfl (by rw [hzY2]; omega) (by unfold maxLen; omega) (Nat.le_refl _) ?_; intro w2 how2 hgr2; have O2 := Lib.hid (HO2.out.below (Below.grown (Below.refl _ _) hgr2 (Nat.le_refl _) (fun k e => by cases e))); have BR2 := Lib.hid (show BR w2 W0.heap.size (.slice (some ⟨wr.heap.size, 0, none⟩) s s) (List.replicate s 0) from by
                        have h1 := own_weaken how2 hB2
                        unfold BR encs
                        rw [List.length_replicate]
                        simpa [toList_madeCells_one, Value.cells] using h1); have B2 := Lib.hid (Below.grown (Below.refl wr.heap.size wr) hgr2 (Nat.le_refl _) (fun k e => by cases e)); clear how2 hgr2)
                    | (at_builtin; refine wpList_append_own _ rfl (.tmp 124) (.tmp 127) 25 rfl W0.heap.size 22 iR (.slice none 0 0) 1 24 Try.underlying25 hiR hzR0 hzR1 hzR2 rfl (by decide) u10 m hs rfl (O2.out.head.alloc _) ⟨w2.heap.size, 0, none⟩ 1 1 [.slice (some ⟨wr.heap.size, 0, none⟩) s s] rfl rfl (cell_one_new _ _ _) (by simp [Value.oneCell']) (by unfold maxLen; omega) (by omega) (by have := B2.out.size; simp; omega) ?_; intro v3 w3 how3 hgr3 _))
                  have O2a := O2.out.below (below_alloc (Below.refl _ _) (.cells #[.slice (some ⟨wr.heap.size, 0, none⟩) s s] 22))
                  have OB2a := pw_own_below (pw_own_below HOB2.out B2.out) (below_alloc (Below.refl _ _) (.cells #[.slice (some ⟨wr.heap.size, 0, none⟩) s s] 22))
                  have HO3 := Lib.hid (O2a.snoc hgr3 how3 (BR2.out.below (below_alloc (Below.refl _ _) _)) (fun j g k hi hg h2 => by
                    obtain ⟨r, _, hr⟩ := HO2.out.rlt hi
                    have h6 := own_lt hr k hg
                    have h7 : wr.heap.size = k := by simpa [Value.ownBlock] using h2
                    omega) (by omega))
                  rw [← HRow.out, ← HRs.out] at HO3
                  have HOB3 := Lib.hid (own_grown OB2a O2a.head (by decide) hgr3)
                  have HB3 := Lib.hid (Below.grown (below_alloc (HB2.out.trans (B2.out.mono hB2)) (.cells #[.slice (some ⟨wr.heap.size, 0, none⟩) s s] 22)) hgr3 (by have := B2.out.size; simp; omega) (fun k e => own_base O2a.head k e))
                  clear O2a OB2a hgr3 how3
                  go_roundw
                  case rel => exact ⟨m + 1, _, by simp, by omega, HO3, HOB3, HB3⟩
                  case measure => simp [intOf]; omega
                · rw [Bool.not_eq_true] at hc
                  rw [hc] at hgm
                  have HRow := Lib.hid (show Ow.oR L lost s m = row L m from by rw [Ow.oR, if_neg (by rw [hc]; simp)])
                  obtain ⟨ad, e, hx, hxc, hxC⟩ := hdr_at HR0.out m hml
                  subst e
                  have hlm := HSl.out m hml hc
                  obtain ⟨rm, hrm⟩ : ∃ x, row L m = x := ⟨_, rfl⟩
                  have hxe : hdr W0 (some ad) L m = .slice (fA W0 (some ad) m) rm.length (fc W0 (some ad) m) := by rw [hdr, hrm]
                  rw [hxe] at hx
                  rw [hrm] at hlm hxC HRow
                  have HXC := Lib.hid (Kd.C_below hxC HB2.out)
                  have hx2 := pw_cell_below HB2.out hx
                  have HLm := Lib.hid hlm
                  clear hc hxe hxc hxC hlm hrm hx
                  generalize fA W0 (some ad) m = A6 at hx2 HXC
                  generalize fc W0 (some ad) m = c6 at hx2
                  have hrl : rm.length ≤ 1000000 := by rw [HLm.out]; exact hs1
                  go_wp2_with (first
                    | ((with_reducible refine gate_dst (N := 130) rfl ?_); refine Kd.R_lit (Kd.int .u8) (w0 := wr) wr.heap.size 5 rfl (N := 130) rfl (xs := ([] : List Int)) (inner := []) (ok := fun _ => True) (okp := fun _ => False) (by first | (go_simp; done) | (go_simp; rfl)) (Reps.none _ _) (fun _ hk => hk.elim) trivial (Below.refl _ _) (Nat.le_refl _) (by simp) ?_; intro v5 w5 r5 hb5 _ _; have R5 := Lib.hid r5; have B5 := Lib.hid hb5; have hx5 := pw_cell_below hb5 hx2; clear r5 hb5)
                    | ((with_reducible refine gate_builtin (b := .append) (xs := #[.tmp 130, .tmp 134]) rfl ?_); at_builtin; refine Kd.R_append_rows (Kd.int .u8) (w0 := wr) wr.heap.size rfl (.tmp 130) (.tmp 134) 22 5 (.int .u8 0) 1 rfl Try.underlying22 Ow.info_byte rfl (by decide) (by omega) v5 [] rm A6 rm.length c6 (fun _ => True) (fun _ => False) rfl rfl R5.out (Kd.C_below HXC.out B5.out) (fun _ _ h => h) (fun _ h => h.elim) (fun _ _ => trivial) B5.out B5.out.size (by simp; omega) ?_; intro v6 w6 r6 hb6 _ _; rw [List.nil_append] at r6; obtain ⟨A7, c7, e7⟩ := Kd.R_slice r6; subst e7; have R6 := Lib.hid r6; have B6 := Lib.hid hb6; have O6 := Lib.hid (HO2.out.below hb6); clear r6 hb6 R5 B5 hx5)
                    | ((with_reducible refine gate_builtin (b := .append) (xs := #[.tmp 129, .tmp 136]) rfl ?_); at_builtin; refine wpList_append_own _ rfl (.tmp 129) (.tmp 136) 25 rfl W0.heap.size 22 iR (.slice none 0 0) 1 24 Try.underlying25 hiR hzR0 hzR1 hzR2 rfl (by decide) u10 m hs rfl (O6.out.head.alloc _) ⟨w6.heap.size, 0, none⟩ 1 1 [.slice A7 rm.length c7] rfl rfl (cell_one_new _ _ _) (by simp [Value.oneCell']) (by unfold maxLen; omega) (by omega) (by have := B6.out.size; simp; omega) ?_; intro v3 w3 how3 hgr3 _))
                  have O2a := O6.out.below (below_alloc (Below.refl _ _) (.cells #[.slice A7 rm.length c7] 22))
                  have OB2a := pw_own_below (pw_own_below HOB2.out B6.out) (below_alloc (Below.refl _ _) (.cells #[.slice A7 rm.length c7] 22))
                  have BR6 : BR w6 W0.heap.size (.slice A7 rm.length c7) rm := own_weaken (BR.of R6.out) hB2
                  have HO3 := Lib.hid (O2a.snoc hgr3 how3 (BR6.below (below_alloc (Below.refl _ _) _)) (fun j g k hi hg h2 => by
                    obtain ⟨r, _, hr⟩ := HO2.out.rlt hi
                    have h6 := own_lt hr k hg
                    have h7 := own_base (BR.of R6.out) k h2
                    omega) (by omega))
                  rw [← HRow.out, ← HRs.out] at HO3
                  have HOB3 := Lib.hid (own_grown OB2a O2a.head (by decide) hgr3)
                  have HB3 := Lib.hid (Below.grown (below_alloc (HB2.out.trans (B6.out.mono hB2)) (.cells #[.slice A7 rm.length c7] 22)) hgr3 (by have := B6.out.size; simp; omega) (fun k e => own_base O2a.head k e))
                  clear O2a OB2a hgr3 how3 BR6
                  go_roundw
                  case rel => exact ⟨m + 1, _, by simp, by omega, HO3, HOB3, HB3⟩
                  case measure => simp [intOf]; omega
                -- }DONE
              · obtain rfl : m = L.length := by omega
                obtain ⟨G, cap, eG, hbG, hG0⟩ := HO2.out.head.form (by omega)
                subst eG
                have HO3 := Lib.hid (show OutC wr W0.heap.size G cap L.length hs (ownR L lost s) from by have h := HO2.out; rwa [HRa.out] at h)
                clear HO2 HRz HRs HRa
                obtain ⟨d, hd⟩ : ∃ d, L.length = d + 2 := ⟨L.length - 2, by omega⟩
                have HD2 := Lib.hid hd
                have hd2 : 2 ≤ d := by omega
                have hd14 : d ≤ 14 := by omega
                have hdI : IntKind.i64.wrap ((L.length : Int) - 2) = (d : Int) := by rw [IntWalk.i64_in _ (by omega)]; omega
                have HDI := Lib.hid hdI
                have HDJ := Lib.hid (show (L.length : Int) - 2 = (d : Int) from by omega)
                clear hd hdI
                go_wp2_with fail
                rw [HDJ.out]
                have OA0 : wr.ownsRow W0.heap.size 3 1 (.slice none 0 0) (aI lost 0).length (encs (Value.int .i64) (aI lost 0)) := World.ownsRow_nil _ _ _ _
                have HOA0 := Lib.hid OA0
                clear OA0
                go_loopw [13, 14] (fun v i w2 => ∃ m : Nat, i = .int .i64 m ∧ m ≤ d ∧ Hid (w2.ownsRow W0.heap.size 3 1 v (aI lost m).length (encs (Value.int .i64) (aI lost m))) ∧ Hid (OutC w2 W0.heap.size G cap L.length hs (ownR L lost s)) ∧ Hid (w2.ownsRow g1 4 1 (.slice (some ⟨g1, 0, none⟩) L.length L.length) L.length (encs Value.bool (goneB L.length lost lost.length))) ∧ Hid (Below W0.heap.size W0 w2)) (fun _ i _ => d - (intOf i).toNat)
                case atStart => exact ⟨0, rfl, Nat.zero_le _, HOA0, HO3, HOB2, HB2⟩
                case round =>
                  clear HOA0 HO3 HOB2 HB2
                  obtain ⟨m, rfl, hmn, HOA, HO4, HOB4, HB4⟩ := hrel
                  by_cases hml : m < d
                  · as_aux_lemma =>
                    -- DONE{
                    have hmL : m < L.length := by have := HD2.out; omega
                    have hgm : wr.cell? ⟨g1, m, none⟩ = some (.bool (lost.contains (m : Int))) := by
                      rw [HOB4.out.cellAt m (by omega)]
                      unfold encs
                      rw [List.getElem?_map, goneB_get L.length lost lost.length m hmL, List.take_of_length_le (Nat.le_refl _)]
                      rfl
                    have hB4 := HB4.out.size
                    have hal := aI_len lost m
                    by_cases hc : lost.contains (m : Int) = true
                    · rw [hc] at hgm
                      have HAs := Lib.hid (show aI lost (m + 1) = aI lost m ++ [(m : Int)] from by rw [aI_succ, if_pos hc])
                      clear hc
                      go_wp2_with (first
                        | ((with_reducible refine gate_builtin (b := .append) (xs := #[.tmp 150, .tmp 152]) rfl ?_); at_builtin; refine wpList_append_own _ rfl (.tmp 150) (.tmp 152) 35 rfl W0.heap.size 3 iI (.int .i64 0) 1 8 Try.underlying35 hiI hzI0 hzI1 hzI2 rfl (by decide) u13 _ _ rfl (HOA.out.alloc _) ⟨wr.heap.size, 0, none⟩ 1 1 [.int .i64 (m : Int)] rfl rfl (cell_one_new _ _ _) (by simp [Value.oneCell']) (by unfold maxLen; omega) (by omega) (by simp; omega) ?_; intro v3 w3 how3 hgr3 _))
                      have hal2 := below_alloc (Below.refl wr.heap.size wr) (.cells #[.int .i64 (m : Int)] 3)
                      have OAa := HOA.out.alloc (.cells #[.int .i64 (m : Int)] 3)
                      have HOA5 := Lib.hid (show w3.ownsRow W0.heap.size 3 1 v3 (aI lost (m + 1)).length (encs (Value.int .i64) (aI lost (m + 1))) from by
                        rw [HAs.out, List.length_append]
                        have h := how3
                        unfold encs at h ⊢
                        rw [List.map_append]
                        exact h)
                      have HO5 := Lib.hid (away (HO4.out.below hal2) OAa (by decide) (by decide) hgr3)
                      have HOB5 := Lib.hid (own_grown (pw_own_below HOB4.out hal2) OAa (by decide) hgr3)
                      have HB5 := Lib.hid (Below.grown (below_alloc HB4.out (.cells #[.int .i64 (m : Int)] 3)) hgr3 (by simp; omega) (fun k e => own_base OAa k e))
                      clear OAa hgr3 how3 hal2
                      go_roundw
                      case rel => exact ⟨m + 1, by simp, by omega, HOA5, HO5, HOB5, HB5⟩
                      case measure => simp [intOf]; omega
                    · rw [Bool.not_eq_true] at hc
                      rw [hc] at hgm
                      have HAs := Lib.hid (show aI lost (m + 1) = aI lost m from by rw [aI_succ, if_neg (by rw [hc]; simp), List.append_nil])
                      clear hc
                      go_wp2_with fail
                      go_roundw
                      case rel => exact ⟨m + 1, by simp, by omega, by rw [HAs.out]; exact HOA, HO4, HOB4, HB4⟩
                      case measure => simp [intOf]; omega
                    -- }DONE
                  · obtain rfl : m = d := by omega
                    go_wp2_with fail
                    have hgR := own_good HBy.out HSl.out
                    have hRl : (ownR L lost s).length = m + 2 := by rw [own_len]; exact HD2.out
                    obtain ⟨R, hR⟩ : ∃ x, ownR L lost s = x := ⟨_, rfl⟩
                    obtain ⟨a, ha⟩ : ∃ x, aI lost m = x := ⟨_, rfl⟩
                    have hgt := good_take (m := m) (hR ▸ hgR)
                    have bt : ∀ r ∈ R.take m, Bytes r := fun r h => (hgt r h).2
                    obtain ⟨p, hp⟩ : ∃ x, addR (sumP (R.take m) s) (row R m) 1 = x := ⟨_, rfl⟩
                    obtain ⟨q, hq⟩ : ∃ x, addR (sumQ (R.take m) s) (row R (m + 1)) 1 = x := ⟨_, rfl⟩
                    rw [hR] at hgR hRl HO4
                    have hgm := (Tw.good_row hgR (i := m) (by omega)).2
                    have hgm1 := (Tw.good_row hgR (i := m + 1) (by omega)).2
                    have hpg : p.length = s ∧ Bytes p := by rw [← hp]; exact ⟨by rw [addR_len, sumP_len], bytes_addR (bytes_sumP _ _ bt) hgm ⟨by omega, by omega⟩⟩
                    have hqg : q.length = s ∧ Bytes q := by rw [← hq]; exact ⟨by rw [addR_len, sumQ_len], bytes_addR (bytes_sumQ _ _ bt) hgm1 ⟨by omega, by omega⟩⟩
                    have hdc := data_cases HMay.out HD2.out (R := R) p q
                    obtain ⟨hdg, hdl, hdo⟩ := data_good HMay.out HD2.out hgR hRl hpg hqg
                    have hpar := par_cases (D := dataR R ((srt lost).map Int.toNat) m p q) (n := s) HMay.out HD2.out
                    have hfix : fixR L lost = parR (dataR R ((srt lost).map Int.toNat) m p q) ((srt lost).map Int.toNat) m s := by
                      unfold fixR
                      simp only
                      rw [HLr.out, hR, show L.length - 2 = m from by have := HD2.out; omega, hp, hq]
                    rw [hpar] at hfix
                    obtain ⟨D, hD⟩ : ∃ x, dataR R ((srt lost).map Int.toNat) m p q = x := ⟨_, rfl⟩
                    rw [hD] at hdc hdg hdl hdo hfix
                    rw [ha] at hdc hdo HOA
                    have HGR := Lib.hid hgR
                    have HGD := Lib.hid hdg
                    have HDO := Lib.hid hdo
                    have HFx := Lib.hid hfix
                    have HRl := Lib.hid hRl
                    have HDl := Lib.hid hdl
                    have HDC := Lib.hid hdc
                    have HPg := Lib.hid hpg
                    have HQg := Lib.hid hqg
                    have HPk := Lib.hid (show ∀ k, k < s → at_ p k = xorI (pS (R.take m) k) (at_ (row R m) k) from fun k hk => by rw [← hp]; exact p_at hgR hRl hk)
                    have HQk := Lib.hid (show ∀ k, k < s → at_ q k = xorI (qS 0 (R.take m) k) (at_ (row R (m + 1)) k) from fun k hk => by rw [← hq]; exact q_at hgR hRl hk)
                    have HRz := Lib.hid (show ∀ i : Nat, i < L.length → lost.contains (i : Int) = true → row R i = List.replicate s 0 from fun i hi hc => by rw [← hR, ownR_row _ _ _ _ hi, if_pos hc])
                    have HAm := Lib.hid (show ∀ i : Nat, i < m → a.contains (i : Int) = lost.contains (i : Int) from fun i hi => by rw [← ha]; exact aI_contains lost m i hi)
                    have HAl := Lib.hid (show ∀ i : Nat, m ≤ i → a.contains (i : Int) = false from fun i hi => by rw [← ha]; exact aI_over lost m i hi)
                    have HBt := Lib.hid bt
                    clear hgR hdg hdo hfix hRl hdl hdc hpg hqg hgt bt hpar hp hq hR ha hD hgm hgm1
                    obtain ⟨A13, c13, e13, _, _⟩ := Kd.R_reads (Kd.R_of_own (h1 := fun _ => rfl) (ok := fun _ => True) HOA.out (fun _ _ => trivial))
                    subst e13
                    obtain ⟨la, hla⟩ : ∃ x, a.length = x := ⟨_, rfl⟩
                    have HLa := Lib.hid hla
                    rw [hla] at HOA ⊢
                    clear hla
                    have HO5 := Lib.hid (show OutC wr W0.heap.size G cap L.length hs (partR R D a 0) from by rw [Fd.part_zero]; exact HO4.out)
                    clear HO4
                    go_loopw [15, 16, 17, 18, 19, 20, 21] (fun i s16 s17 s18 s19 s20 s21 w2 => ∃ k : Nat, i = .int .i64 k ∧ k ≤ s ∧ Hid (w2.ownsRow W0.heap.size 3 1 (.slice A13 la c13) la (encs (Value.int .i64) a)) ∧ Hid (OutC w2 W0.heap.size G cap L.length hs (partR R D a k)) ∧ Hid (w2.ownsRow g1 4 1 (.slice (some ⟨g1, 0, none⟩) L.length L.length) L.length (encs Value.bool (goneB L.length lost lost.length))) ∧ Hid (Below W0.heap.size W0 w2)) (fun i s16 s17 s18 s19 s20 s21 _ => s - (intOf i).toNat)
                    case atStart => exact ⟨0, rfl, Nat.zero_le _, HOA, HO5, HOB4, HB4⟩
                    case round =>
                      clear HOA HO5 HOB4 HB4
                      obtain ⟨k, rfl, hks, HOA, HO6, HOB6, HB6⟩ := hrel
                      by_cases hkl : k < s
                      · have hpl : (partR R D a k).length = L.length := by rw [partR_len, HRl.out, HD2.out]
                        have hgl := goneB_len L.length lost lost.length
                        have hgc : ∀ i : Nat, i < m → ∀ b, (goneB L.length lost lost.length)[i]? = some b → lost.contains (i : Int) = b := fun i hi b hb => by
                          rw [goneB_get _ _ _ _ (by have := HD2.out; omega), List.take_of_length_le (Nat.le_refl _)] at hb
                          injection hb
                        have hev := rsums_ev (partR R D a k) R (goneB L.length lost lost.length) m s k hkl HGR.out HRl.out (by rw [hpl]; exact HD2.out) (by rw [hgl]; exact HD2.out) hd14 hs1 (fun i hi hb => by
                          rw [partR_row _ _ _ _ _ (by rw [HRl.out]; omega), HAm.out i hi, hgc i hi false hb]
                          rfl) (fun i hi hb => by rw [HRz.out i (by have := HD2.out; omega) (hgc i hi true hb), at_zero])
                        obtain ⟨sv, hsv⟩ : ∃ x, pS (R.take m) k = x := ⟨_, rfl⟩
                        obtain ⟨tv, htv⟩ : ∃ x, qS 0 (R.take m) k = x := ⟨_, rfl⟩
                        rw [hsv, htv] at hev
                        obtain ⟨kk, hkk⟩ := hev.rounds
                        have hcg : Kd.C Kd.bool wr (some ⟨g1, 0, none⟩) (goneB L.length lost lost.length).length (goneB L.length lost lost.length) := (Kd.R_reads' (Kd.R_of_own (enc := Value.bool) (h1 := fun _ => rfl) (ok := fun _ => True) (xs := goneB L.length lost lost.length) (by rw [hgl]; exact HOB6.out) (fun _ _ => trivial))).2.2
                        have hsum := PRq.ramekinref5_sums.calls kk (some ⟨G, 0, none⟩) cap (partR R D a k) (some ⟨g1, 0, none⟩) L.length (goneB L.length lost lost.length) (k : Int) sv tv wr HO6.out.C (by rw [hpl]; exact HO6.out.capn) hcg (by rw [hgl]; exact Nat.le_refl _) hkk
                        rw [hpl, hgl] at hsum
                        have HSum := Lib.hid hsum
                        have HPk1 := Lib.hid (show at_ p k = xorI sv (at_ (row R m) k) from by rw [HPk.out k hkl, hsv])
                        have HQk1 := Lib.hid (show at_ q k = xorI tv (at_ (row R (m + 1)) k) from by rw [HQk.out k hkl, htv])
                        have HSv := Lib.hid (show Byt sv from by rw [← hsv]; exact byt_pS _ k HBt.out)
                        have HTv := Lib.hid (show Byt tv from by rw [← htv]; exact byt_qS 0 _ k HBt.out)
                        clear hsum hcg hkk hev hgc hsv htv hgl hpl
                        go_wp2_with fail
                        refine HSum.out.mono ?_
                        rintro e w7 ⟨rfl, ⟨qn, rfl⟩⟩
                        have hbq := pw_below_drewN (Below.refl wr.heap.size wr) qn
                        have HOA7 := Lib.hid (pw_own_below HOA.out hbq)
                        have HO7 := Lib.hid (HO6.out.below hbq)
                        have HOB7 := Lib.hid (pw_own_below HOB6.out hbq)
                        have HB7 := Lib.hid (HB6.out.trans (hbq.mono HB6.out.size))
                        obtain ⟨W7, hW7⟩ : ∃ x, wr.drewN qn = x := ⟨_, rfl⟩
                        rw [hW7] at HOA7 HO7 HOB7 HB7 ⊢
                        clear hbq hW7 HOA HO6 HOB6 HB6 HSum
                        have hgd : W7.cell? ⟨g1, m, none⟩ = some (.bool (lost.contains (m : Int))) := by
                          have hmL : m < L.length := by have := HD2.out; omega
                          rw [HOB7.out.cellAt m (by omega)]
                          unfold encs
                          rw [List.getElem?_map, goneB_get L.length lost lost.length m hmL, List.take_of_length_le (Nat.le_refl _)]
                          rfl
                        rcases HDC.out with ⟨ha, hD⟩ | ⟨x, hx, ha, hcd, hD⟩ | ⟨x, hx, ha, hcd, hD⟩ | ⟨x, y, hxy, hy, ha, hD⟩
                        · as_aux_lemma =>
                          -- DONE{
                          have hl1 : la = 0 := by rw [← HLa.out, ha]; rfl
                          have b2 : ((la : Int) == 2) = false := by rw [hl1]; rfl
                          have b1 : ((la : Int) == 1) = false := by rw [hl1]; rfl
                          have hpe : partR R D a k = partR R D a (k + 1) := by
                            rw [ha]
                            refine row_ext (by rw [partR_len, partR_len]) (fun i hi => ?_)
                            rw [partR_len] at hi
                            rw [partR_row _ _ _ _ _ hi, partR_row _ _ _ _ _ hi]
                            rfl
                          rw [hpe] at HO7
                          clear hpe hD hl1 ha
                          go_wp2_with fail
                          go_roundw
                          case rel => exact ⟨k + 1, by simp, by omega, HOA7, HO7, HOB7, HB7⟩
                          case measure => simp [intOf]; omega
                          -- }DONE
                        · as_aux_lemma =>
                          -- DONE{
                          have hl1 : la = 1 := by rw [← HLa.out, ha]; rfl
                          have b2 : ((la : Int) == 2) = false := by rw [hl1]; rfl
                          have b1 : ((la : Int) == 1) = true := by rw [hl1]; rfl
                          have h0la : 0 < la := by omega
                          have hoa := HOA7.out
                          rw [← HLa.out, ha] at hoa
                          obtain ⟨ga, eA, hca⟩ := gone_cell hoa 0 (by simp) (x : Int) rfl
                          rw [hcd] at hgd
                          have hxL : x < L.length := by have := HD2.out; omega
                          have hmL : m < L.length := by have := HD2.out; omega
                          have hs0 : 0 < s := by omega
                          obtain ⟨Rx, cx, hix, hcx, hbx, hfx, brx, bbx, nex, ltx⟩ := OutC.row_cell HO7.out hxL (part_row_len HGR.out HGD.out HDl.out (by omega) (by rw [HRl.out, ← HD2.out]; exact hxL)) hs0
                          obtain ⟨Rm, cm, him, hcm, hbm, _⟩ := OutC.row_cell HO7.out hmL (part_row_len HGR.out HGD.out HDl.out (by omega) (by rw [HRl.out, ← HD2.out]; exact hmL)) hs0
                          have hkm := hbm k hkl
                          rw [part_at HGR.out HGD.out HDl.out hkl (by rw [HRl.out, ← HD2.out]; exact hmL)] at hkm
                          have hkx := hbx k hkl
                          have hfk := hfx k
                          have gRm := Tw.good_row HGR.out (i := m) (by rw [HRl.out, ← HD2.out]; exact hmL)
                          have hxv := xor_u8 HSv.out (byt_at gRm.2 k)
                          have hxl : row R x = List.replicate s 0 := HRz.out x hxL (by rw [← HAm.out x hx, ha]; simp)
                          have hv : xorI sv (at_ (row R m) k) = at_ (row D x) k := by
                            have h1 := byt_at HPg.out.2 k
                            rw [hD, one_at HGR.out (by rw [HRl.out, ← HD2.out]; exact hxL) HPg.out.1 hkl hxl (by rw [mulI_one h1]; exact h1), mulI_one h1, HPk1.out]
                          rw [hv] at hxv
                          have HSt := Lib.hid (stored_all (k := k) (at_ (row D x) k) (HO7.out.below ((Below.refl W7.heap.size W7).drew)) hix (brx.below ((Below.refl W7.heap.size W7).drew)) (part_row_len HGR.out HGD.out HDl.out (by omega) (by rw [HRl.out, ← HD2.out]; exact hxL)) bbx (pw_own_below HOA7.out ((Below.refl W7.heap.size W7).drew)) (pw_own_below HOB7.out ((Below.refl W7.heap.size W7).drew)) (HB7.out.trans (((Below.refl W7.heap.size W7).drew).mono HB7.out.size)))
                          have HPt := Lib.hid (show (partR R D a k).set x ((row (partR R D a k) x).set k (at_ (row D x) k)) = partR R D a (k + 1) from by
                            rw [ha]
                            exact part_one HGR.out HGD.out HDl.out hkl (by rw [HRl.out, ← HD2.out]; exact hxL))
                          have HCs := Lib.hid (And.intro hkx hfk)
                          subst eA
                          clear hl1 hoa hbx hbm hfx brx gRm hxl hv ha hD hkx hfk him hix
                          have hkx2 : W7.drew.cell? ⟨Rx, k, none⟩ = some (.int .u8 (at_ (row (partR R D a k) x) k)) := HCs.out.1
                          have hfk2 : W7.drew.frozen? ⟨Rx, k, none⟩ = false := HCs.out.2
                          go_wp2_with fail
                          go_still_tail 16, (by kernel_rfl)
                          change wpList _ _ _ _ _ W7.drew
                          go_wp2_with fail
                          go_roundw
                          case rel => exact ⟨k + 1, by simp, by omega, Lib.hid HSt.out.2.1, Lib.hid (by have h := HSt.out.1; rwa [HPt.out] at h), Lib.hid HSt.out.2.2.1, Lib.hid HSt.out.2.2.2⟩
                          case measure => simp [intOf]; omega
                          -- }DONE
                        · as_aux_lemma =>
                          -- K2{
                          have hl1 : la = 1 := by rw [← HLa.out, ha]; rfl
                          have b2 : ((la : Int) == 2) = false := by rw [hl1]; rfl
                          have b1 : ((la : Int) == 1) = true := by rw [hl1]; rfl
                          have h0la : 0 < la := by omega
                          have hoa := HOA7.out
                          rw [← HLa.out, ha] at hoa
                          obtain ⟨ga, eA, hca⟩ := gone_cell hoa 0 (by simp) (x : Int) rfl
                          rw [hcd] at hgd
                          have hxL : x < L.length := by have := HD2.out; omega
                          have hmL : m < L.length := by have := HD2.out; omega
                          have hm1L : m + 1 < L.length := by have := HD2.out; omega
                          have hs0 : 0 < s := by omega
                          obtain ⟨Rx, cx, hix, hcx, hbx, hfx, brx, bbx, nex, ltx⟩ := OutC.row_cell HO7.out hxL (part_row_len HGR.out HGD.out HDl.out (by omega) (by rw [HRl.out, ← HD2.out]; exact hxL)) hs0
                          obtain ⟨Rm, cm, him, hcm, hbm, _⟩ := OutC.row_cell HO7.out hm1L (part_row_len HGR.out HGD.out HDl.out (by omega) (by rw [HRl.out, ← HD2.out]; exact hm1L)) hs0
                          have hkm := hbm k hkl
                          rw [part_at HGR.out HGD.out HDl.out hkl (by rw [HRl.out, ← HD2.out]; exact hm1L)] at hkm
                          have hkx := hbx k hkl
                          have hfk := hfx k
                          have gRm := Tw.good_row HGR.out (i := m + 1) (by rw [HRl.out, ← HD2.out]; exact hm1L)
                          have hxv := xor_u8 HTv.out (byt_at gRm.2 k)
                          have hxl : row R x = List.replicate s 0 := HRz.out x hxL (by rw [← HAm.out x hx, ha]; simp)
                          have hqb := byt_at HQg.out.2 k
                          have hix2 := byt_inv (byt_exp x)
                          have hv : mulI (at_ q k) (invI (expI x)) = at_ (row D x) k := by
                            rw [hD, one_at HGR.out (by rw [HRl.out, ← HD2.out]; exact hxL) HQg.out.1 hkl hxl (byt_mul hix2)]
                          rw [← HQk1.out] at hxv
                          have hne : expI x ≠ 0 := fun h => pw_ne_zero x (by unfold expI at h; omega)
                          have HE1 := Lib.hid (fun w => rexp_any x (by omega) w)
                          have HE2 := Lib.hid (fun w => rinv_any (expI x) (byt_exp x) hne w)
                          have HE3 := Lib.hid (fun w => rmul_any (at_ q k) (invI (expI x)) hqb hix2 w)
                          rw [hv] at HE3
                          have hstA := fun (V : World) (hV : Below W7.heap.size W7 V) => stored_all (k := k) (at_ (row D x) k) (HO7.out.below hV) hix (brx.below hV) (part_row_len HGR.out HGD.out HDl.out (by omega) (by rw [HRl.out, ← HD2.out]; exact hxL)) bbx (pw_own_below HOA7.out hV) (pw_own_below HOB7.out hV) (HB7.out.trans (hV.mono HB7.out.size))
                          have HSt := Lib.hid hstA
                          have HPt := Lib.hid (show (partR R D a k).set x ((row (partR R D a k) x).set k (at_ (row D x) k)) = partR R D a (k + 1) from by
                            rw [ha]
                            exact part_one HGR.out HGD.out HDl.out hkl (by rw [HRl.out, ← HD2.out]; exact hxL))
                          have nRm : Rx ≠ Rm := fun e => HO7.out.apart x (m + 1) _ _ Rx (by omega) hix him rfl (by rw [e]; rfl)
                          have nga : Rx ≠ ga := fun e => by
                            rw [eA] at hoa
                            rcases own_type_ne brx hoa (by decide) with h1 | h1
                            · cases h1
                            · exact h1 (by rw [e]; rfl)
                          have hset := Lib.hid (fun (V : World) (v : Value) (b o : Nat) (hb : Rx ≠ b) => World.cell?_setCell_far V ⟨Rx, k, none⟩ ⟨b, o, none⟩ v hb)
                          subst eA
                          clear hl1 hoa hbx hbm hfx brx gRm hxl hv ha hD him hix hstA hne hqb hix2
                          have hmI : IntKind.i64.wrap ((m : Int) + 1) = (m : Int) + 1 := IntWalk.i64_in _ (by omega)
                          have hmT : ((m : Int) + 1).toNat = m + 1 := by omega
                          have hm0 : 0 ≤ (m : Int) + 1 := by omega
                          have hmLI : (m : Int) + 1 < (L.length : Int) := by omega
                          go_wp2_with fail
                          go_region_held3 (fun w' => w'.cell? ⟨ga, 0, none⟩ = some (.int .i64 (x : Int)) ∧ w'.cell? ⟨G, x, none⟩ = some (.slice (some ⟨Rx, 0, none⟩) s cx) ∧ w'.cell? ⟨G, m + 1, none⟩ = some (.slice (some ⟨Rm, 0, none⟩) s cm) ∧ w'.cell? ⟨Rm, k, none⟩ = some (.int .u8 (at_ (row R (m + 1)) k)))
                            (first
                              | exact ⟨hca, hcx, hcm, hkm⟩
                              | exact ⟨(hset.out _ _ ga 0 nga).trans hca, (hset.out _ _ G x nex).trans hcx, (hset.out _ _ G (m + 1) nex).trans hcm, (hset.out _ _ Rm k nRm).trans hkm⟩)
                            (first
                              | (go_at_call 16; (with_reducible refine (HE1.out _).mono ?_); rintro e w' ⟨rfl, ⟨n1, rfl⟩⟩)
                              | (go_at_call 40; (with_reducible refine (HE2.out _).mono ?_); rintro e w' ⟨rfl, ⟨n2, rfl⟩⟩)
                              | (go_at_call 15; (with_reducible refine (HE3.out _).mono ?_); rintro e w' ⟨rfl, ⟨n3, rfl⟩⟩))
                          go_wp2_with fail
                          go_roundw
                          case rel =>
                            have hV : Below W7.heap.size W7 (W7.drewN (1 + n1 + n2 + n3)) := pw_below_drewN (Below.refl _ _) _
                            have h := HSt.out _ hV
                            exact ⟨k + 1, by simp, by omega, Lib.hid h.2.1, Lib.hid (by have h2 := h.1; rwa [HPt.out] at h2), Lib.hid h.2.2.1, Lib.hid h.2.2.2⟩
                          case measure => simp [intOf]; omega
                          -- }K2
                        · as_aux_lemma =>
                          -- K3{
                          have hl1 : la = 2 := by rw [← HLa.out, ha]; rfl
                          have b2 : ((la : Int) == 2) = true := by rw [hl1]; rfl
                          have h0la : 0 < la := by omega
                          have h1la : 1 < la := by omega
                          have hoa := HOA7.out
                          rw [← HLa.out, ha] at hoa
                          obtain ⟨ga, eA, hca⟩ := gone_cell hoa 0 (by simp) (x : Int) rfl
                          rw [eA] at hoa
                          have hcb := gone_at hoa 1 (by simp) (y : Int) rfl
                          have hxL : x < L.length := by have := HD2.out; omega
                          have hyL : y < L.length := by have := HD2.out; omega
                          have hmL : m < L.length := by have := HD2.out; omega
                          have hm1L : m + 1 < L.length := by have := HD2.out; omega
                          have hs0 : 0 < s := by omega
                          have hxR : x < R.length := by rw [HRl.out, ← HD2.out]; exact hxL
                          have hyR : y < R.length := by rw [HRl.out, ← HD2.out]; exact hyL
                          have hmR : m < R.length := by rw [HRl.out, ← HD2.out]; exact hmL
                          have hm1R : m + 1 < R.length := by rw [HRl.out, ← HD2.out]; exact hm1L
                          obtain ⟨Rx, cx, hix, hcx, hbx, hfx, brx, bbx, nex, ltx⟩ := OutC.row_cell HO7.out hxL (part_row_len HGR.out HGD.out HDl.out (by omega) hxR) hs0
                          obtain ⟨Ry, cy, hiy, hcy, hby, hfy, bry, bby, ney, lty⟩ := OutC.row_cell HO7.out hyL (part_row_len HGR.out HGD.out HDl.out (by omega) hyR) hs0
                          obtain ⟨Rm, cm, him, hcm, hbm, _⟩ := OutC.row_cell HO7.out hmL (part_row_len HGR.out HGD.out HDl.out (by omega) hmR) hs0
                          obtain ⟨Rn, cn, hin, hcn, hbn, _⟩ := OutC.row_cell HO7.out hm1L (part_row_len HGR.out HGD.out HDl.out (by omega) hm1R) hs0
                          have hkm := hbm k hkl
                          rw [part_at HGR.out HGD.out HDl.out hkl hmR] at hkm
                          have hkn := hbn k hkl
                          rw [part_at HGR.out HGD.out HDl.out hkl hm1R] at hkn
                          have hkx := hbx k hkl
                          have hfk := hfx k
                          have hky := hby k hkl
                          have hfky := hfy k
                          have gRm := Tw.good_row HGR.out hmR
                          have gRn := Tw.good_row HGR.out hm1R
                          have hxp := xor_u8 HSv.out (byt_at gRm.2 k)
                          have hxq := xor_u8 HTv.out (byt_at gRn.2 k)
                          rw [← HPk1.out] at hxp
                          rw [← HQk1.out] at hxq
                          have hxl : row R x = List.replicate s 0 := HRz.out x hxL (by rw [← HAm.out x (by omega), ha]; simp)
                          have hyl : row R y = List.replicate s 0 := HRz.out y hyL (by rw [← HAm.out y hy, ha]; simp)
                          have hpb := byt_at HPg.out.2 k
                          have hqb := byt_at HQg.out.2 k
                          have hne : xorI (expI x) (expI y) ≠ 0 := Tw.xor_ne (by omega) (by omega) (by omega)
                          have hexy := byt_xor (byt_exp x) (byt_exp y)
                          have hvv := two_at (k := k) HGR.out hxR hyR (by omega) HPg.out.1 HQg.out.1 HPg.out.2 HQg.out.2 hkl hxl hyl
                          rw [← hD] at hvv
                          have hxe := xor_u8 (byt_exp x) (byt_exp y)
                          have hx39 := xor_u8 hqb (byt_mul (x := expI y) hpb)
                          have hiv := byt_inv hexy
                          have hdx : Byt (at_ (row D x) k) := by rw [hvv.1]; exact byt_mul hiv
                          have hx40 := xor_u8 hpb hdx
                          rw [← hvv.2] at hx40
                          have HE1 := Lib.hid (fun w => rexp_any x (by omega) w)
                          have HE1b := Lib.hid (fun w => rexp_any y (by omega) w)
                          have HE2 := Lib.hid (fun w => rinv_any (xorI (expI x) (expI y)) hexy hne w)
                          have HE3 := Lib.hid (fun w => rmul_any (expI y) (at_ p k) (byt_exp y) hpb w)
                          have HE4 := Lib.hid (fun w => rmul_any (xorI (at_ q k) (mulI (expI y) (at_ p k))) (invI (xorI (expI x) (expI y))) (byt_xor hqb (byt_mul hpb)) hiv w)
                          rw [← hvv.1] at HE4
                          have nRm : Rx ≠ Rm := fun e => HO7.out.apart x m _ _ Rx (by omega) hix him rfl (by rw [e]; rfl)
                          have nRy : Rx ≠ Ry := fun e => HO7.out.apart x y _ _ Rx (by omega) hix hiy rfl (by rw [e]; rfl)
                          have nga : Rx ≠ ga := fun e => by
                            rcases own_type_ne brx hoa (by decide) with h1 | h1
                            · cases h1
                            · exact h1 (by rw [e]; rfl)
                          have hset := Lib.hid (fun (V : World) (v : Value) (b o : Nat) (hb : Rx ≠ b) => World.cell?_setCell_far V ⟨Rx, k, none⟩ ⟨b, o, none⟩ v hb)
                          have hstA := fun (V : World) (hV : Below W7.heap.size W7 V) => stored_all (k := k) (at_ (row D x) k) (HO7.out.below hV) hix (brx.below hV) (part_row_len HGR.out HGD.out HDl.out (by omega) hxR) bbx (pw_own_below HOA7.out hV) (pw_own_below HOB7.out hV) (HB7.out.trans (hV.mono HB7.out.size))
                          have HSt := Lib.hid hstA
                          have hstB := fun (V : World) (hV : Below W7.heap.size W7 V) (U : World) (hU : Below (V.setCell ⟨Rx, k, none⟩ (.int .u8 (at_ (row D x) k))).heap.size (V.setCell ⟨Rx, k, none⟩ (.int .u8 (at_ (row D x) k))) U) => two_stored HGR.out HGD.out HDl.out hkl hxR hyR (by omega) ha (hstA V hV) hiy (bry.below hV) nRy (ha ▸ part_row_len HGR.out HGD.out HDl.out (by omega) hyR) bby hU
                          have HSt2 := Lib.hid hstB
                          have lga := own_lt hoa ga rfl
                          have lG := OutC.lt HO7.out
                          subst eA
                          clear hl1 hoa hbx hbm hfx brx gRm hxl ha hD him hix hstA hne hqb hby hbn hfy bry gRn hyl hpb hexy hvv hiv hdx hstB hin hiy
                          have hmI : IntKind.i64.wrap ((m : Int) + 1) = (m : Int) + 1 := IntWalk.i64_in _ (by omega)
                          have hmT : ((m : Int) + 1).toNat = m + 1 := by omega
                          have hm0 : 0 ≤ (m : Int) + 1 := by omega
                          have hmLI : (m : Int) + 1 < (L.length : Int) := by omega
                          go_wp2_with fail
                          go_quiet (first
                            | (go_at_call 16; (with_reducible refine (HE1.out _).mono ?_); rintro e w' ⟨rfl, ⟨nd, rfl⟩⟩; exact ⟨rfl, _, World.drewN_drewN _ _ _⟩)
                            | (go_at_call 16; (with_reducible refine (HE1b.out _).mono ?_); rintro e w' ⟨rfl, ⟨nd, rfl⟩⟩; exact ⟨rfl, _, World.drewN_drewN _ _ _⟩))
                          obtain ⟨n1, hn1⟩ : ∃ x, nq = x := ⟨_, rfl⟩
                          rw [hn1]
                          clear hn1
                          go_wp2_with fail
                          go_quiet (fail)
                          obtain ⟨n2, hn2⟩ : ∃ x, nq = x := ⟨_, rfl⟩
                          rw [hn2]
                          clear hn2
                          go_wp2_with fail
                          obtain ⟨W8, hW8⟩ : ∃ x, (W7.drewN n1).drewN n2 = x := ⟨_, rfl⟩
                          have b8 := Lib.hid (show Below W7.heap.size W7 W8 from by rw [← hW8]; exact pw_below_drewN (pw_below_drewN (Below.refl _ _) _) _)
                          have z8 : W8.heap.size = W7.heap.size := by rw [← hW8]; rfl
                          have Z8 := Lib.hid z8
                          have hcx8 : W8.cell? ⟨G, x, none⟩ = some (.slice (some ⟨Rx, 0, none⟩) s cx) := by rw [← hW8]; exact hcx
                          have hcy8 : W8.cell? ⟨G, y, none⟩ = some (.slice (some ⟨Ry, 0, none⟩) s cy) := by rw [← hW8]; exact hcy
                          have hca8 : W8.cell? ⟨ga, 0, none⟩ = some (.int .i64 (x : Int)) := by rw [← hW8]; exact hca
                          have hcb8 : W8.cell? ⟨ga, 1, none⟩ = some (.int .i64 (y : Int)) := by rw [← hW8]; exact hcb
                          have hkx8 : W8.cell? ⟨Rx, k, none⟩ = some (.int .u8 (at_ (row (partR R D a k) x) k)) := by rw [← hW8]; exact hkx
                          have hky8 : W8.cell? ⟨Ry, k, none⟩ = some (.int .u8 (at_ (row (partR R D a k) y) k)) := by rw [← hW8]; exact hky
                          have hfk8 : W8.frozen? ⟨Rx, k, none⟩ = false := by rw [← hW8]; exact hfk
                          have hfy8 : W8.frozen? ⟨Ry, k, none⟩ = false := by rw [← hW8]; exact hfky
                          rw [hW8]
                          clear hW8 hcx hcy hca hcb hkx hky hfk hfky hkm hkn hcm hcn z8
                          go_cut [20] (fun s20 wx => s20 = .int .u8 (at_ p k) ∧ Below (W8.setCell ⟨Rx, k, none⟩ (.int .u8 (at_ (row D x) k))).heap.size (W8.setCell ⟨Rx, k, none⟩ (.int .u8 (at_ (row D x) k))) wx)
                          case first =>
                            go_region_held3 (fun w' => w'.cell? ⟨ga, 0, none⟩ = some (.int .i64 (x : Int)) ∧ w'.cell? ⟨G, x, none⟩ = some (.slice (some ⟨Rx, 0, none⟩) s cx))
                              (first
                                | exact ⟨hca8, hcx8⟩
                                | exact ⟨(hset.out _ _ ga 0 nga).trans hca8, (hset.out _ _ G x nex).trans hcx8⟩)
                              (first
                                | (go_at_call 40; (with_reducible refine (HE2.out _).mono ?_); rintro e w' ⟨rfl, ⟨m2, rfl⟩⟩)
                                | (go_at_call 15; (with_reducible refine (HE3.out _).mono ?_); rintro e w' ⟨rfl, ⟨m3, rfl⟩⟩)
                                | (go_at_call 15; (with_reducible refine (HE4.out _).mono ?_); rintro e w' ⟨rfl, ⟨m4, rfl⟩⟩))
                            all_goals (go_wp2_with fail; go_meet; exact ⟨rfl, ⟨rfl, rfl, rfl, Nat.le_refl _, fun _ _ => rfl⟩⟩)
                          case rest =>
                            obtain ⟨rfl, hBx⟩ := hcut
                            have HBx := Lib.hid hBx
                            have hsz : (W8.setCell ⟨Rx, k, none⟩ (.int .u8 (at_ (row D x) k))).heap.size = W7.heap.size := by rw [World.size_setCell]; exact Z8.out
                            have q1 : wc.cell? ⟨ga, 0, none⟩ = some (.int .i64 (x : Int)) := (hBx.cell (p := ⟨ga, 0, none⟩) (by rw [hsz]; exact lga)).trans ((hset.out W8 _ ga 0 nga).trans hca8)
                            have q2 : wc.cell? ⟨ga, 1, none⟩ = some (.int .i64 (y : Int)) := (hBx.cell (p := ⟨ga, 1, none⟩) (by rw [hsz]; exact lga)).trans ((hset.out W8 _ ga 1 nga).trans hcb8)
                            have q3 : wc.cell? ⟨G, x, none⟩ = some (.slice (some ⟨Rx, 0, none⟩) s cx) := (hBx.cell (p := ⟨G, x, none⟩) (by rw [hsz]; exact lG)).trans ((hset.out W8 _ G x nex).trans hcx8)
                            have q4 : wc.cell? ⟨G, y, none⟩ = some (.slice (some ⟨Ry, 0, none⟩) s cy) := (hBx.cell (p := ⟨G, y, none⟩) (by rw [hsz]; exact lG)).trans ((hset.out W8 _ G y nex).trans hcy8)
                            have q5 : wc.cell? ⟨Rx, k, none⟩ = some (.int .u8 (at_ (row D x) k)) := (hBx.cell (p := ⟨Rx, k, none⟩) (by rw [hsz]; exact ltx)).trans (World.cell?_setCell_same' _ _ _ (by rw [hkx8]; rfl))
                            have q6 : wc.cell? ⟨Ry, k, none⟩ = some (.int .u8 (at_ (row (partR R D a k) y) k)) := (hBx.cell (p := ⟨Ry, k, none⟩) (by rw [hsz]; exact lty)).trans ((hset.out W8 _ Ry k nRy).trans hky8)
                            have q7 : wc.frozen? ⟨Ry, k, none⟩ = false := (hBx.frozen (p := ⟨Ry, k, none⟩) (by rw [hsz]; exact lty)).trans (by rw [World.frozen?_setCell]; exact hfy8)
                            have HFi := Lib.hid (HSt2.out W8 b8.out wc.drew (hBx.drew))
                            have q6d : wc.drew.cell? ⟨Ry, k, none⟩ = some (.int .u8 (at_ (row (partR R D a k) y) k)) := q6
                            have q7d : wc.drew.frozen? ⟨Ry, k, none⟩ = false := q7
                            clear hBx hsz hcx8 hcy8 hca8 hcb8 hkx8 hky8 hfk8 hfy8
                            have h1i : (1 : Int) < (la : Int) := by omega
                            go_wp2_with fail
                            go_still_tail 18, (by kernel_rfl)
                            change wpList _ _ _ _ _ wc.drew
                            go_wp2_with fail
                            go_roundw
                            case rel => exact ⟨k + 1, by simp, by omega, Lib.hid HFi.out.2.1, Lib.hid HFi.out.1, Lib.hid HFi.out.2.2.1, Lib.hid HFi.out.2.2.2⟩
                            case measure => simp [intOf]; omega
                          -- }K3
                      · as_aux_lemma =>
                        have hke : k = s := by omega
                        have HOf := Lib.hid (show OutC wr W0.heap.size G cap L.length hs D from by have h := HO6.out; rwa [hke, part_end HGR.out HGD.out HDl.out (fun i hi hc => HDO.out i hi hc)] at h)
                        have hmL : m < L.length := by have := HD2.out; omega
                        have hm1L : m + 1 < L.length := by have := HD2.out; omega
                        have hcn := OutC.capn HOf.out
                        have hmc : m ≤ cap := by omega
                        have hDt := good_take (m := m) HGD.out
                        have htl : (D.take m).length = m := by rw [List.length_take, HDl.out, HRl.out]; omega
                        obtain ⟨P1, hP1⟩ : ∃ x, sumP (D.take m) s = x := ⟨_, rfl⟩
                        obtain ⟨Q1, hQ1⟩ : ∃ x, sumQ (D.take m) s = x := ⟨_, rfl⟩
                        obtain ⟨kk, hkk⟩ := (Rp.refpar_ev (D.take m) s (fun r h => (hDt r h).1) (fun r h => (hDt r h).2) (by omega) (by omega) (by omega)).rounds
                        rw [hP1, hQ1] at hkk
                        have hpc := PRr.ramekinref5_Parity.calls kk (some ⟨G, 0, none⟩) cap (D.take m) P1 Q1 wr (OutC.Ct HOf.out (by omega)) (by rw [htl]; exact hmc) hkk
                        rw [htl] at hpc
                        have HPc := Lib.hid hpc
                        have HFin := Lib.hid (show fixR L lost = (if lost.contains ((m + 1 : Nat) : Int) = true then (if lost.contains (m : Int) = true then D.set m P1 else D).set (m + 1) Q1 else (if lost.contains (m : Int) = true then D.set m P1 else D)) from by rw [HFx.out, hP1, hQ1])
                        clear hpc hkk hP1 hQ1 htl hDt hke HO6 hcn
                        go_wp2_with fail
                        refine HPc.out.mono ?_
                        rintro e w8 ⟨v0, v1, rfl, hp0, hp1, hb8⟩
                        have HOf8 := Lib.hid (HOf.out.below hb8)
                        have HOB8 := Lib.hid (pw_own_below HOB6.out hb8)
                        have BRp := Lib.hid (show BR w8 W0.heap.size v0 P1 from own_weaken (BR.of hp0) HB6.out.size)
                        have BRq := Lib.hid (show BR w8 W0.heap.size v1 Q1 from own_weaken (BR.of hp1) HB6.out.size)
                        have APp := Lib.hid (show ∀ (j : Nat) (g : Value) (k : Nat), hs[j]? = some g → g.ownBlock = some k → v0.ownBlock ≠ some k from fun j g k hi hg h2 => by
                          obtain ⟨r, _, hr⟩ := HOf.out.rlt hi
                          have h6 := own_lt hr k hg
                          have h7 := own_base (BR.of hp0) k h2
                          omega)
                        have APq := Lib.hid (show ∀ (j : Nat) (g : Value) (k : Nat), hs[j]? = some g → g.ownBlock = some k → v1.ownBlock ≠ some k from fun j g k hi hg h2 => by
                          obtain ⟨r, _, hr⟩ := HOf.out.rlt hi
                          have h6 := own_lt hr k hg
                          have h7 := own_base (BR.of hp1) k h2
                          omega)
                        have APpq := Lib.hid (show ∀ k : Nat, v0.ownBlock = some k → v1.ownBlock ≠ some k from fun k h1 h2 => hp0.1 k h1 h2.symm)
                        have HB8 := Lib.hid (B0.out.trans ((HB6.out.trans (hb8.mono HB6.out.size)).mono B0.out.size))
                        obtain ⟨Ap, cp, ep, _⟩ := BRp.out.slice
                        obtain ⟨Aq, cq, eq, _⟩ := BRq.out.slice
                        subst ep eq
                        have hg8 : ∀ i : Nat, i < L.length → w8.cell? ⟨g1, i, none⟩ = some (.bool (lost.contains (i : Int))) := fun i hi => by
                          rw [HOB8.out.cellAt i (by omega)]
                          unfold encs
                          rw [List.getElem?_map, goneB_get L.length lost lost.length i hi, List.take_of_length_le (Nat.le_refl _)]
                          rfl
                        have hgm := hg8 m hmL
                        have hgm1 := hg8 (m + 1) hm1L
                        have HG8 := Lib.hid hg8
                        have HS0 := Lib.hid (show W0.heap.size = w.heap.size from S0.out)
                        obtain ⟨hm0, him⟩ := OutC.get HOf8.out hmL
                        obtain ⟨hm2, him1⟩ := OutC.get HOf8.out hm1L
                        have hcm := OutC.cell HOf8.out him
                        have hcm1 := OutC.cell HOf8.out him1
                        have hfm := OutC.frozen HOf8.out m
                        have hfm1 := OutC.frozen HOf8.out (m + 1)
                        have hlG := OutC.lt HOf8.out
                        have hbG := OutC.baseG HOf8.out
                        have hneG : g1 ≠ G := fun e => by
                          rcases own_type_ne HOB8.out HOf8.out.head (by decide) with h1 | h1
                          · cases h1
                          · exact h1 (by rw [e]; rfl)
                        clear hb8 hp0 hp1 hg8 HOf HPc HOB6 HB6 HOA
                        by_cases c1 : lost.contains (m : Int) = true
                        · rw [c1] at hgm
                          have O9 := Lib.hid (OutC.set HOf8.out hmL BRp.out APp.out)
                          have hgm1' : (w8.setCell ⟨G, m, none⟩ (.slice Ap P1.length cp)).cell? ⟨g1, m + 1, none⟩ = some (.bool (lost.contains ((m + 1 : Nat) : Int))) := by rw [World.cell?_setCell_far _ _ _ _ (by show G ≠ g1; exact Ne.symm hneG)]; exact hgm1
                          by_cases c2 : lost.contains ((m + 1 : Nat) : Int) = true
                          · rw [c2] at hgm1 hgm1'
                            have BRq9 : BR (w8.setCell ⟨G, m, none⟩ (.slice Ap P1.length cp)) W0.heap.size (.slice Aq Q1.length cq) Q1 := BRq.out.move (fun k e => Below.heap_setCell w8 ⟨G, m, none⟩ _ k (fun e2 => by
                              rcases own_type_ne BRq.out HOf8.out.head (by decide) with h1 | h1
                              · rw [h1] at e; cases e
                              · exact h1 (by rw [e, e2]; rfl)))
                            have O10 := Lib.hid (OutC.set O9.out hm1L BRq9 (fun j g k hi hg h2 => by
                              by_cases e : m = j
                              · subst e
                                rw [List.getElem?_set_self (by have := HOf8.out.hlen; omega)] at hi
                                cases hi
                                exact APpq.out k hg h2
                              · rw [List.getElem?_set_ne e] at hi
                                exact APq.out j g k hi hg h2))
                            have hcm1' : (w8.setCell ⟨G, m, none⟩ (.slice Ap P1.length cp)).cell? ⟨G, m + 1, none⟩ = some hm2 := by rw [World.cell?_setCell_other _ ⟨G, m, none⟩ ⟨G, m + 1, none⟩ _ (fun h => by injection h with _ h _; omega)]; exact hcm1
                            have hfm1' := OutC.frozen O9.out (m + 1)
                            have HF := Lib.hid (show (D.set m P1).set (m + 1) Q1 = fixR L lost from by rw [HFin.out, if_pos c2, if_pos c1])
                            have hBe := Lib.hid ((HB8.out.setCell (p := ⟨G, m, none⟩) (by show w.heap.size ≤ G; have := HS0.out; omega) (.slice Ap P1.length cp)).setCell (p := ⟨G, m + 1, none⟩) (by show w.heap.size ≤ G; have := HS0.out; omega) (.slice Aq Q1.length cq))
                            clear BRq9 c1 c2 him him1
                            go_wp2_with fail
                            refine bodyPost_ret (results_tmp2 rfl _ _ _) rfl ?_
                            exact post_of O10.out HF.out HMay.out HS0.out hBe.out
                          · have c2f := Bool.eq_false_iff.2 c2
                            rw [c2f] at hgm1 hgm1'
                            have HF := Lib.hid (show D.set m P1 = fixR L lost from by rw [HFin.out, if_neg c2, if_pos c1])
                            have hBe := Lib.hid (HB8.out.setCell (p := ⟨G, m, none⟩) (by show w.heap.size ≤ G; have := HS0.out; omega) (.slice Ap P1.length cp))
                            clear c1 c2 c2f him him1
                            go_wp2_with fail
                            refine bodyPost_ret (results_tmp2 rfl _ _ _) rfl ?_
                            exact post_of O9.out HF.out HMay.out HS0.out hBe.out
                        · have c1f := Bool.eq_false_iff.2 c1
                          rw [c1f] at hgm
                          by_cases c2 : lost.contains ((m + 1 : Nat) : Int) = true
                          · rw [c2] at hgm1
                            have O10 := Lib.hid (OutC.set HOf8.out hm1L BRq.out APq.out)
                            have HF := Lib.hid (show D.set (m + 1) Q1 = fixR L lost from by rw [HFin.out, if_pos c2, if_neg c1])
                            have hBe := Lib.hid (HB8.out.setCell (p := ⟨G, m + 1, none⟩) (by show w.heap.size ≤ G; have := HS0.out; omega) (.slice Aq Q1.length cq))
                            clear c1 c2 c1f him him1
                            go_wp2_with fail
                            refine bodyPost_ret (results_tmp2 rfl _ _ _) rfl ?_
                            exact post_of O10.out HF.out HMay.out HS0.out hBe.out
                          · have c2f := Bool.eq_false_iff.2 c2
                            rw [c2f] at hgm1
                            have HF := Lib.hid (show D = fixR L lost from by rw [HFin.out, if_neg c2, if_neg c1])
                            clear c1 c2 c1f c2f him him1
                            go_wp2_with fail
                            refine bodyPost_ret (results_tmp2 rfl _ _ _) rfl ?_
                            exact post_of HOf8.out HF.out HMay.out HS0.out HB8.out
end Go.Proofs.Ytdbnladpogpiiaa.Fr
