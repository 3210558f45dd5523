/-
  Parts of a proof, laid together by a program of mine (pack.py): Pg, Pa1, Rn.
-/
import Derived.Deep.DeepCutAuto
import Derived.Test.YtodbmgafejclmaaZD17
namespace Go.Proofs.Ytodbmgafejclmaa.Base
open Go.RowKit Go.Maps Go.Proofs.YtodbmgafejclmaaW.PrintWords Go.Proofs.YtodbmgafejclmaaW.PrintLast
open Go.Proofs.Ytodbmgafejclmaa.Fld Go.Proofs.Ytodbmgafejclmaa.Pl Go.Proofs.Ytodbmgafejclmaa.Kp Go.Proofs.Ytodbmgafejclmaa.Fw Go.Proofs.Ytodbmgafejclmaa.Co Go.Proofs.Ytodbmgafejclmaa.Cw Go.Proofs.Ytodbmgafejclmaa.Cd Go.Proofs.Ytodbmgafejclmaa.Rf
set_option linter.unusedSimpArgs false
set_option linter.unusedVariables false
theorem Rws.grown {w w' : World} {base : Nat} {v : Value} {T : List Hr} {row : Option Nat} (h : Rws w base v T) (hg : w.grownBy w' row) (h1 : v.ownBlock = none ∨ v.ownBlock ≠ row) (h2 : ∀ t ∈ T, ∀ a, t.1 = some a → some a.block ≠ row) : Rws w' base v T :=
  ⟨h.1.kept hg h1, fun t ht => by
    obtain ⟨k1, k2, k3, k4⟩ := h.2 t ht
    exact ⟨k1, k2, (k3.keep (fun a ha => hg.block _ (k4 a ha).1 (h2 t ht a ha))).more hg.size, fun a ha => ⟨Nat.lt_of_lt_of_le (k4 a ha).1 hg.size, (k4 a ha).2⟩⟩⟩
theorem Rws.alloc {w : World} {base : Nat} {v : Value} {T : List Hr} (h : Rws w base v T) (o : Obj) : Rws (w.alloc o) base v T := h.below ((Below.refl _ _).alloc (Nat.le_refl _) o)
/-- a page's bytes, as they lie -/
def PgOk (w : World) (p : Pg) : Prop := p.2.2.2.length ≤ p.2.2.1 ∧ p.2.2.2.length ≤ 1000000 ∧ Sl w 0 w.heap.size 1 p.2.1 (By p.2.2.2) ∧ (∀ a, p.2.1 = some a → a.block < w.heap.size) ∧ OkB p.2.2.2
theorem PgOk.below {w w' : World} {p : Pg} (h : PgOk w p) (hb : Below w.heap.size w w') : PgOk w' p :=
  ⟨h.1, h.2.1, (h.2.2.1.below hb).more hb.size, fun a ha => Nat.lt_of_lt_of_le (h.2.2.2.1 a ha) hb.size, h.2.2.2.2⟩
theorem own_ne {w : World} {base base' : Nat} {v v' : Value} {n m : Nat} {xs ys : List Value} {e e' : TypeId} {s s' : Nat} (h : w.ownsRow base e s v n xs) (h' : w.ownsRow base' e' s' v' m ys) (hne : e ≠ e') : v.ownBlock = none ∨ v.ownBlock ≠ v'.ownBlock := by
  cases hv : v.ownBlock with
  | none => exact .inl rfl
  | some k =>
    refine .inr (fun e2 => ?_)
    obtain ⟨c1, h1⟩ := own_typed h k hv
    obtain ⟨c2, h2⟩ := own_typed h' k e2.symm
    rw [h1] at h2
    injection h2 with h2
    injection h2 with _ h3 _
    exact hne h3
theorem fix_pages {base base' : Nat} (ps : List Pg) (A4 A5 : Option Addr) (c4 c5 n m : Nat) (w : World) (hn : n = ps.length) (hm : m = (lostG 0 ps).length) (hl : 6 ≤ ps.length) (h8 : ps.length ≤ 8) (hlost : (lostG 0 ps).length ≤ 2) (hf : fine48 ps) (hb : ∀ p ∈ ps, OkB p.2.2.2) (hb6 : ∀ p ∈ ps, p.2.2.2.length ≤ 1000000)
    (hc4 : n ≤ c4) (hc5 : m ≤ c5) (hT : Rws w base (.slice A4 n c4) (ps.map (·.2))) (hO : Ow w base' 3 1 (.slice A5 m c5) (In (lostG 0 ps))) :
    Calls Try.prog 45 #[.slice A4 n c4, .slice A5 m c5] w fun e w' => ∃ A' c', e = .returned (.tuple #[.slice A' ps.length c', .bool true]) ∧ ps.length ≤ c' ∧ RC w' A' ps.length (fixR (pgB ps) (lostG 0 ps)) ∧ Below w.heap.size w w' := by
  subst hn hm
  obtain ⟨f1, f2, f3⟩ := pages_fix (by omega) (by omega) hlost hf hb
  have lb : (pgB ps).length = ps.length := by simp [pgB]
  obtain ⟨A0, c0, hv, hc0, hC⟩ := hT.C (by simp; omega)
  have hmm : (ps.map (·.2)).map (·.2.2) = pgB ps := by simp [pgB]
  rw [hmm] at hv hc0 hC
  injection hv with e1 e2 e3
  subst e1 e3
  have hI := C_of_in (by omega) (hO.sl (In.sized _) (by omega))
  have hF : fixF (pgB ps) (lostG 0 ps) = some (fixR (pgB ps) (lostG 0 ps), true) := by
    have := fixF_of (L := pgB ps) (lost := lostG 0 ps) (fun r hr => by obtain ⟨p, hp, rfl⟩ := List.mem_map.1 hr; exact hb p hp) (fun r hr => by obtain ⟨p, hp, rfl⟩ := List.mem_map.1 hr; exact hb6 p hp) (by omega) (by omega)
    rw [if_pos f1] at this
    exact this
  have := Fw.fix_any A4 c4 (pgB ps) A5 c5 (lostG 0 ps) _ _ w hC hc0 hI hc5 hF
  rw [lb] at this
  refine this.mono ?_
  rintro e w' ⟨v, rfl, hN, hB⟩
  obtain ⟨A', c', rfl, hc', hC'⟩ := Kd.N_reads hN
  rw [f3] at hc' hC' ⊢
  exact ⟨A', c', rfl, hc', hC', hB⟩
theorem check_rows (X : List (List Int)) (A : Option Addr) (c n : Nat) (w : World) (hn : n = X.length) (h6 : 6 ≤ X.length) (h8 : X.length ≤ 8) (hg : Tw.GoodR 48 X) (hc : n ≤ c) (hC : RC w A n X) :
    Calls Try.prog 46 #[.slice A n c] w fun e w' => e = .returned (.bool (rightR X)) ∧ Below w.heap.size w w' := by
  subst hn
  obtain ⟨k, hk⟩ := (check_ev X 48 (X.length - 2) hg (by omega) (by omega) (by omega) (by omega)).rounds
  exact PRr.rs_Check.calls k A c X _ w hC hc hk
set_option maxRecDepth 100000 in
set_option maxHeartbeats 2000000 in
theorem payloads_any (A : Option Addr) (c : Nat) (ps : List Pg) (w : World) (hl : 6 ≤ ps.length) (h8 : ps.length ≤ 8) (hlost : (lostG 0 ps).length ≤ 2) (hc : ps.length ≤ c) (hs : Sl w 0 w.heap.size 2 A (ps.map Pg.arr)) (hp : ∀ p ∈ ps, PgOk w p) :
    Calls Try.prog 35 #[.slice A ps.length c] w fun x w' =>
      ((fine48 ps ∧ rightR (fixR (pgB ps) (lostG 0 ps)) = true → ∃ A' c', x = .returned (.tuple #[.slice A' ps.length c', .int .i64 0]) ∧ ps.length ≤ c' ∧ RC w' A' ps.length (fixR (pgB ps) (lostG 0 ps))) ∧
       (¬ (fine48 ps ∧ rightR (fixR (pgB ps) (lostG 0 ps)) = true) → x = .returned (.tuple #[.slice none 0 0, .int .i64 5]))) ∧ Below w.heap.size w w' := by
  obtain ⟨N, hN⟩ : ∃ N, N = ps.length := ⟨_, rfl⟩
  rw [← hN] at hl h8 hc ⊢
  replace hp := hide hp
  replace hlost := hide hlost
  replace hN := hide hN
  go_enter Try.func35, Try.ntmps35
  go_wp2_with fail
  go_loopw [4, 5, 11] (fun s4 s5 s11 wr => ∃ (j m : Nat) (A4 : Option Addr) (c4 : Nat) (A5 : Option Addr) (c5 : Nat), j ≤ N ∧ s11 = .int .i64 j ∧ s4 = .slice A4 j c4 ∧ j ≤ c4 ∧ s5 = .slice A5 m c5 ∧ m ≤ c5 ∧ Hid (m = (lostG 0 (ps.take j)).length) ∧ m ≤ j ∧ Rws wr w.heap.size (.slice A4 j c4) ((ps.take j).map (·.2)) ∧ Ow wr w.heap.size 3 1 (.slice A5 m c5) (In (lostG 0 (ps.take j))) ∧ Below w.heap.size w wr ∧ Hid (fine48 (ps.take j))) (fun _ _ s11 _ => N - (intOf s11).toNat)
  case atStart => exact ⟨0, 0, none, 0, none, 0, by omega, rfl, rfl, by omega, rfl, by omega, rfl, by omega, Rws.nil _ _, Ow.nil _ _ _ _, Below.refl _ _, fun p hp => by simp at hp⟩
  case round =>
    obtain ⟨j, m, A4, c4, A5, c5, hj, rfl, rfl, hc4, rfl, hc5, hm, hmj, hT, hO, hb, hf⟩ := hrel
    have hz := hb.size
    by_cases hlt : j < N
    · have hltI : (j : Int) < N := by omega
      have hjl : j < ps.length := by rw [← unhide hN]; exact hlt
      obtain ⟨b, o, rfl, _, hbl, hr⟩ := hs.at_ (k := j) (by simpa using hjl)
      simp only [List.getElem_map] at hr
      have hr2 := (rd_below hb hbl _ _).trans hr
      obtain ⟨X, hX⟩ : ∃ X, X = ps[j] := ⟨_, rfl⟩
      have htk : ps.take (j + 1) = ps.take j ++ [X] := by rw [hX, List.take_succ_eq_append_getElem hjl]
      have hXm : X ∈ ps := by rw [hX]; exact List.getElem_mem hjl
      have hXk : PgOk wr X := ((unhide hp) X hXm).below hb
      have hXb : ∀ a, X.2.1 = some a → a.block < w.heap.size := ((unhide hp) X hXm).2.2.2.1
      have hTb : ∀ t ∈ (ps.take j).map (·.2), ∀ a, t.1 = some a → a.block < w.heap.size := fun t ht a ha => by
        obtain ⟨p, hp', rfl⟩ := List.mem_map.1 ht
        exact ((unhide hp) p (List.mem_of_mem_take hp')).2.2.2.1 a ha
      rw [← hX] at hr2
      clear hr hX
      have hc0 : wr.cell? ⟨b, o + j * 2, none⟩ = some (.int .i64 X.1) := rd_cell hr2 0 (by omega)
      have hc1 : wr.cell? ⟨b, o + j * 2 + 1, none⟩ = some (.slice X.2.1 X.2.2.2.length X.2.2.1) := rd_cell hr2 1 (by omega)
      have hsn := lostG_snoc (ps.take j) 0 X
      rw [List.length_take, Nat.min_eq_left (by omega), Nat.zero_add, ← htk] at hsn
      replace htk := hide htk
      replace hr2 := hide hr2
      replace hXm := hide hXm
      obtain ⟨x1, hx1⟩ : ∃ x1, x1 = X.1 := ⟨_, rfl⟩
      rw [← hx1] at hc0 hsn
      obtain ⟨xl, hxl⟩ : ∃ xl, xl = X.2.2.2.length := ⟨_, rfl⟩
      rw [← hxl] at hc1
      have hcell : X.2.cell = .slice X.2.1 xl X.2.2.1 := by rw [hxl]; rfl
      replace hx1 := hide hx1
      replace hxl := hide hxl
      obtain ⟨W3, hW3⟩ : ∃ W3, wr.alloc (Obj.cells #[Value.int .i64 x1, Value.slice X.2.1 xl X.2.2.1] 35) = W3 := ⟨_, rfl⟩
      have b3 : Below wr.heap.size wr W3 := by rw [← hW3]; exact (Below.refl _ _).alloc (Nat.le_refl _) _
      have z3 : W3.heap.size = wr.heap.size + 1 := by rw [← hW3]; simp
      have hT3 : Rws W3 w.heap.size (.slice A4 j c4) ((ps.take j).map (·.2)) := hT.below b3
      have hO3 := hO.below b3 (fun g hg => (hO.lt g hg).2)
      have hXk3 := hXk.below b3
      have hbW3 : Below w.heap.size w W3 := hb.trans (b3.mono hz)
      clear hT hO hXk
      by_cases h2 : x1 = 2
      · rw [if_pos h2, List.append_nil] at hsn
        replace hsn := hide hsn
        subst h2
        by_cases h48 : xl = 48
        · subst h48
          obtain ⟨A6, c6, w6, hrun, hc6, hT6, hg6⟩ := Rws.app W3 w.heap.size (.slice A4 j c4) ((ps.take j).map (·.2)) hT3 [X.2] 1 rfl (fun t ht => by
            rw [List.mem_singleton.1 ht]
            refine ⟨hXk3.1, hXk3.2.1, hXk3.2.2.1, fun a ha => ⟨hXk3.2.2.2.1 a ha, fun e => ?_⟩⟩
            have h9 := hT3.1.lt a.block e.symm
            have h10 := hXb a ha
            omega) (by simp; omega) (by omega) 48
          have hll : ((ps.take j).map (·.2)).length = j := by rw [List.length_map, List.length_take, Nat.min_eq_left (by omega)]
          rw [hll] at hrun hc6 hT6
          have hcl : ([X.2].map Hr.cell).toArray = #[Value.slice X.2.1 48 X.2.2.1] := by simp [hcell]
          rw [hcl] at hrun hg6
          have hO6 : Ow w6 w.heap.size 3 1 (.slice A5 m c5) (In (lostG 0 (ps.take j))) := (hO3.alloc _).kept hg6 (own_ne hO3 hT3.1 (by decide))
          have hb6 : Below w.heap.size w w6 := below_grown (hbW3.alloc (by omega) _) hg6 (by simp; omega) (fun k ek => (hT3.1.lt k ek).1)
          have hT6' : Rws w6 w.heap.size (.slice A6 (j + 1) c6) ((ps.take (j + 1)).map (·.2)) := by
            rw [unhide htk, List.map_append]; exact hT6
          have hfj : fine48 (ps.take (j + 1)) := by
            rw [unhide htk]
            intro p hpm hp2
            rcases List.mem_append.1 hpm with h | h
            · exact (unhide hf) p h hp2
            · rw [List.mem_singleton.1 h, ← unhide hxl]
          rw [← unhide hsn] at hm hO6
          clear hT6 hg6 hT3 hO3 hb b3 hXk3 hXb hTb
          rw [← hW3] at hrun
          simp only [World.size_alloc] at hrun
          replace hW3 := hide hW3
          replace hfj := hide hfj
          replace hcl := hide hcl
          replace hcell := hide hcell
          replace hll := hide hll
          go_wp2_with (at_builtin; refine wpList_step (fun K hK => step_append_ex (o := ⟨some 31, _, _, _, _, _⟩) (.tmp 27) (.tmp 30) 48 rfl (by rfl) ?_); (with_reducible refine app_ex hrun ?_ (hK _ _ ?_)); rfl)
          go_roundw
          case rel => exact ⟨j + 1, m, A6, c6, A5, c5, by omega, by go_num, rfl, hc6, rfl, hc5, hm, by omega, hT6', hO6, hb6, hfj⟩
          case measure => simp [intOf]; omega
        · have h48I : ¬ ((xl : Int) = 48) := by omega
          have hno : ¬ (fine48 ps ∧ rightR (fixR (pgB ps) (lostG 0 ps)) = true) := fun h => h48 (by rw [unhide hxl]; exact h.1 X (unhide hXm) (unhide hx1).symm)
          clear hT3 hO3 hb b3 hXk3 hXb hTb
          replace hno := hide hno
          replace hcell := hide hcell
          have hbF := hbW3
          rw [← hW3] at hbF
          replace hW3 := hide hW3
          go_wp2_with fail
          refine bodyPost_ret (results_tmp2 rfl _ _ _) rfl ⟨⟨fun h => absurd h (unhide hno), fun _ => rfl⟩, hbF⟩
      · rw [if_neg h2] at hsn
        obtain ⟨A7, c7, w7, hrun7, hO7, hg7, hc7⟩ := run_append_in (W3.alloc (.cells #[.int .i64 j] 3)) w.heap.size m (.slice A5 m c5) (lostG 0 (ps.take j)) [(j : Int)] (hO3.alloc _) (unhide hm).symm 0 (W3.heap.size + 1) (some ⟨W3.heap.size, 0, none⟩) 1 1 (Sl.one (rd_new_whole _ _ _ _ _ _ rfl rfl) (Nat.zero_le _) (Nat.lt_succ_self _)) rfl (by omega) (by simp; omega) 23
        have hb7 : Below w.heap.size w w7 := below_grown (hbW3.alloc (by omega) _) hg7 (by simp; omega) (fun k ek => (hO3.lt k ek).1)
        rw [← hsn] at hO7
        have hT7 : Rws w7 w.heap.size (.slice A4 j c4) ((ps.take j).map (·.2)) := (hT3.alloc _).grown hg7 (own_ne hT3.1 hO3 (by decide)) (fun t ht a ha e => by
          have h9 := (hO3.lt a.block e.symm).1
          have h10 := hTb t ht a ha
          omega)
        have z7 : W3.heap.size + 1 ≤ w7.heap.size := by have := hg7.size; simpa using this
        have hP7 : ∀ i, i < W3.heap.size → some i ≠ (Value.slice A5 m c5).ownBlock → w7.heap[i]? = W3.heap[i]? := fun i hi hn => (hg7.block i (by simp; omega) hn).trans (Below.heap_alloc _ _ _ hi)
        have hpg : w7.heap[wr.heap.size]? = some (.cells #[Value.int .i64 x1, Value.slice X.2.1 xl X.2.2.1] 35 (0, 0)) := by
          have h0 : W3.heap[wr.heap.size]? = some (.cells #[Value.int .i64 x1, Value.slice X.2.1 xl X.2.2.1] 35 (0, 0)) := by rw [← hW3]; exact heap_alloc_new _ _
          refine (hP7 _ (by omega) (fun e => ?_)).trans h0
          obtain ⟨cells, h1⟩ := own_typed hO3 _ e.symm
          rw [h0] at h1
          injection h1 with h1
          injection h1 with _ h3 _
          exact absurd h3 (by decide)
        have hpc : w7.cell? ⟨wr.heap.size, 1, none⟩ = some (.slice X.2.1 xl X.2.2.1) := by simp [World.cell?, hpg]
        have hXk7 : PgOk w7 X := ((unhide hp) X (unhide hXm)).below (hb7)
        obtain ⟨A6, c6, w6, hrun, hc6, hT6, hg6⟩ := Rws.app w7 w.heap.size (.slice A4 j c4) ((ps.take j).map (·.2)) hT7 [X.2] 1 rfl (fun t ht => by
          rw [List.mem_singleton.1 ht]
          refine ⟨hXk7.1, hXk7.2.1, hXk7.2.2.1, fun a ha => ⟨hXk7.2.2.2.1 a ha, fun e => ?_⟩⟩
          have h9 := hT7.1.lt a.block e.symm
          have h10 := hXb a ha
          omega) (by simp; omega) (by omega) 48
        have hll : ((ps.take j).map (·.2)).length = j := by rw [List.length_map, List.length_take, Nat.min_eq_left (by omega)]
        rw [hll] at hrun hc6 hT6
        have hcl : ([X.2].map Hr.cell).toArray = #[Value.slice X.2.1 xl X.2.2.1] := by simp [hcell]
        rw [hcl] at hrun hg6
        have hO6 : Ow w6 w.heap.size 3 1 (.slice A7 (m + 1) c7) (In (lostG 0 (ps.take (j + 1)))) := (hO7.alloc _).kept hg6 (own_ne hO7 hT7.1 (by decide))
        have hb6 : Below w.heap.size w w6 := below_grown (hb7.alloc (by omega) _) hg6 (by simp; omega) (fun k ek => (hT7.1.lt k ek).1)
        have hT6' : Rws w6 w.heap.size (.slice A6 (j + 1) c6) ((ps.take (j + 1)).map (·.2)) := by
          rw [unhide htk, List.map_append]; exact hT6
        have hfj : fine48 (ps.take (j + 1)) := by
          rw [unhide htk]
          intro p hpm hp2
          rcases List.mem_append.1 hpm with h | h
          · exact (unhide hf) p h hp2
          · rw [List.mem_singleton.1 h, ← unhide hx1] at hp2
            exact absurd hp2 h2
        have hm6 : m + 1 = (lostG 0 (ps.take (j + 1))).length := by rw [hsn, List.length_append, ← unhide hm]; rfl
        clear hT6 hg6 hT3 hO3 hb b3 hXk3 hXb hTb hT7 hO7 hg7 hXk7 hsn
        rw [← hW3] at hrun7
        simp only [World.size_alloc] at hrun7
        replace hW3 := hide hW3
        replace hfj := hide hfj
        replace hcl := hide hcl
        replace hcell := hide hcell
        replace hll := hide hll
        replace hm6 := hide hm6
        replace hpg := hide hpg
        replace z3 := hide z3
        go_wp2_with (first | (at_builtin; refine wpList_step (fun K hK => step_append_ex (o := ⟨some 22, _, _, _, _, _⟩) (.tmp 19) (.tmp 21) 23 rfl (by rfl) ?_); (with_reducible refine app_ex hrun7 ?_ (hK _ _ ?_)); rfl) | (at_builtin; refine wpList_step (fun K hK => step_append_ex (o := ⟨some 31, _, _, _, _, _⟩) (.tmp 27) (.tmp 30) 48 rfl (by rfl) ?_); (with_reducible refine app_ex hrun ?_ (hK _ _ ?_)); rfl))
        go_roundw
        case rel => exact ⟨j + 1, m + 1, A6, c6, A7, c7, by omega, by go_num, rfl, hc6, rfl, hc7, hm6, by omega, hT6', hO6, hb6, hfj⟩
        case measure => simp [intOf]; omega
    · obtain rfl : j = N := by omega
      have htl : ps.take j = ps := by rw [unhide hN]; exact List.take_length
      rw [htl] at hT hO hm hf
      replace htl := hide htl
      have hN' := unhide hN
      have hlo := unhide hlost
      have hfix := fix_pages ps A4 A5 c4 c5 j m wr hN' (unhide hm) (by omega) (by omega) hlo (unhide hf) (fun p hpm => ((unhide hp) p hpm).2.2.2.2) (fun p hpm => ((unhide hp) p hpm).2.1) hc4 hc5 hT hO
      obtain ⟨f1, f2, f3⟩ := pages_fix (ps := ps) (by omega) (by omega) hlo (unhide hf) (fun p hpm => ((unhide hp) p hpm).2.2.2.2)
      rw [← hN'] at hfix f3
      clear hN' hlo
      obtain ⟨F, hF⟩ : ∃ F, F = fixR (pgB ps) (lostG 0 ps) := ⟨_, rfl⟩
      rw [← hF] at f2 f3 hfix
      replace hF := hide hF
      clear f1
      have hchk := fun (A' : Option Addr) (c' : Nat) (w' : World) (hc' : j ≤ c') (hC : RC w' A' j F) => check_rows F A' c' j w' f3.symm (by omega) (by omega) f2 hc' hC
      replace f3 := hide f3
      go_wp2_with fail
      (with_reducible refine hfix.mono ?_)
      rintro e w5 ⟨A', c', rfl, hc', hC', hB'⟩
      have hbF := hb.trans (hB'.mono hz)
      go_wp2_with fail
      (with_reducible refine (hchk A' c' _ hc' hC').mono ?_)
      rintro e w6 ⟨rfl, hB6⟩
      have hbG := hbF.trans (hB6.mono hbF.size)
      have hC6 : RC w6 A' j F := Kd.C_below hC' hB6
      cases hr : rightR F with
      | true =>
        have hr' := hide (show rightR (fixR (pgB ps) (lostG 0 ps)) = true by rw [← unhide hF]; exact hr)
        clear hr
        go_wp2_with fail
        refine bodyPost_ret (results_tmp2 rfl _ _ _) rfl ⟨⟨fun _ => ⟨A', c', rfl, hc', by rw [← unhide hF]; exact hC6⟩, fun h => absurd ⟨unhide hf, unhide hr'⟩ h⟩, hbG⟩
      | false =>
        have hr' := hide (show rightR (fixR (pgB ps) (lostG 0 ps)) = false by rw [← unhide hF]; exact hr)
        clear hr
        go_wp2_with fail
        refine bodyPost_ret (results_tmp2 rfl _ _ _) rfl ⟨⟨fun h => absurd h.2 (by rw [unhide hr']; simp), fun _ => rfl⟩, hbG⟩
end Go.Proofs.Ytodbmgafejclmaa.Base
namespace Go.Proofs.Ytodbmgafejclmaa.Base
open Go.RowKit Go.Proofs.YtodbmgafejclmaaW.PrintWords Go.Proofs.YtodbmgafejclmaaW.PrintLast
set_option linter.unusedSimpArgs false
set_option linter.unusedVariables false
/-- a head (api.Head) -/
structure Hd where
  a : Int
  b : Int
  c : Int
  d : Int
def Hd.arr (h : Hd) : Array Value := #[.int .i64 h.a, .int .i64 h.b, .int .i64 h.c, .int .i64 h.d]
def Hd.zero : Hd := ⟨0, 0, 0, 0⟩
theorem Hd.ext_iff' (e f : Hd) : (e.a = f.a ∧ e.b = f.b ∧ e.c = f.c ∧ e.d = f.d) ↔ e = f := by
  constructor
  · rintro ⟨h1, h2, h3, h4⟩
    cases e; cases f
    simp only at h1 h2 h3 h4
    subst h1 h2 h3 h4
    rfl
  · rintro rfl; exact ⟨rfl, rfl, rfl, rfl⟩
instance : DecidableEq Hd := fun e f => decidable_of_iff _ (Hd.ext_iff' e f)
theorem Hd.arr_size (h : Hd) : h.arr.size = 4 := by simp [Hd.arr]
theorem Hd.arr0 (h : Hd) : h.arr[0]? = some (.int .i64 h.a) := rfl
theorem Hd.arr1 (h : Hd) : h.arr[1]? = some (.int .i64 h.b) := rfl
theorem Hd.arr2 (h : Hd) : h.arr[2]? = some (.int .i64 h.c) := rfl
theorem Hd.arr3 (h : Hd) : h.arr[3]? = some (.int .i64 h.d) := rfl
theorem Hd.arr0g (e : Hd) (h : 0 < e.arr.size) : e.arr[0] = .int .i64 e.a := rfl
theorem Hd.okW (h : Hd) : Base.okW h.arr 4 = true := by
  have h1 : h.arr.all (·.oneCell') = true := by
    rw [Array.all_eq_true_iff_forall_mem]
    intro v hv
    simp only [Hd.arr, List.mem_toArray, List.mem_cons, List.not_mem_nil, or_false] at hv
    rcases hv with rfl | rfl | rfl | rfl <;> rfl
  unfold Base.okW
  rw [h1]
  rfl
theorem Hd.lit (a b c d : Int) : (#[.int .i64 a, .int .i64 b, .int .i64 c, .int .i64 d] : Array Value) = (⟨a, b, c, d⟩ : Hd).arr := rfl
theorem ldV_hd (a : Addr) : loadVar 69 a = ldV 69 a := rfl
theorem stV_hd (a : Addr) (v : Value) : storeVar 69 a v = stV 69 a v := rfl
set_option maxRecDepth 100000 in
theorem info_hd : (Try.prog.info? 69).map (·.size) = some 4 := by kernel_rfl
set_option maxRecDepth 100000 in
theorem run_ldV_hd (w : World) (b o : Nat) : (ldV 69 ⟨b, o, none⟩).run Try.prog w = ldR Try.prog 69 ⟨b, o, none⟩ (rd w b o 4) w :=
  run_ldV Try.prog 69 4 _ Try.underlying69 rfl info_hd w b o
set_option maxRecDepth 100000 in
theorem run_stV_hd (w : World) (b o : Nat) (cs : Array Value) : (stV 69 ⟨b, o, none⟩ (.agg cs)).run Try.prog w =
    stR Try.prog 69 ⟨b, o, none⟩ (canW w b o 4 && Base.okW cs 4) (.agg cs) w (wr w b o cs) :=
  run_stV Try.prog 69 4 info_hd w b o cs
def bdHd (ps : Array (Nat × Value)) : Sem Value := Instr.build 69 ps
theorem build_hd (ps : Array (Nat × Value)) : Instr.build 69 ps = bdHd ps := rfl
set_option maxRecDepth 100000 in
theorem run_bdHd4 (w : World) (a b c d : Int) : (bdHd #[(0, .int .i64 a), (1, .int .i64 b), (2, .int .i64 c), (3, .int .i64 d)]).run Try.prog w = .ok (.agg (⟨a, b, c, d⟩ : Hd).arr) w := by kernel_rfl
set_option maxRecDepth 100000 in
theorem run_bdHd0 (w : World) : (bdHd #[]).run Try.prog w = .ok (.agg (⟨0, 0, 0, 0⟩ : Hd).arr) w := by kernel_rfl
theorem results_cct {P : Program} {fn : Func} {p p' q : Tmp} {t t' : TypeId} (hf : fn.results = #[.cell p t, .cell p' t', .tmp q]) {n n' : Nat} {d d' : TypeDesc} (hu : P.underlying t = some d) (hd : d.isRow = true) (hi : (P.info? t).map (·.size) = some n)
    (hu' : P.underlying t' = some d') (hd' : d'.isRow = true) (hi' : (P.info? t').map (·.size) = some n')
    {w : World} {tmps : Array Value} {b o b' o' : Nat} {cs cs' : Array Value} (hp : tmps.getD p undef = .pointer (some ⟨b, o, none⟩)) (h : rd w b o n = some cs) (hp' : tmps.getD p' undef = .pointer (some ⟨b', o', none⟩)) (h' : rd w b' o' n' = some cs') :
    (results fn tmps).run P w = .ok (.tuple #[.agg cs, .agg cs', tmps.getD q undef]) w := by
  have hp1 : tmps[p]?.getD undef = .pointer (some ⟨b, o, none⟩) := by simpa using hp
  have hp2 : tmps[p']?.getD undef = .pointer (some ⟨b', o', none⟩) := by simpa using hp'
  simp [results, hf, hp1, hp2, asAddr, run_loadVar_rd hu hd hi h, run_loadVar_rd hu' hd' hi' h']
theorem But.at_ {b j : Nat} {w w' : World} {X : Obj} (h : But b w w') (hj : w.heap[j]? = some X) (hn : j ≠ b) : w'.heap[j]? = some X :=
  (h.block j (Array.getElem?_eq_some_iff.1 hj).1 hn).trans hj
attribute [local go_sem] Ent.arr0 Ent.arr1 Ent.arr2 Ent.set1 Ent.set2 Ent.arr_size Ent.okW Ent.lit run_ldV_ent run_stV_ent ldR_some stR_true rd_new_whole rd_alloc canW_new canW_alloc wr_new wr_alloc rd_drew rd_drewN canW_drew canW_drewN run_bsS_ent run_bsS_ent0 run_eqI_ent rd_setCell rd_setCell_same canW_setCell' Option.map_some cell_wr_other rd_wr_same rd_wr_other
attribute [local go_sem ↓] ldV_ent stV_ent bsS_ent eqI_ent
attribute [local go_sem] Ent.arr0g Ent.arr1g Ent.arr2g run_ldV_dat rd_dat run_eqI_dat dat_lit
attribute [local go_sem ↓] ldV_dat eqI_dat
attribute [local go_sem] run_bdE4 run_bdE3 run_bdE1 run_bdE0
attribute [local go_sem ↓] build_ent
attribute [local go_sem] canW_wr_other Hd.arr_size Hd.arr0 Hd.arr0g Hd.okW Hd.lit run_ldV_hd run_stV_hd run_bdHd4 run_bdHd0
attribute [local go_sem ↓] ldV_hd stV_hd build_hd
/-- a slot's bytes, whatever they are -/
def rawB (H : List Int) (x1 x2 x3 k : Int) (L S D Z : List Int) : List Int := H ++ x1 :: x2 :: x3 :: k :: (L ++ (S ++ (D ++ Z)))
def datL (D : List Int) : Fin 16 → Int := fun i => D.getD i 0
def rawE (k : Int) (L S D : List Int) : Ent := ⟨k, wrap64 (leN L), wrap64 (leN S), datL D⟩
def fineB (h0 : Int) (e : Ent) (Z : List Int) : Prop := (∀ z ∈ Z, z = 0) ∧ (1 ≤ h0 ∧ h0 ≤ 1099511627776) ∧ OkE e
structure PS (w0 : World) (P2 base b : Nat) (rest : List Int) (wr : World) : Prop where
  below : Below w0.heap.size w0 wr
  rd : RdS wr base b rest
  e2 : wr.heap[P2]? = some (.cells (⟨0, 0, 0, 0⟩ : Hd).arr 69 (0, 0))
  e3 : wr.heap[P2 + 1]? = some (.cells ({ k := 0, l := 0, s := 0, d := fun _ => 0 } : Ent).arr 54 (0, 0))
  lt : P2 + 2 ≤ base
  le : w0.heap.size ≤ P2
theorem PS.but {w0 wr wr' : World} {P2 base b : Nat} {rest rest' : List Int} (h : PS w0 P2 base b rest wr) (hB : But b wr wr') (hR : RdS wr' base b rest') : PS w0 P2 base b rest' wr' := by
  have h1 := h.lt
  have h2 := h.rd.1
  have h3 := h.le
  have h4 := h.rd.lt
  exact ⟨hB.below h.below (by omega) (by omega), hR, hB.at_ h.e2 (by omega), hB.at_ h.e3 (by omega), h1, h3⟩
theorem PS.alloc {w0 wr : World} {P2 base b : Nat} {rest : List Int} (h : PS w0 P2 base b rest wr) (o : Obj) : PS w0 P2 base b rest (wr.alloc o) := by
  have h1 := h.lt
  have h2 := h.rd.1
  have h3 := h.le
  have h4 := h.rd.lt
  exact ⟨h.below.alloc h.below.size o, h.rd.but (g := wr.heap.size) ⟨rfl, rfl, rfl, by simp, fun j hj _ => Below.heap_alloc _ _ _ hj⟩ h4, (Below.heap_alloc _ _ _ (by omega)).trans h.e2, (Below.heap_alloc _ _ _ (by omega)).trans h.e3, h1, h3⟩
theorem PS.set {w0 wr : World} {P2 base b g i : Nat} {rest : List Int} (h : PS w0 P2 base b rest wr) (hg : b < g) (v : Value) : PS w0 P2 base b rest (wr.setCell ⟨g, i, none⟩ v) := by
  have h1 := h.lt
  have h2 := h.rd.1
  have h3 := h.le
  have h4 := h.rd.lt
  exact ⟨h.below.setCell (p := ⟨g, i, none⟩) (by show w0.heap.size ≤ g; omega) v, h.rd.but (g := g) ⟨rfl, rfl, rfl, by simp, fun j hj hn => Below.heap_setCell _ _ _ _ hn⟩ hg, (Below.heap_setCell _ _ _ _ (by show P2 ≠ g; omega)).trans h.e2, (Below.heap_setCell _ _ _ _ (by show P2 + 1 ≠ g; omega)).trans h.e3, h1, h3⟩
/-- the bytes that are read, so far -/
def datU (D : List Int) (n : Nat) : Fin 16 → Int := fun i => if i.1 < n then D.getD i 0 else 0
theorem datU_step (k l s : Int) (D : List Int) (n : Nat) (hn : n < 16) : (⟨k, l, s, datU D n⟩ : Ent).arr.setIfInBounds (3 + n) (.int .u8 (D.getD n 0)) = (⟨k, l, s, datU D (n + 1)⟩ : Ent).arr := by
  apply Array.ext_getElem?
  intro j
  rw [Array.getElem?_setIfInBounds]
  simp only [Ent.arr, Ent.cells, Ent.data, List.getElem?_toArray, List.size_toArray, List.length_cons, List.length_ofFn]
  match j with
  | 0 => rw [if_neg (by omega)]; rfl
  | 1 => rw [if_neg (by omega)]; rfl
  | 2 => rw [if_neg (by omega)]; rfl
  | j + 3 =>
    simp only [List.getElem?_cons_succ, List.getElem?_ofFn]
    by_cases hj : j = n
    · subst hj
      rw [if_pos (by omega), if_pos (by omega), dif_pos hn]
      simp [datU]
    · rw [if_neg (by omega)]
      by_cases hj16 : j < 16
      · rw [dif_pos hj16, dif_pos hj16]
        unfold datU
        simp only
        congr 2
        by_cases h : j < n
        · rw [if_pos h, if_pos (by omega)]
        · rw [if_neg h, if_neg (by omega)]
      · rw [dif_neg hj16, dif_neg hj16]
theorem datU_all (D : List Int) : datU D 16 = datL D := by
  funext i
  exact if_pos i.2
theorem or_i64 (v : Nat) (y : Int) (hv : v < 256) (hy : 0 ≤ y ∧ y < 256) : ∃ u : Nat, u < 256 ∧ bits .or .i64 (v : Int) y = (u : Int) ∧ (u = 0 ↔ v = 0 ∧ y = 0) := by
  obtain ⟨m, rfl⟩ := Int.eq_ofNat_of_zero_le hy.1
  refine ⟨v ||| m, Nat.or_lt_two_pow (n := 8) hv (by omega), (bits_nat .i64 8 (by decide) (fun n h0 h1 => by rw [IntKind.wrap_i64]; omega) v m hv (by omega)).2, ?_⟩
  rw [Nat.or_eq_zero_iff]
  omega
set_option maxRecDepth 100000 in
set_option maxHeartbeats 1000000 in
theorem parse_any (A : Option Addr) (c : Nat) (H : List Int) (x1 x2 x3 k : Int) (L S D Z : List Int) (l : Nat) (w : World) (hl : l = 48) (hH : H.length = 8) (hL : L.length = 8) (hS : S.length = 8) (hD : D.length = 16) (hZ : Z.length = 4)
    (bH : OkB H) (b1 : 0 ≤ x1 ∧ x1 < 256) (b2 : 0 ≤ x2 ∧ x2 < 256) (b3 : 0 ≤ x3 ∧ x3 < 256) (bk : 0 ≤ k ∧ k < 256) (bL : OkB L) (bS : OkB S) (bD : OkB D) (bZ : OkB Z) (hs : Sl w 0 w.heap.size 1 A (By (rawB H x1 x2 x3 k L S D Z))) :
    Calls Try.prog 47 #[.slice A l c] w fun x w' => ((fineB (wrap64 (leN H)) (rawE k L S D) Z → x = .returned (.tuple #[.agg (⟨wrap64 (leN H), x1, x2, x3⟩ : Hd).arr, .agg (rawE k L S D).arr, .int .i64 0])) ∧
      (¬ fineB (wrap64 (leN H)) (rawE k L S D) Z → x = .returned (.tuple #[.agg Hd.zero.arr, .agg Ent.zero.arr, .int .i64 5]))) ∧ Below w.heap.size w w' := by
  have hlen : (rawB H x1 x2 x3 k L S D Z).length = l := by simp [rawB]; omega
  obtain ⟨V0, hV0⟩ : ∃ v, v = wrap64 (leN H) := ⟨_, rfl⟩
  obtain ⟨V1, hV1⟩ : ∃ v, v = wrap64 (leN L) := ⟨_, rfl⟩
  obtain ⟨V2, hV2⟩ : ∃ v, v = wrap64 (leN S) := ⟨_, rfl⟩
  have hrE : rawE k L S D = ⟨k, V1, V2, datL D⟩ := by rw [hV1, hV2]; rfl
  rw [← hV0, hrE]
  clear hrE
  have i0 := fun (base b : Nat) (rest : List Int) (wr : World) hR hl => rint8_any base b H rest wr hR hH bH hl
  have i1 := fun (base b : Nat) (rest : List Int) (wr : World) hR hl => rint8_any base b L rest wr hR hL bL hl
  have i2 := fun (base b : Nat) (rest : List Int) (wr : World) hR hl => rint8_any base b S rest wr hR hS bS hl
  rw [← hV0] at i0
  rw [← hV1] at i1
  rw [← hV2] at i2
  clear hV0 hV1 hV2
  replace hl := hide hl
  go_enter Try.func47, Try.ntmps47
  go_wp2_with fail
  obtain ⟨P2, hP2⟩ : ∃ P2, P2 = w.heap.size := ⟨_, rfl⟩
  obtain ⟨w2, hw2⟩ : ∃ w2, w2 = (w.alloc (.cells (⟨0, 0, 0, 0⟩ : Hd).arr 69)).alloc (.cells ({ k := 0, l := 0, s := 0, d := fun _ => 0 } : Ent).arr 54) := ⟨_, rfl⟩
  rw [← hw2, ← hP2]
  have z2 : w2.heap.size = P2 + 2 := by rw [hw2, hP2]; simp
  have e2 : w2.heap[P2]? = some (.cells (⟨0, 0, 0, 0⟩ : Hd).arr 69 (0, 0)) := by rw [hw2, hP2]; exact (Below.heap_alloc _ _ _ (by simp)).trans (heap_alloc_new _ _)
  have e3 : w2.heap[P2 + 1]? = some (.cells ({ k := 0, l := 0, s := 0, d := fun _ => 0 } : Ent).arr 54 (0, 0)) := by
    rw [hw2, hP2, show w.heap.size + 1 = (w.alloc (.cells (⟨0, 0, 0, 0⟩ : Hd).arr 69)).heap.size from by simp]; exact heap_alloc_new _ _
  have hb2 : Below w.heap.size w w2 := by rw [hw2]; exact ((Below.refl _ _).alloc (Nat.le_refl _) _).alloc (by simp) _
  have hs2 := (hs.below hb2).more hb2.size
  have hnew := new_any A c _ w2 (by rw [hlen]; have := unhide hl; omega) hs2
  rw [hlen] at hnew
  clear hw2 hs hs2
  replace hP2 := hide hP2
  replace z2 := hide z2
  (with_reducible refine hnew.mono ?_)
  rintro e w3 ⟨b, rfl, hR, hb3⟩
  have hS3 : PS w P2 w2.heap.size b (rawB H x1 x2 x3 k L S D Z) w3 := ⟨hb2.trans (hb3.mono hb2.size), hR, (hb3.block _ (by rw [unhide z2]; omega)).trans e2, (hb3.block _ (by rw [unhide z2]; omega)).trans e3, by rw [unhide z2]; omega, by rw [unhide hP2]; omega⟩
  clear hnew hR hb3 e2 e3 hb2
  go_wp2_with fail
  (with_reducible refine (i0 _ b (x1 :: x2 :: x3 :: k :: (L ++ (S ++ (D ++ Z)))) w3 hS3.rd (by simp; omega)).mono ?_)
  rintro e w4 ⟨rfl, hR, hB⟩
  have hS4 := hS3.but hB hR
  clear hS3 hB hR i0
  go_wp2_with fail
  (with_reducible refine (rbyte1_any _ b x1 _ w4 hS4.rd b1 (by simp; omega)).mono ?_)
  rintro e w5 ⟨rfl, hR, hB⟩
  have hS5 := hS4.but hB hR
  clear hS4 hB hR
  go_wp2_with fail
  (with_reducible refine (rbyte1_any _ b x2 _ w5 hS5.rd b2 (by simp; omega)).mono ?_)
  rintro e w6 ⟨rfl, hR, hB⟩
  have hS6 := hS5.but hB hR
  clear hS5 hB hR
  go_wp2_with fail
  (with_reducible refine (rbyte1_any _ b x3 _ w6 hS6.rd b3 (by simp; omega)).mono ?_)
  rintro e w7 ⟨rfl, hR, hB⟩
  have hS7 := hS6.but hB hR
  clear hS6 hB hR
  go_wp2_with fail
  obtain ⟨B6, hB6⟩ : ∃ B6, B6 = w7.heap.size := ⟨_, rfl⟩
  rw [← hB6]
  have hS7' := hS7.alloc (.cells (⟨V0, x1, x2, x3⟩ : Hd).arr 69)
  have e6 : (w7.alloc (.cells (⟨V0, x1, x2, x3⟩ : Hd).arr 69)).heap[B6]? = some (.cells (⟨V0, x1, x2, x3⟩ : Hd).arr 69 (0, 0)) := by rw [hB6]; exact heap_alloc_new _ _
  have hb6 : b < B6 := by rw [hB6]; exact hS7.rd.lt
  obtain ⟨w8, hw8⟩ : ∃ w8, w8 = w7.alloc (.cells (⟨V0, x1, x2, x3⟩ : Hd).arr 69) := ⟨_, rfl⟩
  rw [← hw8] at hS7' e6 ⊢
  clear hw8 hS7
  replace hB6 := hide hB6
  replace e6 := hide e6
  (with_reducible refine (rbyte1_any _ b k _ w8 hS7'.rd bk (by simp; omega)).mono ?_)
  rintro e w9 ⟨rfl, hR, hB⟩
  have hS9 := hS7'.but hB hR
  replace e6 := hide (hB.at_ (unhide e6) (by omega))
  clear hS7' hB hR
  go_wp2_with fail
  (with_reducible refine (i1 _ b (S ++ (D ++ Z)) w9 hS9.rd (by simp; omega)).mono ?_)
  rintro e w10 ⟨rfl, hR, hB⟩
  have hS10 := hS9.but hB hR
  replace e6 := hide (hB.at_ (unhide e6) (by omega))
  clear hS9 hB hR i1
  go_wp2_with fail
  (with_reducible refine (i2 _ b (D ++ Z) w10 hS10.rd (by simp; omega)).mono ?_)
  rintro e w11 ⟨rfl, hR, hB⟩
  have hS11 := hS10.but hB hR
  replace e6 := hide (hB.at_ (unhide e6) (by omega))
  clear hS10 hB hR i2
  go_wp2_with fail
  obtain ⟨B7, hB7⟩ : ∃ B7, B7 = w11.heap.size := ⟨_, rfl⟩
  rw [← hB7]
  have hS12 := hS11.alloc (.cells ({ k := k, l := V1, s := V2, d := fun _ => 0 } : Ent).arr 54)
  have e7 : (w11.alloc (.cells ({ k := k, l := V1, s := V2, d := fun _ => 0 } : Ent).arr 54)).heap[B7]? = some (.cells (⟨k, V1, V2, datU D 0⟩ : Ent).arr 54 (0, 0)) := by rw [hB7]; exact heap_alloc_new _ _
  have hb7 : B6 < B7 := by rw [hB7]; exact (Array.getElem?_eq_some_iff.1 (unhide e6)).1
  replace e6 := hide ((Below.heap_alloc w11 (.cells ({ k := k, l := V1, s := V2, d := fun _ => 0 } : Ent).arr 54) B6 (by omega)).trans (unhide e6))
  obtain ⟨w12, hw12⟩ : ∃ w12, w12 = w11.alloc (.cells ({ k := k, l := V1, s := V2, d := fun _ => 0 } : Ent).arr 54) := ⟨_, rfl⟩
  rw [← hw12] at hS12 e7 e6 ⊢
  clear hw12 hS11
  replace hB7 := hide hB7
  replace e7 := hide e7
  go_loopw [8, 29] (fun s8 s29 wr => ∃ i : Nat, i ≤ 16 ∧ s29 = .int .i64 i ∧ PS w P2 w2.heap.size b (D.drop i ++ Z) wr ∧ Hid (wr.heap[B6]? = some (.cells (⟨V0, x1, x2, x3⟩ : Hd).arr 69 (0, 0))) ∧ Hid (wr.heap[B7]? = some (.cells (⟨k, V1, V2, datU D i⟩ : Ent).arr 54 (0, 0)))) (fun _ s29 _ => 16 - (intOf s29).toNat)
  case atStart => exact ⟨0, by omega, rfl, hS12, e6, e7⟩
  case round =>
    clear hS12 e6 e7
    obtain ⟨i, hi, rfl, hP, e6, e7⟩ := hrel
    by_cases hin : i < 16
    · have hinI : 0 ≤ (i : Int) ∧ (i : Int) < 16 := by omega
      obtain ⟨y, hy⟩ : ∃ y, y = D.getD i 0 := ⟨_, rfl⟩
      have hyb : 0 ≤ y ∧ y < 256 := by
        rw [hy, List.getD_eq_getElem?_getD, List.getElem?_eq_getElem (by omega)]
        exact bD _ (List.getElem_mem _)
      have hdr : D.drop i = y :: D.drop (i + 1) := by
        rw [hy, List.getD_eq_getElem?_getD, List.getElem?_eq_getElem (by omega), Option.getD_some]
        exact List.drop_eq_getElem_cons (by omega)
      have hst := datU_step k V1 V2 D i hin
      rw [← hy] at hst
      replace hy := hide hy
      rw [hdr] at hP
      clear hdr
      go_wp2_with fail
      (with_reducible refine (rbyte1_any _ b y _ wr hP.rd hyb (by simp; omega)).mono ?_)
      rintro e wa ⟨rfl, hR, hB⟩
      have hSa := hP.but hB hR
      have e6a := hB.at_ (unhide e6) (by omega)
      have e7a := hB.at_ (unhide e7) (by omega)
      have c7 : ∃ v, wa.cell? ⟨B7, 3 + i, none⟩ = some v := by
        have : wa.cell? ⟨B7, 3 + i, none⟩ = (⟨k, V1, V2, datU D i⟩ : Ent).arr[3 + i]? := by simp [World.cell?, e7a]
        exact ⟨_, this.trans (Array.getElem?_eq_getElem (by rw [Ent.arr_size]; omega))⟩
      obtain ⟨v7, c7⟩ := c7
      have f7 : wa.frozen? ⟨B7, 3 + i, none⟩ = false := by simp [World.frozen?, e7a]
      have hPb := hSa.set (g := B7) (i := 3 + i) (by omega) (.int .u8 y)
      have e6b := hide ((Below.heap_setCell wa ⟨B7, 3 + i, none⟩ (.int .u8 y) B6 (by show B6 ≠ B7; omega)).trans e6a)
      have e7b := heap_setCell_same wa B7 (3 + i) _ _ (.int .u8 y) e7a
      rw [hst] at e7b
      replace e7b := hide e7b
      clear e6 e7 e6a e7a hP hR hB hst hSa
      go_wp2_with fail
      go_roundw
      case rel => exact ⟨i + 1, by omega, by go_num, hPb, e6b, e7b⟩
      case measure => simp [intOf]; omega
    · have hi16 : i = 16 := by omega
      rw [show (i : Int) = 16 from by omega]
      rw [hi16, datU_all] at e7
      rw [hi16] at hP
      clear hi16 hin hi
      rw [List.drop_eq_nil_of_le (by omega), List.nil_append] at hP
      go_wp2_with fail
      go_loopw [9, 39] (fun s9 s39 wr => ∃ j v : Nat, j ≤ 4 ∧ s39 = .int .i64 j ∧ s9 = .int .i64 v ∧ v < 256 ∧ (v = 0 ↔ ∀ z ∈ Z.take j, z = 0) ∧ PS w P2 w2.heap.size b (Z.drop j) wr ∧ Hid (wr.heap[B6]? = some (.cells (⟨V0, x1, x2, x3⟩ : Hd).arr 69 (0, 0))) ∧ Hid (wr.heap[B7]? = some (.cells (⟨k, V1, V2, datL D⟩ : Ent).arr 54 (0, 0)))) (fun _ s39 _ => 4 - (intOf s39).toNat)
      case atStart => exact ⟨0, 0, by omega, rfl, rfl, by omega, by simp, hP, e6, e7⟩
      case round =>
        clear hP e6 e7
        obtain ⟨j, v, hj, rfl, rfl, hv, hv0, hP, e6, e7⟩ := hrel
        by_cases hjn : j < 4
        · have hjnI : 0 ≤ (j : Int) ∧ (j : Int) < 4 := by omega
          obtain ⟨y, hy⟩ : ∃ y, y = Z[j]'(by omega) := ⟨_, rfl⟩
          have hyb : 0 ≤ y ∧ y < 256 := by
            rw [hy]
            exact bZ _ (List.getElem_mem _)
          have hdr : Z.drop j = y :: Z.drop (j + 1) := by
            rw [hy]
            exact List.drop_eq_getElem_cons (by omega)
          obtain ⟨u, hu, hst, hu0⟩ := or_i64 v y hv hyb
          have hu1 : u = 0 ↔ ∀ z ∈ Z.take (j + 1), z = 0 := by
            rw [hu0, hv0, List.take_succ_eq_append_getElem (by omega), ← hy]
            constructor
            · rintro ⟨h1, h2⟩ z hz
              rcases List.mem_append.1 hz with hz | hz
              · exact h1 z hz
              · rw [List.mem_singleton.1 hz]; exact h2
            · intro h
              exact ⟨fun z hz => h z (List.mem_append_left _ hz), h y (List.mem_append_right _ List.mem_cons_self)⟩
          rw [hdr] at hP
          replace hy := hide hy
          replace hst := hide hst
          clear hdr hv0 hu0
          replace hu1 := hide hu1
          go_wp2_with fail
          (with_reducible refine (rbyte1_any _ b y _ wr hP.rd hyb (by simp; omega)).mono ?_)
          rintro e wa ⟨rfl, hR, hB⟩
          have hPa := hP.but hB hR
          have e6a := hide (hB.at_ (unhide e6) (by omega))
          have e7a := hide (hB.at_ (unhide e7) (by omega))
          clear e6 e7 hP hR hB
          go_wp2_with fail
          go_roundw
          case rel => exact ⟨j + 1, u, by omega, by go_num, by rw [unhide hst], hu, unhide hu1, hPa, e6a, e7a⟩
          case measure => simp [intOf]; omega
        · obtain rfl : j = 4 := by omega
          rw [List.drop_eq_nil_of_le (by omega)] at hP
          rw [List.take_of_length_le (by omega)] at hv0
          go_wp2_with fail
          (with_reducible refine (rend_any _ b wr hP.rd).mono ?_)
          rintro e wa ⟨rfl, rfl⟩
          have hPe2 := hP.e2
          have hPe3 := hP.e3
          have hbE := hP.below
          have hP2w := hP.le
          have hPb : P2 + 2 ≤ b := Nat.le_trans hP.lt hP.rd.1
          clear hP
          by_cases hf1 : v = 0
          · have hvI : (v : Int) = 0 := by omega
            by_cases hf2 : 1 ≤ V0 ∧ V0 ≤ 1099511627776
            · have c60 : wr.cell? ⟨B6, 0, none⟩ = some (.int .i64 V0) := by simp [World.cell?, unhide e6, Hd.arr]
              go_wp2_with fail
              refine (has_t 1 1099511627776 V0 wr hf2).mono ?_
              rintro e wy ⟨rfl, hy⟩
              have lt6 := (Array.getElem?_eq_some_iff.1 (unhide e6)).1
              have lt7 := (Array.getElem?_eq_some_iff.1 (unhide e7)).1
              have y7 : wy.heap[B7]? = some (.cells (⟨k, V1, V2, datL D⟩ : Ent).arr 54 (0, 0)) := by rw [← hy]; exact (Below.heap_alloc _ _ _ lt7).trans (unhide e7)
              have y6 : wy.heap[B6]? = some (.cells (⟨V0, x1, x2, x3⟩ : Hd).arr 69 (0, 0)) := by rw [← hy]; exact (Below.heap_alloc _ _ _ lt6).trans (unhide e6)
              have hr7 : rd wy B7 0 19 = some (⟨k, V1, V2, datL D⟩ : Ent).arr := by simp [rd, y7, Ent.arr_size]
              have y2 : wy.heap[P2]? = some (.cells (⟨0, 0, 0, 0⟩ : Hd).arr 69 (0, 0)) := by rw [← hy]; exact (Below.heap_alloc _ _ _ (by omega)).trans hPe2
              have y3 : wy.heap[P2 + 1]? = some (.cells ({ k := 0, l := 0, s := 0, d := fun _ => 0 } : Ent).arr 54 (0, 0)) := by rw [← hy]; exact (Below.heap_alloc _ _ _ (by omega)).trans hPe3
              have hbY : Below w.heap.size w wy := by rw [← hy]; exact hbE.alloc hbE.size _
              have lt7y := (Array.getElem?_eq_some_iff.1 y7).1
              have lt6y := (Array.getElem?_eq_some_iff.1 y6).1
              clear hy c60
              replace y6 := hide y6
              replace y7 := hide y7
              replace y2 := hide y2
              replace y3 := hide y3
              replace hPe2 := hide hPe2
              replace hPe3 := hide hPe3
              go_wp2_with fail
              refine (check_any (⟨k, V1, V2, datL D⟩ : Ent) wy).mono ?_
              rintro e wz ⟨rfl, hbz⟩
              have g2 := (hbz.block _ (by omega)).trans (unhide y2)
              have g3 := (hbz.block _ (by omega)).trans (unhide y3)
              by_cases hok : OkE (⟨k, V1, V2, datL D⟩ : Ent)
              · have hfine : fineB V0 ⟨k, V1, V2, datL D⟩ Z := ⟨hv0.1 hf1, hf2, hok⟩
                rw [chk_yes hok]
                have z6 : rd wz B6 0 4 = some (⟨V0, x1, x2, x3⟩ : Hd).arr := by
                  have := (hbz.block _ lt6y).trans (unhide y6)
                  simp [rd, this, Hd.arr_size]
                have z7 : rd wz B7 0 19 = some (⟨k, V1, V2, datL D⟩ : Ent).arr := by
                  have := (hbz.block _ lt7y).trans (unhide y7)
                  simp [rd, this, Ent.arr_size]
                have hc2 : canW wz P2 0 4 = true := by simp [canW, g2, Hd.arr_size]
                have hc3 : canW wz (P2 + 1) 0 19 = true := by simp [canW, g3, Ent.arr_size]
                have hbZ := hbY.trans (hbz.mono hbY.size)
                clear hv0 hPe2 hPe3 g2 g3 e6 e7 y2 y3 y6 y7 hbz hok hr7
                replace hfine := hide hfine
                go_wp2_with fail
                refine start_ (n := 5) (S := fun w' => (rd w' B6 0 4 = some (⟨V0, x1, x2, x3⟩ : Hd).arr ∧ rd w' B7 0 19 = some (⟨k, V1, V2, datL D⟩ : Ent).arr) ∧ canW w' P2 0 4 = true ∧ canW w' (P2 + 1) 0 19 = true) (ds := []) #[false, false, false, false, false] (by kernel_rfl) rfl rfl (⟨⟨z6, z7⟩, hc2, hc3⟩) (fun hHeld => ?_)
                refine take_ (i := 0) (N := some 71) (v := ?_) (a' := ?_) #[true, false, false, false, false] rfl rfl (by kernel_rfl) (fun _ _ _ h => h) (Or.inl ⟨by rfl, ?_⟩) hHeld ?_ ?_
                rotate_left
                · intro w' hs_; obtain ⟨⟨s0, s1⟩, s2, s3⟩ := hs_
                  go_simp
                  with_reducible rfl
                rotate_left
                · simp only [Act.put, List.setIfInBounds_toArray, List.set_cons_zero, List.set_cons_succ, i64_w, i32_w]
                  rfl
                refine take_ (i := 1) (N := some 72) (v := ?_) (a' := ?_) #[true, true, false, false, false] rfl rfl (by kernel_rfl) (fun _ _ _ h => h) (Or.inl ⟨by rfl, ?_⟩) hHeld ?_ ?_
                rotate_left
                · intro w' hs_; obtain ⟨⟨s0, s1⟩, s2, s3⟩ := hs_
                  go_simp
                  with_reducible rfl
                rotate_left
                · simp only [Act.put, List.setIfInBounds_toArray, List.set_cons_zero, List.set_cons_succ, i64_w, i32_w]
                  rfl
                refine one_ (i := 2) (N := none) #[true, true, true, false, false] rfl rfl (by kernel_rfl) (by decide) (fun K hK => ?_)
                refine skip_ (w1 := Base.wr wz.drew P2 0 (⟨V0, x1, x2, x3⟩ : Hd).arr) (by rfl) rfl (by go_simp) ?_
                refine hK.out _ _ ⟨⟨(rd_wr_other _ _ _ _ _ _ _ (by omega)).trans hHeld.1.1, (rd_wr_other _ _ _ _ _ _ _ (by omega)).trans hHeld.1.2⟩, (canW_wr _ _ _ _ _ _ _ hHeld.2.1).trans hHeld.2.1, (canW_wr_other _ _ _ _ _ _ _ (by omega)).trans hHeld.2.2⟩ (fun hHeld => ?_)
                clear hK K
                refine one_ (i := 3) (N := none) #[true, true, true, true, false] rfl rfl (by kernel_rfl) (by decide) (fun K hK => ?_)
                refine skip_ (w1 := Base.wr (Base.wr wz.drew P2 0 (⟨V0, x1, x2, x3⟩ : Hd).arr) (P2 + 1) 0 (⟨k, V1, V2, datL D⟩ : Ent).arr) (by rfl) rfl (by go_simp) ?_
                refine hK.out _ _ ⟨⟨(rd_wr_other _ _ _ _ _ _ _ (by omega)).trans hHeld.1.1, (rd_wr_other _ _ _ _ _ _ _ (by omega)).trans hHeld.1.2⟩, (canW_wr_other _ _ _ _ _ _ _ (by omega)).trans hHeld.2.1, (canW_wr _ _ _ _ _ _ _ (by rw [Ent.arr_size]; exact hHeld.2.2)).trans hHeld.2.2⟩ (fun hHeld => ?_)
                clear hK K
                refine pure_ (i := 4) (N := some 4) (v := ?_) (a' := ?_) #[true, true, true, true, true] rfl rfl (by kernel_rfl) (fun _ _ _ h => h) (Or.inl ⟨by rfl, ?_⟩) ?_ ?_
                rotate_left
                · intro w'
                  go_simp
                  with_reducible rfl
                rotate_left
                · simp only [Act.put, List.setIfInBounds_toArray, List.set_cons_zero, List.set_cons_succ, i64_w, i32_w]
                  rfl
                refine done_ (by kernel_rfl) ?_
                have hd2 : canW wz.drew P2 0 4 = true := hc2
                have hd3 : canW wz.drew (P2 + 1) 0 19 = true := hc3
                have hbd : Below w.heap.size w wz.drew := hbZ.trans ⟨rfl, rfl, rfl, Nat.le_refl _, fun _ _ => rfl⟩
                generalize wz.drew = wd at hd2 hd3 hbd ⊢
                have r2 : rd (Base.wr (Base.wr wd P2 0 (⟨V0, x1, x2, x3⟩ : Hd).arr) (P2 + 1) 0 (⟨k, V1, V2, datL D⟩ : Ent).arr) P2 0 4 = some (⟨V0, x1, x2, x3⟩ : Hd).arr := (rd_wr_other _ _ _ _ _ _ _ (by omega)).trans (rd_wr_same _ _ _ _ _ rfl hd2)
                have r3 : rd (Base.wr (Base.wr wd P2 0 (⟨V0, x1, x2, x3⟩ : Hd).arr) (P2 + 1) 0 (⟨k, V1, V2, datL D⟩ : Ent).arr) (P2 + 1) 0 19 = some (⟨k, V1, V2, datL D⟩ : Ent).arr := rd_wr_same _ _ _ _ _ (Ent.arr_size _).symm (by rw [canW_wr_other _ _ _ _ _ _ _ (by omega)]; exact hd3)
                have hbY2 : Below w.heap.size w (Base.wr (Base.wr wd P2 0 (⟨V0, x1, x2, x3⟩ : Hd).arr) (P2 + 1) 0 (⟨k, V1, V2, datL D⟩ : Ent).arr) := below_wr (below_wr hbd (by omega) _ _) (by omega) _ _
                generalize Base.wr (Base.wr wd P2 0 (⟨V0, x1, x2, x3⟩ : Hd).arr) (P2 + 1) 0 (⟨k, V1, V2, datL D⟩ : Ent).arr = we at r2 r3 hbY2 ⊢
                clear hd2 hd3 hbd
                replace r2 := hide r2
                replace r3 := hide r3
                simp only [Exit.then]
                apply_assumption
                go_wp2_with fail
                refine bodyPost_ret (results_cct Try.results47 Try.underlying69 rfl info_hd Try.underlying54 rfl info_ent rfl (unhide r2) rfl (unhide r3)) rfl ⟨⟨fun _ => rfl, fun h => absurd (unhide hfine) h⟩, hbY2⟩
              · have hnf : ¬ fineB V0 ⟨k, V1, V2, datL D⟩ Z := fun h => hok h.2.2
                rw [chk_no hok]
                have hbZ := hbY.trans (hbz.mono hbY.size)
                clear y2 y3 y6 y7 hbz hok hr7
                have hc2 : canW wz P2 0 4 = true := by simp [canW, g2, Hd.arr_size]
                have hc3 : canW wz (P2 + 1) 0 19 = true := by simp [canW, g3, Ent.arr_size]
                clear hv0 hPe2 hPe3 g2 g3 e6 e7
                go_wp2_with fail
                refine bodyPost_ret (results_cct Try.results47 Try.underlying69 rfl info_hd Try.underlying54 rfl info_ent (cs := Hd.zero.arr) (cs' := Ent.zero.arr) rfl ((rd_wr_other _ _ _ _ _ _ _ (by omega)).trans (rd_wr_same _ _ _ _ _ rfl hc2)) rfl (rd_wr_same _ _ _ _ _ (Ent.arr_size _).symm (by rw [canW_wr_other _ _ _ _ _ _ _ (by omega)]; exact hc3))) rfl ⟨⟨fun h => absurd h hnf, fun _ => rfl⟩, below_wr (below_wr hbZ (by omega) _ _) (by omega) _ _⟩
            · have hnf : ¬ fineB V0 ⟨k, V1, V2, datL D⟩ Z := fun h => hf2 h.2.1
              have c60 : wr.cell? ⟨B6, 0, none⟩ = some (.int .i64 V0) := by simp [World.cell?, unhide e6, Hd.arr]
              replace hPe2 := hide hPe2
              replace hPe3 := hide hPe3
              go_wp2_with fail
              refine (has_f 1 1099511627776 V0 wr hf2).mono ?_
              rintro e wz ⟨rfl, hz⟩
              have lt6 := (Array.getElem?_eq_some_iff.1 (unhide e6)).1
              have g2 : wz.heap[P2]? = some (.cells (⟨0, 0, 0, 0⟩ : Hd).arr 69 (0, 0)) := by rw [← hz]; exact (Below.heap_alloc _ _ _ (by omega)).trans (unhide hPe2)
              have g3 : wz.heap[P2 + 1]? = some (.cells ({ k := 0, l := 0, s := 0, d := fun _ => 0 } : Ent).arr 54 (0, 0)) := by rw [← hz]; exact (Below.heap_alloc _ _ _ (by omega)).trans (unhide hPe3)
              have hbZ : Below w.heap.size w wz := by rw [← hz]; exact hbE.alloc hbE.size _
              clear hz c60
              have hc2 : canW wz P2 0 4 = true := by simp [canW, g2, Hd.arr_size]
              have hc3 : canW wz (P2 + 1) 0 19 = true := by simp [canW, g3, Ent.arr_size]
              clear hv0 hPe2 hPe3 g2 g3 e6 e7
              go_wp2_with fail
              refine bodyPost_ret (results_cct Try.results47 Try.underlying69 rfl info_hd Try.underlying54 rfl info_ent (cs := Hd.zero.arr) (cs' := Ent.zero.arr) rfl ((rd_wr_other _ _ _ _ _ _ _ (by omega)).trans (rd_wr_same _ _ _ _ _ rfl hc2)) rfl (rd_wr_same _ _ _ _ _ (Ent.arr_size _).symm (by rw [canW_wr_other _ _ _ _ _ _ _ (by omega)]; exact hc3))) rfl ⟨⟨fun h => absurd h hnf, fun _ => rfl⟩, below_wr (below_wr hbZ (by omega) _ _) (by omega) _ _⟩
          · have hvI : ¬ ((v : Int) = 0) := by omega
            have hnf : ¬ fineB V0 ⟨k, V1, V2, datL D⟩ Z := fun h => hf1 (hv0.2 h.1)
            have hc2 : canW wr P2 0 4 = true := by simp [canW, hPe2, Hd.arr_size]
            have hc3 : canW wr (P2 + 1) 0 19 = true := by simp [canW, hPe3, Ent.arr_size]
            clear hv0 hPe2 hPe3
            go_wp2_with fail
            refine bodyPost_ret (results_cct Try.results47 Try.underlying69 rfl info_hd Try.underlying54 rfl info_ent (cs := Hd.zero.arr) (cs' := Ent.zero.arr) rfl ((rd_wr_other _ _ _ _ _ _ _ (by omega)).trans (rd_wr_same _ _ _ _ _ rfl hc2)) rfl (rd_wr_same _ _ _ _ _ (Ent.arr_size _).symm (by rw [canW_wr_other _ _ _ _ _ _ _ (by omega)]; exact hc3))) rfl ⟨⟨fun h => absurd h hnf, fun _ => rfl⟩, below_wr (below_wr hbE (by omega) _ _) (by omega) _ _⟩
end Go.Proofs.Ytodbmgafejclmaa.Base
namespace Go.Proofs.Ytodbmgafejclmaa.Base
open Go.RowKit Go.Proofs.YtodbmgafejclmaaW.PrintWords Go.Proofs.YtodbmgafejclmaaW.PrintLast
set_option linter.unusedSimpArgs false
set_option linter.unusedVariables false
attribute [local go_sem] Ent.arr0 Ent.arr1 Ent.arr2 Ent.set1 Ent.set2 Ent.arr_size Ent.okW Ent.lit run_ldV_ent run_stV_ent ldR_some stR_true rd_new_whole rd_alloc canW_new canW_alloc wr_new wr_alloc rd_drew rd_drewN canW_drew canW_drewN run_bsS_ent run_bsS_ent0 run_eqI_ent rd_setCell rd_setCell_same canW_setCell' Option.map_some cell_wr_other rd_wr_same rd_wr_other
attribute [local go_sem ↓] ldV_ent stV_ent bsS_ent eqI_ent
attribute [local go_sem] Ent.arr0g Ent.arr1g Ent.arr2g run_ldV_dat rd_dat run_eqI_dat dat_lit
attribute [local go_sem ↓] ldV_dat eqI_dat
attribute [local go_sem] run_bdE4 run_bdE3 run_bdE1 run_bdE0
attribute [local go_sem ↓] build_ent
instance (n : Int) : Decidable (I64 n) := by unfold I64; exact inferInstance
def zeroE : Ent := { k := 0, l := 0, s := 0, d := fun _ => 0 }
theorem ok_zero : OkE zeroE := ⟨by decide, by decide, by decide, fun _ _ => rfl⟩
def rowsE (s u a : Int) (es : List Ent) (n : Nat) : List (List Int) := (List.range n).map fun (i : Nat) => bytesE s u a (i : Int) (es.getD i zeroE)
theorem rowsE_len (s u a : Int) (es : List Ent) (n : Nat) : (rowsE s u a es n).length = n := by simp [rowsE]
theorem rowsE_succ (s u a : Int) (es : List Ent) (n : Nat) : rowsE s u a es (n + 1) = rowsE s u a es n ++ [bytesE s u a (n : Int) (es.getD n zeroE)] := by simp [rowsE, List.range_succ]
/-- what the document's parities are called for, and answer -/
def ParC (f : Nat) (L : List (List Int)) (p q : List Int) : Prop :=
  ∀ (A : Option Addr) (c : Nat) (w : World), Kd.C (Kd.slice 5 (Kd.int .u8)) w A L.length L → L.length ≤ c →
    Calls Try.prog f #[.slice A L.length c] w fun e w' => ∃ v0 v1 : Value, e = .returned (.tuple #[v0, v1]) ∧ (∃ ok, Kd.R (Kd.int .u8) 5 w' w.heap.size ok v0 p) ∧ (∃ ok, Kd.R (Kd.int .u8) 5 w' w.heap.size ok v1 q) ∧ Below w.heap.size w w'
/-- bytes' headers that lead to new blocks -/
def LowT (b : Nat) (T : List Hr) : Prop := ∀ t ∈ T, ∀ a, t.1 = some a → b ≤ a.block
theorem LowT.app {b : Nat} {T ts : List Hr} (h : LowT b T) (k : LowT b ts) : LowT b (T ++ ts) := fun t ht => (List.mem_append.1 ht).elim (h t) (k t)
set_option maxRecDepth 100000 in
set_option maxHeartbeats 4000000 in
theorem rencode_low (d n : Nat) (s u a : Int) (A : Option Addr) (c : Nat) (es : List Ent) (p q : List Int) (w : World) (hd : 6 ≤ d ∧ d ≤ 8) (hdn : d = n + 2) (hs : 1 ≤ s ∧ s ≤ 1099511627776) (hu : 0 ≤ u ∧ u ≤ 255) (ha : 0 ≤ a ∧ a ≤ 255) (hl : es.length ≤ n) (hwf : ∀ e ∈ es, e.Wf) (hok : ∀ e ∈ es, OkE e)
    (hc : es.length ≤ c) (hs0 : Sl w 0 w.heap.size 19 A (es.map Ent.arr)) (hp : p.length ≤ 1000000) (hq : q.length ≤ 1000000) (hpar : ParC 27 (rowsE s u a es n) p q) :
    Calls Try.prog 17 #[.int .i64 d, .int .i64 s, .int .i64 u, .int .i64 a, .slice A es.length c] w fun x w' =>
      (∃ A' c' T, x = .returned (.tuple #[.slice A' d c', .int .i64 0]) ∧ d ≤ c' ∧ Rws w' w.heap.size (.slice A' d c') T ∧ T.map (·.2.2) = rowsE s u a es n ++ [p, q] ∧ LowT w.heap.size T) ∧ Below w.heap.size w w' := by
  have hlI : (es.length : Int) ≤ (d : Int) - 2 := by omega
  have hdI : (d : Int) - 2 = (n : Int) := by omega
  have hdw : 6 ≤ (d : Int) ∧ (d : Int) ≤ 8 := by omega
  replace hdn := hide hdn; replace hdI := hide hdI
  go_enter Try.func17, Try.ntmps17
  go_wp2_with fail
  go_loopw [12, 13, 14] (fun s12 s13 s14 wr => ∃ (j : Nat) (A2 : Option Addr) (c2 : Nat) (T : List Hr), j ≤ n ∧ s13 = .int .i64 j ∧ s12 = .slice A2 j c2 ∧ j ≤ c2 ∧ Rws wr w.heap.size (.slice A2 j c2) T ∧ T.map (·.2.2) = rowsE s u a es j ∧ Below w.heap.size w wr ∧ Hid (LowT w.heap.size T)) (fun _ s13 _ _ => n - (intOf s13).toNat)
  case atStart => exact ⟨0, none, 0, [], by omega, rfl, rfl, by omega, Rws.nil _ _, rfl, Below.refl _ _, fun t ht => by simp at ht⟩
  case round =>
    obtain ⟨j, A2, c2, T, hj, rfl, rfl, hc2, hT, hL, hb, hlow⟩ := hrel
    have hz := hb.size
    have hnd : n + 2 ≤ d := by have := unhide hdn; omega
    have hnd' : d ≤ n + 2 := by have := unhide hdn; omega
    by_cases hjn : j < n
    · have hjI : (j : Int) < (d : Int) - 2 := by omega
      have hj0 : (0 : Int) ≤ j := by omega
      replace hL := hide hL
      have hL := unhide hL
      by_cases hje : j < es.length
      · have hjeI : (j : Int) < es.length := by omega
        obtain ⟨b, o, rfl, _, hbl, hr⟩ := hs0.at_ (k := j) (by simpa using hje)
        simp only [List.getElem_map] at hr
        have hr2 := (rd_below hb hbl _ _).trans hr
        obtain ⟨X, hX⟩ : ∃ X, X = es[j] := ⟨_, rfl⟩
        have hXj : Hid (es.getD j zeroE = X) := hide (by rw [hX, List.getD_eq_getElem?_getD, List.getElem?_eq_getElem hje]; rfl)
        have hXw : X.Wf := by rw [hX]; exact hwf _ (List.getElem_mem hje)
        have hXo : OkE X := by rw [hX]; exact hok _ (List.getElem_mem hje)
        rw [← hX] at hr2
        clear hX hr
        have hbl' : b < wr.heap.size := by omega
        have hch := rcheck_any X (wr.alloc (Obj.cells X.arr 54))
        rw [chk_yes hXo] at hch
        replace hL := hide hL; replace hXw := hide hXw
        clear hXo
        go_wp2_with fail
        (with_reducible refine hch.mono ?_)
        rintro x w2 ⟨rfl, hb2⟩
        clear hch hr2
        have hL := unhide hL; have hXw := unhide hXw; have hXj := unhide hXj
        have hW2 := hb2.size
        rw [World.size_alloc] at hW2
        have hbox : rd w2 wr.heap.size 0 19 = some X.arr := (rd_below hb2 (by simp) _ _).trans (rd_new_whole _ _ _ _ _ _ rfl (Ent.arr_size _).symm)
        have hbb2 : Below w.heap.size w w2 := (hb.alloc hz _).trans (hb2.mono (by simp; omega))
        have hcon := rbytes_any s u a (j : Int) X w2 (by unfold I64; omega) (by unfold I64; omega) (by unfold I64; omega) (by unfold I64; omega) hXw.1 hXw.2.1 hXw.2.2.1
        go_wp2_with fail
        (with_reducible refine hcon.mono ?_)
        rintro x w3 ⟨⟨A3, c3, rfl, hc3, ho3⟩, hb3⟩
        have hW3 := hb3.size
        have hbb3 : Below w.heap.size w w3 := hbb2.trans (hb3.mono (by omega))
        have hT3 : Rws w3 w.heap.size (.slice A2 j c2) T := ((hT.below ((Below.refl _ _).alloc (Nat.le_refl _) _)).below (hb2.mono (Nat.le_refl _))).below hb3
        have hs3 : Sl w3 0 w3.heap.size 1 A3 (By (bytesE s u a j X)) := (ho3.sl (By.sized _) (by omega)).less (Nat.zero_le _)
        have hTl : T.length = j := by have := congrArg List.length hL; rw [List.length_map, rowsE_len] at this; exact this
        have hlt := fun g e => hT.1.lt g e
        obtain ⟨A4, c4, w4, hrun, hc4, hT4, hg4⟩ := Rws.app w3 w.heap.size (.slice A2 j c2) T hT3 [(A3, c3, bytesE s u a j X)] 1 rfl (fun t ht => by
          rw [List.mem_singleton.1 ht]
          refine ⟨by rw [bytesE_len]; exact hc3, by rw [bytesE_len]; omega, hs3, fun ad had => ?_⟩
          have hA3 : A3 = some ad := had
          subst hA3
          have h7 := ho3.lt ad.block rfl
          exact ⟨h7.2, fun e => by have := (hlt ad.block e.symm).2; omega⟩) (by omega) (by omega) 48
        have hcell : ([((A3, c3, bytesE s u a j X) : Hr)].map Hr.cell).toArray = #[Value.slice A3 48 c3] := by simp [Hr.cell, bytesE_len]
        rw [hcell, hTl] at hrun
        rw [hcell] at hg4
        rw [hTl] at hc4 hT4
        have hb4 : Below w.heap.size w w4 := below_grown (hbb3.alloc (by omega) _) hg4 (by simp; omega) (fun k ek => (hlt k ek).1)
        have hL4 : (T ++ [((A3, c3, bytesE s u a j X) : Hr)]).map (·.2.2) = rowsE s u a es (j + 1) := by rw [List.map_append, hL, rowsE_succ, hXj]; rfl
        replace hL4 := hide hL4; replace hT4 := hide hT4
        have hlow4 : Hid (LowT w.heap.size (T ++ [((A3, c3, bytesE s u a j X) : Hr)])) := hide ((unhide hlow).app (fun t ht ad had => by
          rw [List.mem_singleton.1 ht] at had
          have hA3 : A3 = some ad := had
          subst hA3
          have h7 := ho3.lt ad.block rfl
          omega))
        clear hcell hTl hlt hs3 hT3 ho3 hcon hbox hL hT hXj
        go_wp2_with (at_builtin; refine wpList_step (fun K hK => step_append_ex (o := ⟨some 81, _, _, _, _, _⟩) (.tmp 72) (.tmp 80) 48 rfl (by rfl) ⟨_, _, hrun, hK _ _ ?_⟩))
        go_roundw
        case rel => exact ⟨j + 1, A4, c4, _, by omega, by go_num, rfl, hc4, unhide hT4, unhide hL4, hb4, hlow4⟩
        case measure => simp [intOf]; omega
      · have hjeI : ¬ (j : Int) < es.length := by omega
        obtain ⟨X, hX⟩ : ∃ X, X = zeroE := ⟨_, rfl⟩
        have hXj : Hid (es.getD j zeroE = X) := hide (by rw [hX, List.getD_eq_getElem?_getD, List.getElem?_eq_none (by omega)]; rfl)
        have hXw : X.Wf := by rw [hX]; exact ⟨by decide, by decide, by decide, fun _ => ⟨Int.le_refl _, by show (0 : Int) < 256; omega⟩⟩
        have hXo : OkE X := by rw [hX]; exact ok_zero
        have hXa : ({ k := 0, l := 0, s := 0, d := fun _ => 0 } : Ent) = X := hX.symm
        clear hX
        have hch := rcheck_any X (wr.alloc (Obj.cells X.arr 54))
        rw [chk_yes hXo] at hch
        replace hL := hide hL; replace hXw := hide hXw
        clear hXo
        go_wp2_with fail
        (with_reducible refine hch.mono ?_)
        rintro x w2 ⟨rfl, hb2⟩
        clear hch
        have hL := unhide hL; have hXw := unhide hXw; have hXj := unhide hXj
        have hW2 := hb2.size
        rw [World.size_alloc] at hW2
        have hbox : rd w2 wr.heap.size 0 19 = some X.arr := (rd_below hb2 (by simp) _ _).trans (rd_new_whole _ _ _ _ _ _ rfl (Ent.arr_size _).symm)
        have hbb2 : Below w.heap.size w w2 := (hb.alloc hz _).trans (hb2.mono (by simp; omega))
        have hcon := rbytes_any s u a (j : Int) X w2 (by unfold I64; omega) (by unfold I64; omega) (by unfold I64; omega) (by unfold I64; omega) hXw.1 hXw.2.1 hXw.2.2.1
        go_wp2_with fail
        (with_reducible refine hcon.mono ?_)
        rintro x w3 ⟨⟨A3, c3, rfl, hc3, ho3⟩, hb3⟩
        have hW3 := hb3.size
        have hbb3 : Below w.heap.size w w3 := hbb2.trans (hb3.mono (by omega))
        have hT3 : Rws w3 w.heap.size (.slice A2 j c2) T := ((hT.below ((Below.refl _ _).alloc (Nat.le_refl _) _)).below (hb2.mono (Nat.le_refl _))).below hb3
        have hs3 : Sl w3 0 w3.heap.size 1 A3 (By (bytesE s u a j X)) := (ho3.sl (By.sized _) (by omega)).less (Nat.zero_le _)
        have hTl : T.length = j := by have := congrArg List.length hL; rw [List.length_map, rowsE_len] at this; exact this
        have hlt := fun g e => hT.1.lt g e
        obtain ⟨A4, c4, w4, hrun, hc4, hT4, hg4⟩ := Rws.app w3 w.heap.size (.slice A2 j c2) T hT3 [(A3, c3, bytesE s u a j X)] 1 rfl (fun t ht => by
          rw [List.mem_singleton.1 ht]
          refine ⟨by rw [bytesE_len]; exact hc3, by rw [bytesE_len]; omega, hs3, fun ad had => ?_⟩
          have hA3 : A3 = some ad := had
          subst hA3
          have h7 := ho3.lt ad.block rfl
          exact ⟨h7.2, fun e => by have := (hlt ad.block e.symm).2; omega⟩) (by omega) (by omega) 48
        have hcell : ([((A3, c3, bytesE s u a j X) : Hr)].map Hr.cell).toArray = #[Value.slice A3 48 c3] := by simp [Hr.cell, bytesE_len]
        rw [hcell, hTl] at hrun
        rw [hcell] at hg4
        rw [hTl] at hc4 hT4
        have hb4 : Below w.heap.size w w4 := below_grown (hbb3.alloc (by omega) _) hg4 (by simp; omega) (fun k ek => (hlt k ek).1)
        have hL4 : (T ++ [((A3, c3, bytesE s u a j X) : Hr)]).map (·.2.2) = rowsE s u a es (j + 1) := by rw [List.map_append, hL, rowsE_succ, hXj]; rfl
        replace hL4 := hide hL4; replace hT4 := hide hT4
        have hlow4 : Hid (LowT w.heap.size (T ++ [((A3, c3, bytesE s u a j X) : Hr)])) := hide ((unhide hlow).app (fun t ht ad had => by
          rw [List.mem_singleton.1 ht] at had
          have hA3 : A3 = some ad := had
          subst hA3
          have h7 := ho3.lt ad.block rfl
          omega))
        clear hcell hTl hlt hs3 hT3 ho3 hcon hbox hL hT hXj
        go_wp2_with (at_builtin; refine wpList_step (fun K hK => step_append_ex (o := ⟨some 81, _, _, _, _, _⟩) (.tmp 72) (.tmp 80) 48 rfl (by rfl) ⟨_, _, hrun, hK _ _ ?_⟩))
        go_roundw
        case rel => exact ⟨j + 1, A4, c4, _, by omega, by go_num, rfl, hc4, unhide hT4, unhide hL4, hb4, hlow4⟩
        case measure => simp [intOf]; omega
    · have hjn' : j ≤ n := hj
      have hjn2 : n ≤ j := by omega
      have hje : j = n := by omega
      rw [hje] at hL
      have hTl : T.length = n := by have := congrArg List.length hL; rw [List.length_map, rowsE_len] at this; exact this
      obtain ⟨A5, c5, hv5, hc5, hC5⟩ := hT.C (by omega)
      rw [hL, rowsE_len] at hv5 hc5 hC5
      injection hv5 with e1 e2 e3
      have hCn : Kd.C (Kd.slice 5 (Kd.int .u8)) wr A2 (rowsE s u a es n).length (rowsE s u a es n) := by rw [e1, rowsE_len]; exact hC5
      have hcall := hpar A2 c2 wr hCn (by rw [rowsE_len]; omega)
      rw [rowsE_len, ← hje] at hcall
      replace hje := hide hje; replace hL := hide hL; replace hTl := hide hTl
      clear hCn hC5 e1 e2 e3
      have hjI : ¬ (j : Int) < (d : Int) - 2 := by omega
      go_wp2_with fail
      (with_reducible refine hcall.mono ?_)
      rintro x w3 ⟨v0, v1, rfl, ⟨ok0, hR0⟩, ⟨ok1, hR1⟩, hb3⟩
      obtain ⟨A6, c6, rfl, hc6, hs6, hblk6⟩ := by_of_R hR0
      obtain ⟨A7, c7, rfl, hc7, hs7, hblk7⟩ := by_of_R hR1
      have hbb3 : Below w.heap.size w w3 := hb.trans (hb3.mono hz)
      have hz3 := hbb3.size
      have hT3 := hT.below hb3
      have hlt := fun g e => hT.1.lt g e
      obtain ⟨A8, c8, w8, hrun, hc8, hT8, hg8⟩ := Rws.app w3 w.heap.size (.slice A2 j c2) T hT3 [(A6, c6, p), (A7, c7, q)] 2 rfl (fun t ht => by
        have key : ∀ (A : Option Addr) (c : Nat) (r : List Int), r.length ≤ c → r.length ≤ 1000000 → Sl w3 wr.heap.size w3.heap.size 1 A (By r) → (∀ a, A = some a → wr.heap.size ≤ a.block ∧ a.block < w3.heap.size) → t = (A, c, r) → t.2.2.length ≤ t.2.1 ∧ t.2.2.length ≤ 1000000 ∧ Sl w3 0 w3.heap.size 1 t.1 (By t.2.2) ∧ ∀ a, t.1 = some a → a.block < w3.heap.size ∧ some a.block ≠ (Value.slice A2 j c2).ownBlock := by
          rintro A c r k1 k2 k3 k4 rfl
          exact ⟨k1, k2, k3.less (Nat.zero_le _), fun a ha => ⟨(k4 a ha).2, fun e => by have := (hlt a.block e.symm).2; have := (k4 a ha).1; omega⟩⟩
        rcases List.mem_cons.1 ht with h | h
        · exact key A6 c6 p hc6 hp hs6 hblk6 h
        · exact key A7 c7 q hc7 hq hs7 hblk7 (List.mem_singleton.1 h)) (by have := unhide hTl; omega) hz3 48
      have hcell : ([((A6, c6, p) : Hr), (A7, c7, q)].map Hr.cell).toArray = #[Value.slice A6 p.length c6, Value.slice A7 q.length c7] := rfl
      rw [hcell, unhide hTl, ← unhide hje] at hrun
      rw [hcell] at hg8
      rw [unhide hTl, ← unhide hje] at hc8 hT8
      have hb8 : Below w.heap.size w w8 := below_grown (hbb3.alloc hz3 _) hg8 (by simp; omega) (fun k ek => (hlt k ek).1)
      have hL8 : (T ++ [((A6, c6, p) : Hr), (A7, c7, q)]).map (·.2.2) = rowsE s u a es n ++ [p, q] := by rw [List.map_append, unhide hL]; rfl
      replace hL8 := hide hL8; replace hT8 := hide hT8; replace hb8 := hide hb8
      have hlow8 : Hid (LowT w.heap.size (T ++ [((A6, c6, p) : Hr), (A7, c7, q)])) := hide ((unhide hlow).app (fun t ht ad had => by
        rcases List.mem_cons.1 ht with h | h
        · rw [h] at had
          have := (hblk6 ad had).1
          omega
        · rw [List.mem_singleton.1 h] at had
          have := (hblk7 ad had).1
          omega))
      clear hcell hlt hT3 hcall hs6 hs7 hR0 hR1 hblk6 hblk7 hT hg8
      go_wp2_with (at_builtin; refine wpList_step (fun K hK => step_append_ex (o := ⟨some 91, _, _, _, _, _⟩) (.tmp 87) (.tmp 90) 48 rfl (by rfl) ⟨_, _, hrun, hK _ _ ?_⟩))
      go_ret2
      have hjd : j + 2 = d := by have := unhide hje; omega
      refine ⟨⟨A8, c8, _, by rw [← hjd]; first | done | rfl, by rw [← hjd]; exact hc8, by rw [← hjd]; exact unhide hT8, unhide hL8, unhide hlow8⟩, unhide hb8⟩
end Go.Proofs.Ytodbmgafejclmaa.Base
