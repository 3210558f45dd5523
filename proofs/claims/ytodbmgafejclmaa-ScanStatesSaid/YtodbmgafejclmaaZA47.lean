/-
  Parts of a proof, laid together by a program of mine (pack.py): Os.
-/
import Derived.Test.YtodbmgafejclmaaZA46
namespace Go.Proofs.Ytodbmgafejclmaa.Base
open Go.RowKit Go.Maps Go.Proofs.YtodbmgafejclmaaW.PrintWords Go.Proofs.YtodbmgafejclmaaW.PrintLast
set_option linter.unusedSimpArgs false
set_option linter.unusedVariables false
attribute [local go_sem] fld_super0 fld_super1
/-- a row is not read where it does not stand -/
theorem dec_other {u u' a' : Int} {m k : Nat} {S : List Ent} {ps : List Pg} {s : Int} (hm : 4 ≤ m ∧ m ≤ 6) (hs : 1 ≤ s ∧ s ≤ 1099511627776) (hu : 0 ≤ u ∧ u ≤ 255) (hk : k ≤ 100) (hwf : ∀ e ∈ S, e.Wf) (hok : ∀ e ∈ S, OkE e) (hq : ps.map qOf = pagesQ (fullE s u k S m) []) (hne : u ≠ u' ∨ (k : Int) ≠ a') : (decP u' a' ps 1).2 = none := by
  have hC := code_full s u k S m hwf
  obtain ⟨hl, hat⟩ := pages_at hq (fun x hx => (List.not_mem_nil hx).elim)
  obtain ⟨e1, _⟩ := lost_pages hq (fun x hx => (List.not_mem_nil hx).elim) List.nodup_nil
  rw [hC.len] at hl
  have hz : zs ps = 0 := zs_zero (fun j hj => by
    have := congrArg Prod.fst (hat j hj)
    have h3 : ps[j].1 = (qOf ps[j]).1 := rfl
    rw [h3, this]
    split
    · show ¬ ((1 : Int) = 0); omega
    · show ¬ ((2 : Int) = 0); omega)
  rw [decP_of (by omega) (by omega) (by omega) (by omega) hz, e1, if_neg (by simp)]
  obtain ⟨f1, f2⟩ := fix_lost hC (by omega) (by omega) hq ⟨Nat.zero_le _, fun x hx => (List.not_mem_nil hx).elim, List.nodup_nil⟩
  rw [decL_of f1 (by rw [hl]; exact hC) f2, hl, show m + 2 - 2 = m from by omega, full_take, slot_other hs hu ⟨by omega, by omega⟩ hok hwf (by omega) hne]
theorem soundR_count {s : Int} {T : List PR} {f : Nat → Bool} : ∀ {n : Nat}, (∀ k, k < n → (decP s k (pgsOf T k) 1).2.isSome = f k) → (soundR s T n).length = (List.range n).countP f
  | 0, _ => rfl
  | n + 1, h => by
    rw [soundR, List.length_append, soundR_count (fun k hk => h k (by omega)), List.range_succ, List.countP_append]
    congr 1
    have h9 := h n (by omega)
    cases hd : (decP s n (pgsOf T n) 1).2 with
    | none => rw [hd] at h9; simp [← h9]
    | some r => rw [hd] at h9; simp [← h9]
theorem count_swap : ∀ a, a < 4 → ∀ b, b < 4 → a ≠ b → (List.range 4).countP (fun k => decide (k ≠ a ∧ k ≠ b)) = 2 := by decide
theorem getD_set2 {T : List PR} {a b : Nat} (x y : PR) (ha : a < T.length) (hb : b < T.length) (hab : a ≠ b) (j : Nat) : pgsOf ((T.set a x).set b y) j = if j = b then y.2.2 else if j = a then x.2.2 else pgsOf T j := by
  rw [pgsOf_set _ (by rw [List.length_set]; exact hb)]
  by_cases h : j = b
  · rw [if_pos h, if_pos h]
  · rw [if_neg h, if_neg h, pgsOf_set _ ha]
/-- another superblock's rows -/
theorem look_foreign {es : List Ent} {T : List PR} {s : Int} (h : Made 1 4 (5 : Nat) 6 es T) (hwf : ∀ e ∈ es, e.Wf) (hs : s ≠ 1) : lookP s T = (1, []) := by
  have hl := h.last hwf ⟨by omega, by omega⟩
  rw [lookP_st (by rw [hl]; omega), hl]
  have h1 : soundR s T (((5 : Nat) : Int) - 1).toNat = [] := soundR_none (fun k hk => dec_other (by omega) ⟨by omega, by omega⟩ (by omega) (by omega) (mkS_ok hwf 4 k _).1 (mkS_ok hwf 4 k _).2 (h.row (k := k) (by omega) (by omega)) (.inl (fun e => hs e.symm)))
  have h2 : (decP s ((T.length : Int) - 1) (pgsOf T (T.length - 1)) 1).1 ≠ 0 := by
    rw [h.1]
    exact decP_none (h.blank (s := s) (k := 5) (by omega) (by omega))
  rw [h1, if_neg h2]
/-- rows in each other's places -/
theorem look_swap {es : List Ent} {T : List PR} {a b : Nat} (h : Made 1 4 (5 : Nat) 6 es T) (hwf : ∀ e ∈ es, e.Wf) (ha : a < 4) (hb : b < 4) (hab : a ≠ b) : (lookP 1 ((T.set a (T.getD b zPR)).set b (T.getD a zPR))).2.length = 2 := by
  have hT : T.length = 6 := h.1
  have hg := fun j => getD_set2 (T := T) (a := a) (b := b) (T.getD b zPR) (T.getD a zPR) (by omega) (by omega) hab j
  have hst : ∀ k, k < 6 → stB (pgsOf T k) = decide ((k : Int) < (5 : Nat)) := fun k hk => h.st hwf hk
  have hl : lastS ((T.set a (T.getD b zPR)).set b (T.getD a zPR)) = ((4 : Nat) : Int) := by
    unfold lastS
    refine lastN_at (by rw [List.length_set, List.length_set]; omega) ?_ (fun j h1 h2 => ?_)
    · rw [hg, if_neg (by omega), if_neg (by omega), hst 4 (by omega)]; decide
    · rw [List.length_set, List.length_set, hT] at h2
      obtain rfl : j = 5 := by omega
      rw [hg, if_neg (by omega), if_neg (by omega), hst 5 (by omega)]
      decide
  rw [lookP_st (by omega), hl]
  show (soundR 1 ((T.set a (T.getD b zPR)).set b (T.getD a zPR)) 4).length = 2
  rw [← count_swap a ha b hb hab]
  refine soundR_count (fun k hk => ?_)
  rw [hg]
  by_cases hkb : k = b
  · have : (decP 1 k (T.getD a zPR).2.2 1).2 = none := dec_other (by omega) ⟨by omega, by omega⟩ (by omega) (by omega) (mkS_ok hwf 4 a _).1 (mkS_ok hwf 4 a _).2 (h.row (k := a) (by omega) (by omega)) (.inr (by omega))
    rw [if_pos hkb, this]
    simp [hkb]
  · rw [if_neg hkb]
    by_cases hka : k = a
    · have : (decP 1 k (T.getD b zPR).2.2 1).2 = none := dec_other (by omega) ⟨by omega, by omega⟩ (by omega) (by omega) (mkS_ok hwf 4 b _).1 (mkS_ok hwf 4 b _).2 (h.row (k := b) (by omega) (by omega)) (.inr (by omega))
      rw [if_pos hka, this]
      simp [hka]
    · rw [if_neg hka, (h.dec (by omega) (by omega) hwf (by omega) (k := k) (by omega) (by omega)).2]
      simp [hka, hkb]
theorem PrOk.setc {w : World} {g k : Nat} {v : Value} {t : PR} (h : PrOk w t) (ha : PrAp w (some g) t) : PrOk (w.setCell ⟨g, k, none⟩ v) t ∧ PrAp (w.setCell ⟨g, k, none⟩ v) (some g) t :=
  ⟨h.mv (by simp [World.setCell]) (fun a ha2 => Below.heap_setCell _ _ _ _ (fun e => (ha.1 a ha2).2 (by rw [e]))) (fun p hp a ha2 => Below.heap_setCell _ _ _ _ (fun e => ha.2 p hp a ha2 (by rw [e]))), ha.more (by simp [World.setCell])⟩
theorem Pn.swap {w : World} {base g n c : Nat} {T : List PR} (h : Pn w base (.slice (some ⟨g, 0, none⟩) n c) T) (hn : n = T.length) (a b : Nat) (ha : a < n) (hb : b < n) :
    Pn ((w.setCell ⟨g, a, none⟩ (T.getD b zPR).cell).setCell ⟨g, b, none⟩ (T.getD a zPR).cell) base (.slice (some ⟨g, 0, none⟩) n c) ((T.set a (T.getD b zPR)).set b (T.getD a zPR)) := by
  have hm : ∀ k, k < n → T.getD k zPR ∈ T := fun k hk => by rw [List.getD_eq_getElem?_getD, List.getElem?_eq_getElem (by omega)]; exact List.getElem_mem _
  obtain ⟨h1, _, _⟩ := h.setRow hn a ha (T.getD b zPR) (h.2 _ (hm b hb)).1 (h.2 _ (hm b hb)).2
  obtain ⟨k1, k2⟩ := PrOk.setc (k := a) (v := (T.getD b zPR).cell) (h.2 _ (hm a ha)).1 (h.2 _ (hm a ha)).2
  exact (h1.setRow (by rw [List.length_set]; exact hn) b hb (T.getD a zPR) k1 k2).1
theorem swap_same {T : List PR} {a : Nat} (ha : a < T.length) : (T.set a (T.getD a zPR)).set a (T.getD a zPR) = T := by
  rw [List.set_set, List.getD_eq_getElem?_getD, List.getElem?_eq_getElem ha]
  exact List.set_getElem_self ha
set_option maxRecDepth 100000 in
set_option maxHeartbeats 1000000 in
theorem other_walk (a1 a2 a3 : Int) (A : Option Addr) (c n : Nat) (es : List Ent) (w : World) (h1 : I64 a1) (h2 : I64 a2) (h3 : I64 a3) (hn : n = es.length) (hc : n ≤ c) (hm : c ≤ maxLen) (hs : Sl w 0 w.heap.size 19 A (es.map Ent.arr)) (hwf : ∀ e ∈ es, e.Wf) :
    Calls Try.prog 7 #[.slice A n c, .int .i64 a1, .int .i64 a2, .int .i64 a3] w fun e w' => e = .returned (.bool true) ∧ Below w.heap.size w w' := by
  obtain ⟨s, hs4, hw1⟩ := w13_lt a1 4 h1 (by omega) (by omega)
  obtain ⟨a, ha4, hw2⟩ := w13_lt a2 4 h2 (by omega) (by omega)
  obtain ⟨b, hb4, hw3⟩ := w13_lt a3 4 h3 (by omega) (by omega)
  have hn' := hide hn
  clear hn
  go_enter Try.func7, Try.ntmps7
  go_wp2_with fail
  refine (known13 _).mono ?_
  rintro e w1 ⟨rfl, hb1⟩
  by_cases hl : n ≤ 30
  · have hlI : (n : Int) ≤ 30 := by omega
    go_wp2_with fail
    refine (hw1 _).mono ?_
    rintro e wq ⟨rfl, rfl⟩
    have hmk := make_any 1 6 5 6 4 6 n c A es w1 (by omega) (by omega) (by omega) (by omega) (by omega) ⟨by omega, by omega⟩ (unhide hn') hl hc ((hs.below hb1).more hb1.size) hwf
    go_wp2_with fail
    (with_reducible refine hmk.mono ?_)
    rintro x w2 ⟨A2, c2, T, rfl, hc2, hT, hq2, hP2, hb2⟩
    have hmade : Made 1 4 (5 : Nat) 6 es T := ⟨hT, hq2⟩
    have hlk := look_pn s A2 c2 6 w1.heap.size T w2 hP2 hT.symm (by omega) hc2
    have hb12 := hb1.trans (hb2.mono hb1.size)
    clear hmk hq2 hw1
    by_cases hs1 : s = 1
    · have hB1 : ((s : Int) == 1) = true := by simp; omega
      have hrl : (lookP s T).2.length = 4 := by
        rw [show (s : Int) = 1 from by omega, (look_made (k := 5) hmade (by omega) hwf (by omega) (by omega) (by omega)).2]
        simp
      replace hs1 := hide hs1
      have hlk2 : Calls Try.prog 12 #[.int .i64 s, .slice A2 6 c2] w2 fun x w' => (∃ st A' c', x = .returned (.agg #[.int .i64 st, .slice A' 4 c'])) ∧ Below w2.heap.size w2 w' := by
        refine hlk.mono ?_
        rintro x w' ⟨⟨A', c', T', hx, _⟩, hb⟩
        rw [hrl] at hx
        exact ⟨⟨_, A', c', hx⟩, hb⟩
      clear hlk hrl
      replace hT := hide hT
      replace hmade := hide hmade
      go_wp2_with fail
      (with_reducible refine hlk2.mono ?_)
      rintro x w3 ⟨⟨st, A3, c3, rfl⟩, hb3⟩
      clear hlk2
      have hb13 := hb12.trans (hb3.mono hb12.size)
      have hP3 := hP2.below hb3
      obtain ⟨W4, hW4⟩ : ∃ W4, W4 = w3.alloc (Obj.cells #[.int .i64 st, .slice A3 4 c3] 31) := ⟨_, rfl⟩
      have hb34 : Below w3.heap.size w3 W4 := by rw [hW4]; exact (Below.refl _ _).alloc (Nat.le_refl _) _
      have hb14 := hb13.trans (hb34.mono hb13.size)
      have hP4 := hP3.below hb34
      obtain ⟨g, rfl, hg1, hg3, hjunk⟩ := hP3.some_of (by omega)
      have hg2 : g < W4.heap.size := Nat.lt_of_lt_of_le hg3 hb34.size
      clear hjunk hP2 hP3
      have hTl := unhide hT
      have ha6 : (a : Int) < 6 := by omega
      have hb6 : (b : Int) < 6 := by omega
      have hca : W4.cell? ⟨g, a, none⟩ = some (T.getD a zPR).cell := hP4.cell (by omega)
      have hcb : W4.cell? ⟨g, b, none⟩ = some (T.getD b zPR).cell := hP4.cell (by omega)
      have h0w : W4.ownsRow w1.heap.size 33 1 (.slice (some ⟨g, 0, none⟩) T.length c2) T.length (flat (T.map PR.arr)) := by have := hP4.1; unfold Ow at this; rw [List.length_map, show (6 : Nat) = T.length from hTl.symm] at this; exact this
      have hfa : W4.frozen? ⟨g, a, none⟩ = false := h0w.frozenAt _
      have hfb : W4.frozen? ⟨g, b, none⟩ = false := h0w.frozenAt _
      obtain ⟨pA, pn, pc, hra⟩ : ∃ pA pn pc, (T.getD a zPR).cell = .slice pA pn pc := ⟨_, _, _, rfl⟩
      obtain ⟨qA, qn, qc, hrb⟩ : ∃ qA qn qc, (T.getD b zPR).cell = .slice qA qn qc := ⟨_, _, _, rfl⟩
      rw [hra] at hca
      rw [hrb] at hcb
      have keep0 : W4.drew.cell? ⟨g, a, none⟩ = some (.slice pA pn pc) ∧ W4.drew.cell? ⟨g, b, none⟩ = some (.slice qA qn qc) := ⟨by simpa using hca, by simpa using hcb⟩
      have hz4 : w3.heap.size < W4.heap.size := by rw [hW4]; simp
      replace hra := hide hra
      replace hrb := hide hrb
      clear h0w hTl
      go_wp2_with fail
      refine (hw2 _).mono ?_
      rintro e wq ⟨rfl, rfl⟩
      go_wp2_with fail
      refine (hw3 _).mono ?_
      rintro e wq ⟨rfl, rfl⟩
      rw [← hW4]
      have d1 : W4.cell? ⟨w3.heap.size, 1, none⟩ = some (.slice A3 4 c3) := by
        have := heap_alloc_new w3 (Obj.cells #[.int .i64 st, .slice A3 4 c3] 31)
        rw [← hW4] at this
        simp [World.cell?, this]
      clear hW4
      by_cases hab : a = b
      · obtain rfl : a = b := hab
        obtain ⟨rfl, rfl, rfl⟩ : pA = qA ∧ pn = qn ∧ pc = qc := by
          have e := hca.symm.trans hcb
          injection e with e
          injection e with e1 e2 e3
          exact ⟨e1, e2, e3⟩
        have habB : ((a : Int) == (a : Int)) = true := by simp
        go_wp2_with fail
        -- SAME{
        refine start_ (n := 16) (S := fun w' => w'.cell? ⟨g, a, none⟩ = some (.slice pA pn pc) ∧ w'.cell? ⟨g, a, none⟩ = some (.slice pA pn pc)) (ds := [13, 15]) #[false, false, false, false, false, false, false, false, false, false, false, false, false, false, false, false] (by kernel_rfl) rfl rfl (keep0) (fun hHeld => ?_)
        refine pure_ (i := 0) (N := some 43) (v := ?_) (a' := ?_) #[true, false, false, false, false, false, false, false, false, false, false, false, false, false, false, false] rfl rfl (by kernel_rfl) (fun _ _ _ h => h) (Or.inl ⟨by rfl, ?_⟩) ?_ ?_
        rotate_left
        · intro w'
          go_simp
          with_reducible rfl
        rotate_left
        · simp only [Act.put, List.setIfInBounds_toArray, List.set_cons_zero, List.set_cons_succ, i64_w, i32_w]
          rfl
        refine pure_ (i := 1) (N := some 44) (v := ?_) (a' := ?_) #[true, true, false, false, false, false, false, false, false, false, false, false, false, false, false, false] rfl rfl (by kernel_rfl) (fun _ _ _ h => h) (Or.inl ⟨by rfl, ?_⟩) ?_ ?_
        rotate_left
        · intro w'
          go_simp
          with_reducible rfl
        rotate_left
        · simp only [Act.put, List.setIfInBounds_toArray, List.set_cons_zero, List.set_cons_succ, i64_w, i32_w]
          rfl
        refine pure_ (i := 2) (N := some 45) (v := ?_) (a' := ?_) #[true, true, true, false, false, false, false, false, false, false, false, false, false, false, false, false] rfl rfl (by kernel_rfl) (fun _ _ _ h => h) (Or.inl ⟨by rfl, ?_⟩) ?_ ?_
        rotate_left
        · intro w'
          go_simp
          with_reducible rfl
        rotate_left
        · simp only [Act.put, List.setIfInBounds_toArray, List.set_cons_zero, List.set_cons_succ, i64_w, i32_w]
          rfl
        refine pure_ (i := 3) (N := some 46) (v := ?_) (a' := ?_) #[true, true, true, true, false, false, false, false, false, false, false, false, false, false, false, false] rfl rfl (by kernel_rfl) (fun _ _ _ h => h) (Or.inl ⟨by rfl, ?_⟩) ?_ ?_
        rotate_left
        · intro w'
          go_simp
          with_reducible rfl
        rotate_left
        · simp only [Act.put, List.setIfInBounds_toArray, List.set_cons_zero, List.set_cons_succ, i64_w, i32_w]
          rfl
        refine pure_ (i := 4) (N := some 47) (v := ?_) (a' := ?_) #[true, true, true, true, true, false, false, false, false, false, false, false, false, false, false, false] rfl rfl (by kernel_rfl) (fun _ _ _ h => h) (Or.inl ⟨by rfl, ?_⟩) ?_ ?_
        rotate_left
        · intro w'
          go_simp
          with_reducible rfl
        rotate_left
        · simp only [Act.put, List.setIfInBounds_toArray, List.set_cons_zero, List.set_cons_succ, i64_w, i32_w]
          rfl
        refine pure_ (i := 5) (N := some 48) (v := ?_) (a' := ?_) #[true, true, true, true, true, true, false, false, false, false, false, false, false, false, false, false] rfl rfl (by kernel_rfl) (fun _ _ _ h => h) (Or.inl ⟨by rfl, ?_⟩) ?_ ?_
        rotate_left
        · intro w'
          go_simp
          with_reducible rfl
        rotate_left
        · simp only [Act.put, List.setIfInBounds_toArray, List.set_cons_zero, List.set_cons_succ, i64_w, i32_w]
          rfl
        refine pure_ (i := 6) (N := some 49) (v := ?_) (a' := ?_) #[true, true, true, true, true, true, true, false, false, false, false, false, false, false, false, false] rfl rfl (by kernel_rfl) (fun _ _ _ h => h) (Or.inl ⟨by rfl, ?_⟩) ?_ ?_
        rotate_left
        · intro w'
          go_simp
          with_reducible rfl
        rotate_left
        · simp only [Act.put, List.setIfInBounds_toArray, List.set_cons_zero, List.set_cons_succ, i64_w, i32_w]
          rfl
        refine take_ (i := 7) (N := some 50) (v := ?_) (a' := ?_) #[true, true, true, true, true, true, true, true, false, false, false, false, false, false, false, false] rfl rfl (by kernel_rfl) (fun _ _ _ h => h) (Or.inl ⟨by rfl, ?_⟩) hHeld ?_ ?_
        rotate_left
        · intro w' hs_; obtain ⟨s0, s1⟩ := hs_
          go_simp
          with_reducible rfl
        rotate_left
        · simp only [Act.put, List.setIfInBounds_toArray, List.set_cons_zero, List.set_cons_succ, i64_w, i32_w]
          rfl
        refine pure_ (i := 8) (N := some 51) (v := ?_) (a' := ?_) #[true, true, true, true, true, true, true, true, true, false, false, false, false, false, false, false] rfl rfl (by kernel_rfl) (fun _ _ _ h => h) (Or.inl ⟨by rfl, ?_⟩) ?_ ?_
        rotate_left
        · intro w'
          go_simp
          with_reducible rfl
        rotate_left
        · simp only [Act.put, List.setIfInBounds_toArray, List.set_cons_zero, List.set_cons_succ, i64_w, i32_w]
          rfl
        refine pure_ (i := 9) (N := some 52) (v := ?_) (a' := ?_) #[true, true, true, true, true, true, true, true, true, true, false, false, false, false, false, false] rfl rfl (by kernel_rfl) (fun _ _ _ h => h) (Or.inl ⟨by rfl, ?_⟩) ?_ ?_
        rotate_left
        · intro w'
          go_simp
          with_reducible rfl
        rotate_left
        · simp only [Act.put, List.setIfInBounds_toArray, List.set_cons_zero, List.set_cons_succ, i64_w, i32_w]
          rfl
        refine pure_ (i := 10) (N := some 53) (v := ?_) (a' := ?_) #[true, true, true, true, true, true, true, true, true, true, true, false, false, false, false, false] rfl rfl (by kernel_rfl) (fun _ _ _ h => h) (Or.inl ⟨by rfl, ?_⟩) ?_ ?_
        rotate_left
        · intro w'
          go_simp
          with_reducible rfl
        rotate_left
        · simp only [Act.put, List.setIfInBounds_toArray, List.set_cons_zero, List.set_cons_succ, i64_w, i32_w]
          rfl
        refine take_ (i := 11) (N := some 54) (v := ?_) (a' := ?_) #[true, true, true, true, true, true, true, true, true, true, true, true, false, false, false, false] rfl rfl (by kernel_rfl) (fun _ _ _ h => h) (Or.inl ⟨by rfl, ?_⟩) hHeld ?_ ?_
        rotate_left
        · intro w' hs_; obtain ⟨s0, s1⟩ := hs_
          go_simp
          with_reducible rfl
        rotate_left
        · simp only [Act.put, List.setIfInBounds_toArray, List.set_cons_zero, List.set_cons_succ, i64_w, i32_w]
          rfl
        refine pure_ (i := 12) (N := some 55) (v := ?_) (a' := ?_) #[true, true, true, true, true, true, true, true, true, true, true, true, true, false, false, false] rfl rfl (by kernel_rfl) (fun _ _ _ h => h) (Or.inl ⟨by rfl, ?_⟩) ?_ ?_
        rotate_left
        · intro w'
          go_simp
          with_reducible rfl
        rotate_left
        · simp only [Act.put, List.setIfInBounds_toArray, List.set_cons_zero, List.set_cons_succ, i64_w, i32_w]
          rfl
        refine last_ (i := 13) (N := none) #[true, true, true, true, true, true, true, true, true, true, true, true, true, true, false, false] rfl rfl (by kernel_rfl) (by decide) (fun K hK => ?_)
        refine skip_ (w1 := ?_) (by rfl) rfl ?_ ?_
        rotate_left
        · go_simp
          rfl
        refine hK.out _ _ ?_
        clear hK K
        refine pure_ (i := 14) (N := some 56) (v := ?_) (a' := ?_) #[true, true, true, true, true, true, true, true, true, true, true, true, true, true, true, false] rfl rfl (by kernel_rfl) (fun _ _ _ h => h) (Or.inl ⟨by rfl, ?_⟩) ?_ ?_
        rotate_left
        · intro w'
          go_simp
          with_reducible rfl
        rotate_left
        · simp only [Act.put, List.setIfInBounds_toArray, List.set_cons_zero, List.set_cons_succ, i64_w, i32_w]
          rfl
        refine last_ (i := 15) (N := none) #[true, true, true, true, true, true, true, true, true, true, true, true, true, true, true, true] rfl rfl (by kernel_rfl) (by decide) (fun K hK => ?_)
        refine skip_ (w1 := ?_) (by rfl) rfl ?_ ?_
        rotate_left
        · go_simp
          rfl
        refine hK.out _ _ ?_
        clear hK K
        refine done_ (by kernel_rfl) ?_
        -- }SAME
        have hP7 := (hP4.swap (unhide hT).symm a a (by omega) (by omega)).below (Below.refl _ _).drew
        rw [unhide hra] at hP7
        have hb7 : Below w.heap.size w ((W4.setCell ⟨g, a, none⟩ (.slice pA pn pc)).setCell ⟨g, a, none⟩ (.slice pA pn pc)).drew := ((hb14.setCell (by show w.heap.size ≤ g; have := hb1.size; omega) _).setCell (by show w.heap.size ≤ g; have := hb1.size; omega) _).drew
        have hlk9 := look_pn 1 (some ⟨g, 0, none⟩) c2 6 w1.heap.size _ _ hP7 (by rw [List.length_set, List.length_set]; exact (unhide hT).symm) (by omega) hc2
        have hsw : (lookP 1 ((T.set a (T.getD a zPR)).set a (T.getD a zPR))).2.length = 4 := by
          rw [swap_same (by have := unhide hT; omega), (look_made (k := 5) (unhide hmade) (by omega) hwf (by omega) (by omega) (by omega)).2]
          simp
        have hlk10 := hlk9.mono (R' := fun x w' => (∃ st A' c', x = .returned (.agg #[.int .i64 st, .slice A' 4 c'])) ∧ Below ((W4.setCell ⟨g, a, none⟩ (.slice pA pn pc)).setCell ⟨g, a, none⟩ (.slice pA pn pc)).drew.heap.size ((W4.setCell ⟨g, a, none⟩ (.slice pA pn pc)).setCell ⟨g, a, none⟩ (.slice pA pn pc)).drew w') (fun x w' ⟨⟨A', c', T', hx, _⟩, hb⟩ => ⟨⟨_, A', c', by rw [hsw] at hx; exact hx⟩, hb⟩)
        have d2 : ((W4.setCell ⟨g, a, none⟩ (.slice pA pn pc)).setCell ⟨g, a, none⟩ (.slice pA pn pc)).drew.cell? ⟨w3.heap.size, 1, none⟩ = some (.slice A3 4 c3) := by
          have hne : w3.heap.size ≠ g := by omega
          have := (Below.heap_setCell (W4.setCell ⟨g, a, none⟩ (.slice pA pn pc)) ⟨g, a, none⟩ (.slice pA pn pc) w3.heap.size hne).trans (Below.heap_setCell W4 ⟨g, a, none⟩ (.slice pA pn pc) w3.heap.size hne)
          have e := d1
          unfold World.cell? at e ⊢
          simp only at e ⊢
          rw [show ∀ (W : World), W.drew.heap = W.heap from fun _ => rfl, this]
          exact e
        clear hlk9 hsw hP7 keep0 hca hcb d1
        go_wp2_with fail
        (with_reducible refine hlk10.mono ?_)
        rintro x w8 ⟨⟨st8, A8, c8, rfl⟩, hb8⟩
        clear hlk10
        have d3 := (hb8.cell (p := ⟨w3.heap.size, 1, none⟩) (World.block_lt_of_cell? _ _ d2)).trans d2
        have hb8' := hb7.trans (hb8.mono hb7.size)
        have hbF := hb8'.alloc hb8'.size (Obj.cells #[.int .i64 st8, .slice A8 4 c8] 31)
        have hne8 : w3.heap.size < w8.heap.size := World.block_lt_of_cell? _ _ d3
        have hne9 : ¬ w3.heap.size = w8.heap.size := by omega
        clear d2
        go_wp2_with fail
        go_ret
        exact ⟨rfl, hbF⟩
      · have hba : ¬ b = a := fun e => hab e.symm
        have habB : ((a : Int) == (b : Int)) = false := by simp; omega
        go_wp2_with fail
        -- SWAP{
        refine start_ (n := 16) (S := fun w' => w'.cell? ⟨g, a, none⟩ = some (.slice pA pn pc) ∧ w'.cell? ⟨g, b, none⟩ = some (.slice qA qn qc)) (ds := [13, 15]) #[false, false, false, false, false, false, false, false, false, false, false, false, false, false, false, false] (by kernel_rfl) rfl rfl (keep0) (fun hHeld => ?_)
        refine pure_ (i := 0) (N := some 43) (v := ?_) (a' := ?_) #[true, false, false, false, false, false, false, false, false, false, false, false, false, false, false, false] rfl rfl (by kernel_rfl) (fun _ _ _ h => h) (Or.inl ⟨by rfl, ?_⟩) ?_ ?_
        rotate_left
        · intro w'
          go_simp
          with_reducible rfl
        rotate_left
        · simp only [Act.put, List.setIfInBounds_toArray, List.set_cons_zero, List.set_cons_succ, i64_w, i32_w]
          rfl
        refine pure_ (i := 1) (N := some 44) (v := ?_) (a' := ?_) #[true, true, false, false, false, false, false, false, false, false, false, false, false, false, false, false] rfl rfl (by kernel_rfl) (fun _ _ _ h => h) (Or.inl ⟨by rfl, ?_⟩) ?_ ?_
        rotate_left
        · intro w'
          go_simp
          with_reducible rfl
        rotate_left
        · simp only [Act.put, List.setIfInBounds_toArray, List.set_cons_zero, List.set_cons_succ, i64_w, i32_w]
          rfl
        refine pure_ (i := 2) (N := some 45) (v := ?_) (a' := ?_) #[true, true, true, false, false, false, false, false, false, false, false, false, false, false, false, false] rfl rfl (by kernel_rfl) (fun _ _ _ h => h) (Or.inl ⟨by rfl, ?_⟩) ?_ ?_
        rotate_left
        · intro w'
          go_simp
          with_reducible rfl
        rotate_left
        · simp only [Act.put, List.setIfInBounds_toArray, List.set_cons_zero, List.set_cons_succ, i64_w, i32_w]
          rfl
        refine pure_ (i := 3) (N := some 46) (v := ?_) (a' := ?_) #[true, true, true, true, false, false, false, false, false, false, false, false, false, false, false, false] rfl rfl (by kernel_rfl) (fun _ _ _ h => h) (Or.inl ⟨by rfl, ?_⟩) ?_ ?_
        rotate_left
        · intro w'
          go_simp
          with_reducible rfl
        rotate_left
        · simp only [Act.put, List.setIfInBounds_toArray, List.set_cons_zero, List.set_cons_succ, i64_w, i32_w]
          rfl
        refine pure_ (i := 4) (N := some 47) (v := ?_) (a' := ?_) #[true, true, true, true, true, false, false, false, false, false, false, false, false, false, false, false] rfl rfl (by kernel_rfl) (fun _ _ _ h => h) (Or.inl ⟨by rfl, ?_⟩) ?_ ?_
        rotate_left
        · intro w'
          go_simp
          with_reducible rfl
        rotate_left
        · simp only [Act.put, List.setIfInBounds_toArray, List.set_cons_zero, List.set_cons_succ, i64_w, i32_w]
          rfl
        refine pure_ (i := 5) (N := some 48) (v := ?_) (a' := ?_) #[true, true, true, true, true, true, false, false, false, false, false, false, false, false, false, false] rfl rfl (by kernel_rfl) (fun _ _ _ h => h) (Or.inl ⟨by rfl, ?_⟩) ?_ ?_
        rotate_left
        · intro w'
          go_simp
          with_reducible rfl
        rotate_left
        · simp only [Act.put, List.setIfInBounds_toArray, List.set_cons_zero, List.set_cons_succ, i64_w, i32_w]
          rfl
        refine pure_ (i := 6) (N := some 49) (v := ?_) (a' := ?_) #[true, true, true, true, true, true, true, false, false, false, false, false, false, false, false, false] rfl rfl (by kernel_rfl) (fun _ _ _ h => h) (Or.inl ⟨by rfl, ?_⟩) ?_ ?_
        rotate_left
        · intro w'
          go_simp
          with_reducible rfl
        rotate_left
        · simp only [Act.put, List.setIfInBounds_toArray, List.set_cons_zero, List.set_cons_succ, i64_w, i32_w]
          rfl
        refine take_ (i := 7) (N := some 50) (v := ?_) (a' := ?_) #[true, true, true, true, true, true, true, true, false, false, false, false, false, false, false, false] rfl rfl (by kernel_rfl) (fun _ _ _ h => h) (Or.inl ⟨by rfl, ?_⟩) hHeld ?_ ?_
        rotate_left
        · intro w' hs_; obtain ⟨s0, s1⟩ := hs_
          go_simp
          with_reducible rfl
        rotate_left
        · simp only [Act.put, List.setIfInBounds_toArray, List.set_cons_zero, List.set_cons_succ, i64_w, i32_w]
          rfl
        refine pure_ (i := 8) (N := some 51) (v := ?_) (a' := ?_) #[true, true, true, true, true, true, true, true, true, false, false, false, false, false, false, false] rfl rfl (by kernel_rfl) (fun _ _ _ h => h) (Or.inl ⟨by rfl, ?_⟩) ?_ ?_
        rotate_left
        · intro w'
          go_simp
          with_reducible rfl
        rotate_left
        · simp only [Act.put, List.setIfInBounds_toArray, List.set_cons_zero, List.set_cons_succ, i64_w, i32_w]
          rfl
        refine pure_ (i := 9) (N := some 52) (v := ?_) (a' := ?_) #[true, true, true, true, true, true, true, true, true, true, false, false, false, false, false, false] rfl rfl (by kernel_rfl) (fun _ _ _ h => h) (Or.inl ⟨by rfl, ?_⟩) ?_ ?_
        rotate_left
        · intro w'
          go_simp
          with_reducible rfl
        rotate_left
        · simp only [Act.put, List.setIfInBounds_toArray, List.set_cons_zero, List.set_cons_succ, i64_w, i32_w]
          rfl
        refine pure_ (i := 10) (N := some 53) (v := ?_) (a' := ?_) #[true, true, true, true, true, true, true, true, true, true, true, false, false, false, false, false] rfl rfl (by kernel_rfl) (fun _ _ _ h => h) (Or.inl ⟨by rfl, ?_⟩) ?_ ?_
        rotate_left
        · intro w'
          go_simp
          with_reducible rfl
        rotate_left
        · simp only [Act.put, List.setIfInBounds_toArray, List.set_cons_zero, List.set_cons_succ, i64_w, i32_w]
          rfl
        refine take_ (i := 11) (N := some 54) (v := ?_) (a' := ?_) #[true, true, true, true, true, true, true, true, true, true, true, true, false, false, false, false] rfl rfl (by kernel_rfl) (fun _ _ _ h => h) (Or.inl ⟨by rfl, ?_⟩) hHeld ?_ ?_
        rotate_left
        · intro w' hs_; obtain ⟨s0, s1⟩ := hs_
          go_simp
          with_reducible rfl
        rotate_left
        · simp only [Act.put, List.setIfInBounds_toArray, List.set_cons_zero, List.set_cons_succ, i64_w, i32_w]
          rfl
        refine pure_ (i := 12) (N := some 55) (v := ?_) (a' := ?_) #[true, true, true, true, true, true, true, true, true, true, true, true, true, false, false, false] rfl rfl (by kernel_rfl) (fun _ _ _ h => h) (Or.inl ⟨by rfl, ?_⟩) ?_ ?_
        rotate_left
        · intro w'
          go_simp
          with_reducible rfl
        rotate_left
        · simp only [Act.put, List.setIfInBounds_toArray, List.set_cons_zero, List.set_cons_succ, i64_w, i32_w]
          rfl
        refine last_ (i := 13) (N := none) #[true, true, true, true, true, true, true, true, true, true, true, true, true, true, false, false] rfl rfl (by kernel_rfl) (by decide) (fun K hK => ?_)
        refine skip_ (w1 := ?_) (by rfl) rfl ?_ ?_
        rotate_left
        · go_simp
          rfl
        refine hK.out _ _ ?_
        clear hK K
        refine pure_ (i := 14) (N := some 56) (v := ?_) (a' := ?_) #[true, true, true, true, true, true, true, true, true, true, true, true, true, true, true, false] rfl rfl (by kernel_rfl) (fun _ _ _ h => h) (Or.inl ⟨by rfl, ?_⟩) ?_ ?_
        rotate_left
        · intro w'
          go_simp
          with_reducible rfl
        rotate_left
        · simp only [Act.put, List.setIfInBounds_toArray, List.set_cons_zero, List.set_cons_succ, i64_w, i32_w]
          rfl
        refine last_ (i := 15) (N := none) #[true, true, true, true, true, true, true, true, true, true, true, true, true, true, true, true] rfl rfl (by kernel_rfl) (by decide) (fun K hK => ?_)
        refine skip_ (w1 := ?_) (by rfl) rfl ?_ ?_
        rotate_left
        · go_simp
          rfl
        refine hK.out _ _ ?_
        clear hK K
        refine done_ (by kernel_rfl) ?_
        -- }SWAP
        have hP7 := (hP4.swap (unhide hT).symm a b (by omega) (by omega)).below (Below.refl _ _).drew
        rw [unhide hra, unhide hrb] at hP7
        have hb7 : Below w.heap.size w ((W4.setCell ⟨g, a, none⟩ (.slice qA qn qc)).setCell ⟨g, b, none⟩ (.slice pA pn pc)).drew := ((hb14.setCell (by show w.heap.size ≤ g; have := hb1.size; omega) _).setCell (by show w.heap.size ≤ g; have := hb1.size; omega) _).drew
        have hlk9 := look_pn 1 (some ⟨g, 0, none⟩) c2 6 w1.heap.size _ _ hP7 (by rw [List.length_set, List.length_set]; exact (unhide hT).symm) (by omega) hc2
        have hsw := look_swap (a := a) (b := b) (unhide hmade) hwf (by omega) (by omega) hab
        have hlk10 := hlk9.mono (R' := fun x w' => (∃ st A' c', x = .returned (.agg #[.int .i64 st, .slice A' 2 c'])) ∧ Below ((W4.setCell ⟨g, a, none⟩ (.slice qA qn qc)).setCell ⟨g, b, none⟩ (.slice pA pn pc)).drew.heap.size ((W4.setCell ⟨g, a, none⟩ (.slice qA qn qc)).setCell ⟨g, b, none⟩ (.slice pA pn pc)).drew w') (fun x w' ⟨⟨A', c', T', hx, _⟩, hb⟩ => ⟨⟨_, A', c', by rw [hsw] at hx; exact hx⟩, hb⟩)
        have d2 : ((W4.setCell ⟨g, a, none⟩ (.slice qA qn qc)).setCell ⟨g, b, none⟩ (.slice pA pn pc)).drew.cell? ⟨w3.heap.size, 1, none⟩ = some (.slice A3 4 c3) := by
          have hne : w3.heap.size ≠ g := by omega
          have := (Below.heap_setCell (W4.setCell ⟨g, a, none⟩ (.slice qA qn qc)) ⟨g, b, none⟩ (.slice pA pn pc) w3.heap.size hne).trans (Below.heap_setCell W4 ⟨g, a, none⟩ (.slice qA qn qc) w3.heap.size hne)
          have e := d1
          unfold World.cell? at e ⊢
          simp only at e ⊢
          rw [show ∀ (W : World), W.drew.heap = W.heap from fun _ => rfl, this]
          exact e
        clear hlk9 hsw hP7 keep0 hca hcb d1
        go_wp2_with fail
        (with_reducible refine hlk10.mono ?_)
        rintro x w8 ⟨⟨st8, A8, c8, rfl⟩, hb8⟩
        clear hlk10
        have d3 := (hb8.cell (p := ⟨w3.heap.size, 1, none⟩) (World.block_lt_of_cell? _ _ d2)).trans d2
        have hb8' := hb7.trans (hb8.mono hb7.size)
        have hbF := hb8'.alloc hb8'.size (Obj.cells #[.int .i64 st8, .slice A8 2 c8] 31)
        have hne8 : w3.heap.size < w8.heap.size := World.block_lt_of_cell? _ _ d3
        have hne9 : ¬ w3.heap.size = w8.heap.size := by omega
        clear d2
        go_wp2_with fail
        go_ret
        exact ⟨rfl, hbF⟩
    · have hB1 : ((s : Int) == 1) = false := by simp; omega
      have hlf := look_foreign hmade hwf (s := s) (by omega)
      rw [hlf] at hlk
      replace hs1 := hide hs1
      replace hT := hide hT
      replace hmade := hide hmade
      have hlk2 : Calls Try.prog 12 #[.int .i64 s, .slice A2 6 c2] w2 fun x w' => (∃ A' c', x = .returned (.agg #[.int .i64 1, .slice A' 0 c'])) ∧ Below w2.heap.size w2 w' := by
        refine hlk.mono ?_
        rintro x w' ⟨⟨A', c', T', hx, _⟩, hb⟩
        exact ⟨⟨A', c', hx⟩, hb⟩
      clear hlk hlf
      go_wp2_with fail
      (with_reducible refine hlk2.mono ?_)
      rintro x w3 ⟨⟨A3, c3, rfl⟩, hb3⟩
      have hb13 := hb12.trans (hb3.mono hb12.size)
      have hbF := hb13.alloc hb13.size (Obj.cells #[.int .i64 1, .slice A3 0 c3] 31)
      clear hlk2
      go_wp2_with fail
      go_ret
      exact ⟨rfl, hbF⟩
  · have hlI : ¬ (n : Int) ≤ 30 := by omega
    go_wp2_with fail
    go_ret
    exact ⟨rfl, hb1⟩
end Go.Proofs.Ytodbmgafejclmaa.Base
