/-
  Parts of a proof, laid together by a program of mine (pack.py): Lk.
-/
import Derived.Test.YtodbmgafejclmaaZD42
namespace Go.Proofs.Ytodbmgafejclmaa.Base
open Go.RowKit Go.Maps Go.Proofs.YtodbmgafejclmaaW.PrintWords Go.Proofs.YtodbmgafejclmaaW.PrintLast
set_option linter.unusedSimpArgs false
set_option linter.unusedVariables false
set_option maxRecDepth 100000 in
theorem w13_any (a n : Int) (w : World) (ha0 : I64 a) (hn : 1 ≤ n) (hn2 : n ≤ 4611686018427387904) :
    Calls Try.prog 10 #[.int .i64 a, .int .i64 n] w fun e w' => e = .returned (.int .i64 (a % n)) ∧ w = w' := by
  have ha := ha0
  unfold I64 at ha
  have hk := tmod_neg_iff a n hn
  have h2 := Int.emod_nonneg a (b := n) (by omega)
  have h3 := Int.emod_lt_of_pos a (b := n) (by omega)
  by_cases h : a.tmod n < 0
  · rw [if_pos h] at hk
    have hb : -9223372036854775808 ≤ a.tmod n + n ∧ a.tmod n + n ≤ 9223372036854775807 := by omega
    have hw : IntKind.i64.wrap (a.tmod n + n) = a.tmod n + n := IntWalk.i64_in _ (by omega)
    replace hk := hide hk
    replace hw := hide hw
    clear h2 h3
    go_enter Try.func10, Try.ntmps10
    go_wp2
    go_ret
    exact ⟨by first | rfl | (rw [unhide hk]; rfl), rfl⟩
  · rw [if_neg h] at hk
    replace hk := hide hk
    clear h2 h3
    go_enter Try.func10, Try.ntmps10
    go_wp2
    go_ret
    exact ⟨by first | rfl | (rw [unhide hk]; rfl), rfl⟩
theorem w13_lt (a n : Int) (ha : I64 a) (hn : 1 ≤ n) (hn2 : n ≤ 4611686018427387904) : ∃ k : Nat, (k : Int) < n ∧ ∀ w, Calls Try.prog 10 #[.int .i64 a, .int .i64 n] w fun e w' => e = .returned (.int .i64 (k : Int)) ∧ w = w' := by
  have h2 := Int.emod_nonneg a (b := n) (by omega)
  have h3 := Int.emod_lt_of_pos a (b := n) (by omega)
  refine ⟨(a % n).toNat, by omega, fun w => ?_⟩
  rw [Int.toNat_of_nonneg h2]
  exact w13_any a n w ha hn hn2
/-- a look's answer -/
def LkA (r : Int × List RowP) (w : World) (x : Ending) (w' : World) : Prop :=
  ∃ A' c' T', x = .returned (.agg #[.int .i64 r.1, .slice A' r.2.length c']) ∧ r.2.length ≤ c' ∧ T'.map RowD.pl = r.2 ∧ Rn w' w.heap.size (.slice A' r.2.length c') T'
theorem look_pn (s : Int) (A : Option Addr) (c n base : Nat) (T : List PR) (w : World) (h : Pn w base (.slice A n c) T) (hn : n = T.length) (hsm : n ≤ 1000) (hc : n ≤ c) :
    Calls Try.prog 12 #[.int .i64 s, .slice A n c] w fun x w' => LkA (lookP s T) w x w' ∧ Below w.heap.size w w' := by
  refine (look_any s A c n T w hn hsm hc h.sl h.at_).mono ?_
  rintro x w' ⟨⟨A', c', T', hx, h1, h2, h3⟩, hb⟩
  have hl : T'.length = (lookP s T).2.length := by rw [← h2, List.length_map]
  rw [hl] at hx h1 h3
  exact ⟨⟨A', c', T', hx, h1, h2, h3⟩, hb⟩
set_option maxRecDepth 100000 in
theorem fld_super0 (st : Int) (A : Option Addr) (n c : Nat) (w : World) : (Instr.field 31 (.agg #[.int .i64 st, .slice A n c]) 0).run Try.prog w = .ok (.int .i64 st) w := by kernel_rfl
set_option maxRecDepth 100000 in
theorem fld_super1 (st : Int) (A : Option Addr) (n c : Nat) (w : World) : (Instr.field 31 (.agg #[.int .i64 st, .slice A n c]) 1).run Try.prog w = .ok (.slice A n c) w := by kernel_rfl
attribute [local go_sem] fld_super0 fld_super1
theorem look0 : lookP 0 [] = (0, []) := by simp [lookP, lastS, lastN]
theorem look1 {ps : List Pg} {A : Option Addr} {c : Nat} (h : ps.map qOf = pagesQ (fullE 1 0 0 [] 4) []) : (lookP 0 [((A, c, ps) : PR)]).1 = 2 := by
  have hb := decP_back (s := 1) (u := 0) (a := 0) (es := []) (m := 4) (P := []) (ps := ps) (most := 1) (by omega) (by omega) (by omega) (by omega) (by simp) (by simp) (ok_nil _) (by omega) (by omega) h
  have hp : pgsOf [((A, c, ps) : PR)] 0 = ps := rfl
  have hst : stB ps = true := stB_row h (fun x hx => (List.not_mem_nil hx).elim) (by rw [full_pos _ _ _ _ _ (by simp)]; omega)
  have hl : lastS [((A, c, ps) : PR)] = 0 := by
    have h0 : lastN (fun i => stB (pgsOf [((A, c, ps) : PR)] i)) 1 = ((0 : Nat) : Int) := lastN_at (by omega) (by simpa [hp] using hst) (fun j h1 h2 => by omega)
    exact h0
  rw [lookP_st (by rw [hl]; omega)]
  have hd := hb.2
  have e : decP 0 (((([((A, c, ps) : PR)] : List PR).length : Nat) : Int) - 1) (pgsOf [((A, c, ps) : PR)] ([((A, c, ps) : PR)].length - 1)) 1 = decP 0 0 ps 1 := rfl
  rw [e, hd]
  rfl
set_option maxRecDepth 100000 in
set_option maxHeartbeats 2000000 in
theorem known13 (w : World) : Calls Try.prog 9 #[] w fun e w' => e = .returned (.bool true) ∧ Below w.heap.size w w' := by
  have hen := rencode_rowL 6 4 1 0 0 none 0 0 [] w rfl (by omega) (by omega) (by omega) (by omega) rfl (by omega) (by simp) (by simp) (by omega) Sl.nil
  go_enter Try.func9, Try.ntmps9
  go_wp2_with fail
  (with_reducible refine hen.mono ?_)
  rintro x w4 ⟨A4, c4, rfl, hc4, hC4, hlw4, hb4⟩
  obtain ⟨ff1, ff2⟩ := full_fit 1 0 0 ([] : List Ent) 4 (by simp)
  have hl0 := look_any 0 none 0 0 [] w4 rfl (by omega) (by omega) Sl.nil (fun r hr => (List.not_mem_nil hr).elim)
  rw [look0] at hl0
  clear hen
  go_wp2_with fail
  (with_reducible refine hl0.mono ?_)
  rintro x w5 ⟨⟨A5, c5, T5, rfl, h51, h52, h53⟩, hb5⟩
  obtain rfl : T5 = [] := by simpa using h52
  have hC5 : RC w5 A4 6 (fullE 1 0 0 [] 4) := Kd.C_below hC4 hb5
  have hpg := pages_any A4 none c4 0 6 0 _ [] w5 ff1.symm rfl hC5 hc4 ff2 (by omega) Sl.nil (by omega) (fun x hx => by simp at hx)
  clear hl0 hC4 hC5 hlw4 ff1 ff2 h52 h53 h51
  go_wp2_with fail
  (with_reducible refine hpg.mono ?_)
  rintro x w6 ⟨A6, c6, ps, rfl, hc6, hq6, hp6, ho6, hb6⟩
  have hpl : ps.length = 6 := by
    have := congrArg List.length hq6
    rw [List.length_map, pagesQ_len, full_pos _ _ _ _ _ (by simp)] at this
    exact this
  have hr6 : PrOk w6 (A6, c6, ps) := ⟨by show ps.length ≤ c6; omega, by show ps.length ≤ 1000; omega, pages_i64 hq6 (fun x hx => by simp at hx), (ho6.sl (Pg.sized _) (by omega)).less (Nat.zero_le _), hp6.below hb6⟩
  have hb7 := (Below.refl w6.heap.size w6).alloc (Nat.le_refl _) (.cells #[.slice A6 6 c6] 33)
  have hsl1 : Sl (w6.alloc (.cells #[.slice A6 6 c6] 33)) 0 (w6.alloc (.cells #[.slice A6 6 c6] 33)).heap.size 1 (some ⟨w6.heap.size, 0, none⟩) ([((A6, c6, ps) : PR)].map PR.arr) := by
    have e : ([((A6, c6, ps) : PR)].map PR.arr) = [#[.slice A6 6 c6]] := by simp [PR.arr, PR.cell, hpl]
    rw [e]
    exact Sl.one (rd_new_whole _ _ _ _ _ _ rfl (by rfl)) (Nat.zero_le _) (by rw [World.size_alloc]; omega)
  have hl1 := look_any 0 (some ⟨w6.heap.size, 0, none⟩) 1 1 [(A6, c6, ps)] (w6.alloc (.cells #[.slice A6 6 c6] 33)) rfl (by omega) (by omega) hsl1
    (fun r hr => by rw [List.mem_singleton.1 hr]; exact hr6.below hb7)
  have hk1 := look1 (A := A6) (c := c6) hq6
  have hz : w.heap.size ≤ w6.heap.size := by have := hb4.size; have := hb5.size; have := hb6.size; omega
  have hb67 : Below w.heap.size w (w6.alloc (.cells #[.slice A6 6 c6] 33)) := ((hb4.trans (hb5.mono hb4.size)).trans (hb6.mono (by have := hb4.size; have := hb5.size; omega))).alloc hz _
  have hz7 := hb67.size
  clear hpg hr6 hq6 hp6 ho6 hpl
  replace hk1 := hide hk1
  go_wp2_with fail
  (with_reducible refine hl1.mono ?_)
  rintro x w8 ⟨⟨A8, c8, T8, rfl, h81, h82, h83⟩, hb8⟩
  rw [unhide hk1]
  have hbF := hb67.trans (hb8.mono hz7)
  clear hl1 h81 h82 h83
  go_wp2_with fail
  go_ret
  exact ⟨rfl, hbF⟩
end Go.Proofs.Ytodbmgafejclmaa.Base
