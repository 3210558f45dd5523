/-
  Parts of a proof, laid together by a program of mine (pack.py): Dp.
-/
import Derived.Test.YtibileffpgnjhaaZC31
namespace Go.Proofs.Ytibileffpgnjhaa.Base
open Go.RowKit Go.Maps Go.Proofs.YtibileffpgnjhaaW.PrintWords Go.Proofs.YtibileffpgnjhaaW.PrintLast
open Go.Proofs.Ytibileffpgnjhaa.Fld Go.Proofs.Ytibileffpgnjhaa.Pl Go.Proofs.Ytibileffpgnjhaa.Kp Go.Proofs.Ytibileffpgnjhaa.Fw Go.Proofs.Ytibileffpgnjhaa.Cw Go.Proofs.Ytibileffpgnjhaa.Cd Go.Proofs.Ytibileffpgnjhaa.Rf
set_option linter.unusedSimpArgs false
set_option linter.unusedVariables false
theorem leN_leI (n : Int) : ∀ k : Nat, leN (leI n k) = (IntKind.u64.wrap n).toNat % 256 ^ k
  | 0 => by simp [leI, leN, Nat.mod_one]
  | k + 1 => by
    rw [leI_succ, leN_snoc, leN_leI n k, leI_len]
    have h0 : 0 ≤ IntKind.u64.wrap n := by
      have : IntKind.u64.wrap n = n % 18446744073709551616 := rfl
      omega
    obtain ⟨u, hu⟩ := Int.eq_ofNat_of_zero_le h0
    have hb : (byteI n k).toNat = u / 256 ^ k % 256 := by
      unfold byteI
      rw [hu, show (2 : Int) ^ (8 * k) = ((2 ^ (8 * k) : Nat) : Int) from (Int.natCast_pow 2 (8 * k)).symm, ← pow_256, ← Int.natCast_ediv, show (256 : Int) = ((256 : Nat) : Int) from rfl, ← Int.natCast_emod, Int.toNat_natCast]
    rw [hb, hu, Int.toNat_natCast, Nat.pow_succ, Nat.mod_mul, Nat.mul_comm]
theorem wrap_leI {n : Int} (h : I64 n) : wrap64 (leN (leI n 8)) = n := by
  rw [leN_leI]
  unfold I64 at h
  have e : IntKind.u64.wrap n = n % 18446744073709551616 := rfl
  rw [e]
  have h1 := Int.emod_nonneg n (b := 18446744073709551616) (by omega)
  have h2 := Int.emod_lt_of_pos n (b := 18446744073709551616) (by omega)
  rw [Nat.mod_eq_of_lt (by omega), Int.toNat_of_nonneg h1, ← i64_w, IntKind.wrap_i64]
  omega
theorem rawB_parts (H : List Int) (x1 x2 x3 k : Int) (L S D Z : List Int) (hH : H.length = 8) (hL : L.length = 8) (hS : S.length = 8) (hD : D.length = 16) :
    (rawB H x1 x2 x3 k L S D Z).take 8 = H ∧ at_ (rawB H x1 x2 x3 k L S D Z) 8 = x1 ∧ at_ (rawB H x1 x2 x3 k L S D Z) 9 = x2 ∧ at_ (rawB H x1 x2 x3 k L S D Z) 10 = x3 ∧ at_ (rawB H x1 x2 x3 k L S D Z) 11 = k ∧
    ((rawB H x1 x2 x3 k L S D Z).drop 12).take 8 = L ∧ ((rawB H x1 x2 x3 k L S D Z).drop 20).take 8 = S ∧ ((rawB H x1 x2 x3 k L S D Z).drop 28).take 16 = D ∧ (rawB H x1 x2 x3 k L S D Z).drop 44 = Z := by
  have d8 : (rawB H x1 x2 x3 k L S D Z).drop 8 = x1 :: x2 :: x3 :: k :: (L ++ (S ++ (D ++ Z))) := by unfold rawB; rw [← hH, List.drop_left]
  have d12 : (rawB H x1 x2 x3 k L S D Z).drop 12 = L ++ (S ++ (D ++ Z)) := by
    rw [show 12 = 8 + 4 from rfl, ← List.drop_drop, d8]; rfl
  have d20 : (rawB H x1 x2 x3 k L S D Z).drop 20 = S ++ (D ++ Z) := by
    rw [show 20 = 12 + 8 from rfl, ← List.drop_drop, d12, ← hL, List.drop_left]
  have d28 : (rawB H x1 x2 x3 k L S D Z).drop 28 = D ++ Z := by
    rw [show 28 = 20 + 8 from rfl, ← List.drop_drop, d20, ← hS, List.drop_left]
  have d44 : (rawB H x1 x2 x3 k L S D Z).drop 44 = Z := by
    rw [show 44 = 28 + 16 from rfl, ← List.drop_drop, d28, ← hD, List.drop_left]
  have at8 : ∀ j, at_ (rawB H x1 x2 x3 k L S D Z) (8 + j) = at_ ((rawB H x1 x2 x3 k L S D Z).drop 8) j := fun j => by
    unfold at_
    rw [List.getD_eq_getElem?_getD, List.getD_eq_getElem?_getD, List.getElem?_drop]
  refine ⟨by unfold rawB; rw [← hH, List.take_left], ?_, ?_, ?_, ?_, ?_, ?_, ?_, d44⟩
  · have := at8 0; rw [d8] at this; exact this
  · have := at8 1; rw [d8] at this; exact this
  · have := at8 2; rw [d8] at this; exact this
  · have := at8 3; rw [d8] at this; exact this
  · rw [d12, ← hL, List.take_left]
  · rw [d20, ← hS, List.take_left]
  · rw [d28, ← hD, List.take_left]
theorem datL_dataL (e : Ent) : datL (dataL e) = e.d := by
  funext i
  unfold datL dataL
  rw [List.getD_eq_getElem?_getD, List.getElem?_ofFn, dif_pos i.2]
  rfl
/-- a slot's bytes are read as they were written -/
theorem parse_bytes {s u a i : Int} {e : Ent} (hs : 1 ≤ s ∧ s ≤ 1099511627776) (hu : 0 ≤ u ∧ u ≤ 255) (ha : 0 ≤ a ∧ a ≤ 255) (hi : 0 ≤ i ∧ i ≤ 255) (hok : OkE e) (hwf : e.Wf) : parseB (bytesE s u a i e) = some (⟨s, u, a, i⟩, e) := by
  have hk := hok
  obtain ⟨k0, k3, _, _⟩ := hk
  have er : bytesE s u a i e = rawB (leI s 8) u a i e.k (leI e.l 8) (leI e.s 8) (dataL e) [0, 0, 0, 0] := by
    unfold bytesE rawB
    rw [Int.emod_eq_of_lt hu.1 (by omega), Int.emod_eq_of_lt ha.1 (by omega), Int.emod_eq_of_lt hi.1 (by omega), Int.emod_eq_of_lt k0 (by omega)]
    simp only [List.append_assoc, List.singleton_append, List.cons_append, List.nil_append]
  obtain ⟨p1, p2, p3, p4, p5, p6, p7, p8, p9⟩ := rawB_parts (leI s 8) u a i e.k (leI e.l 8) (leI e.s 8) (dataL e) [0, 0, 0, 0] (leI_len _ _) (leI_len _ _) (leI_len _ _) (dataL_len e)
  rw [er]
  unfold parseB
  rw [p1, p2, p3, p4, p5, p6, p7, p8, p9, wrap_leI (n := s) ⟨by omega, by omega⟩]
  have ee : rawE e.k (leI e.l 8) (leI e.s 8) (dataL e) = e := by
    unfold rawE
    rw [wrap_leI hwf.2.1, wrap_leI hwf.2.2.1, datL_dataL]
  rw [ee, if_pos]
  exact ⟨fun z hz => by simpa using hz, hs, hok⟩
theorem okE_zero : OkE zeroE := by unfold OkE zeroE; simp
theorem getD_ok {es : List Ent} (h : ∀ e ∈ es, OkE e) (i : Nat) : OkE (es.getD i zeroE) := by
  rw [List.getD_eq_getElem?_getD]
  cases hi : es[i]? with
  | none => exact okE_zero
  | some e => exact h e (List.mem_of_getElem? hi)
/-- a row as it is encoded is a codeword -/
theorem code_full (s u a : Int) (es : List Ent) (n : Nat) (h : ∀ e ∈ es, e.Wf) : Cd.Code (fullE s u a es n) 48 n := by
  have := code_of (L := rowsE s u a es n) (n := 48) (fun r hr => ⟨rowsE_48 s u a es n r hr, rowsE_byt s u a es n h r hr⟩)
  rw [rowsE_len] at this
  exact this
end Go.Proofs.Ytibileffpgnjhaa.Base
