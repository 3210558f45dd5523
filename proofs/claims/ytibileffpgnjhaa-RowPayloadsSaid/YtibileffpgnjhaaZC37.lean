/-
  Parts of a proof, laid together by a program of mine (pack.py): Rq.
-/
import Derived.BigQuiet
import Derived.Test.YtibileffpgnjhaaZC36
namespace Go.Proofs.Ytibileffpgnjhaa.Base
open Go.RowKit
set_option linter.unusedSimpArgs false
set_option linter.unusedVariables false
/-- a reader at a place of bytes that lie elsewhere -/
structure QR (w : World) (base b bb o n c P : Nat) (all : List Int) : Prop where
  le : base ≤ b
  blk : w.heap[b]? = some (.cells #[.slice (some ⟨bb, o, none⟩) n c, .int .i64 (P : Int), .int .i64 0] 101 (0, 0))
  len : n = all.length
  cap : n ≤ c
  far : bb < base
  at_ : ∀ i (h : i < all.length), w.cell? ⟨bb, o + i, none⟩ = some (.int .u8 all[i])
theorem QR.lt {w : World} {base b bb o n c P : Nat} {all : List Int} (h : QR w base b bb o n c P all) : b < w.heap.size := (Array.getElem?_eq_some_iff.1 h.blk).1
theorem QR.but {w w' : World} {base b bb o n c P g : Nat} {all : List Int} (h : QR w base b bb o n c P all) (hk : But g w w') (hg : b < g) : QR w' base b bb o n c P all := by
  have h1 := h.lt
  have h2 := h.far
  have h3 := h.le
  refine ⟨h.le, (hk.block b h1 (by omega)).trans h.blk, h.len, h.cap, h.far, fun i hi => ?_⟩
  rw [World.cell?_of_block (hk.block bb (by omega) (by omega))]
  exact h.at_ i hi
set_option maxRecDepth 100000 in
set_option maxHeartbeats 1000000 in
theorem rtake_any (base b bb o n c P k : Nat) (all : List Int) (w : World) (h : QR w base b bb o n c P all) (hk : 1 ≤ k) (hP : P + k ≤ n) (hl : n ≤ 1000000) :
    Calls Try.prog 62 #[.pointer (some ⟨b, 0, none⟩), .int .i64 k] w fun x w' => x = .returned (.slice (some ⟨bb, o + P, none⟩) k (c - P)) ∧ QR w' base b bb o n c (P + k) all ∧ But b w w' := by
  have hcap := h.cap
  have hlt := h.lt
  have hfar := h.far
  have hle := h.le
  have c0 : w.cell? ⟨b, 0, none⟩ = some (.slice (some ⟨bb, o, none⟩) n c) := by simp [World.cell?, h.blk]
  have c1 : w.cell? ⟨b, 1, none⟩ = some (.int .i64 (P : Int)) := by simp [World.cell?, h.blk]
  have c2 : w.cell? ⟨b, 2, none⟩ = some (.int .i64 0) := by simp [World.cell?, h.blk]
  have f0 : w.frozen? ⟨b, 0, none⟩ = false := by simp [World.frozen?, h.blk]
  have f1 : w.frozen? ⟨b, 1, none⟩ = false := by simp [World.frozen?, h.blk]
  have hsub : wrap64 ((n : Int) - P) = (n : Int) - P := by unfold wrap64; omega
  have hd : decide ((n : Int) - P < k) = false := decide_eq_false (by omega)
  have hadd : wrap64 ((P : Int) + k) = ((P + k : Nat) : Int) := by unfold wrap64; omega
  have hsub2 : wrap64 (((P + k : Nat) : Int) - k) = (P : Int) := by unfold wrap64; omega
  have hq : ∀ w' : World, w'.heap[b]? = some (.cells #[.slice (some ⟨bb, o, none⟩) n c, .int .i64 ((P + k : Nat) : Int), .int .i64 0] 101 (0, 0)) → But b w w' → QR w' base b bb o n c (P + k) all := fun w' hb hB => by
    refine ⟨h.le, hb, h.len, h.cap, h.far, fun i hi => ?_⟩
    rw [World.cell?_of_block (hB.block bb (by omega) (by omega))]
    exact h.at_ i hi
  have hset := heap_setCell_same w b 1 _ _ (.int .i64 ((P + k : Nat) : Int)) h.blk
  have hbut : But b w (w.setCell ⟨b, 1, none⟩ (.int .i64 ((P + k : Nat) : Int))) := ⟨rfl, rfl, rfl, by simp, fun j hj hn => Below.heap_setCell _ _ _ _ hn⟩
  have hhi : ((P + k : Nat) : Int) ≤ c := by omega
  replace h := hide h
  replace hset := hide hset
  go_enter Try.func62, Try.ntmps62
  go_wp2_with fail
  go_quiet (fail)
  go_wp2_with fail
  go_quiet (fail)
  go_wp2_with fail
  refine bodyPost_ret (results_tmp rfl _ _ _) rfl ⟨?_, hq _ (unhide hset) ⟨hbut.os, hbut.tape, hbut.output, hbut.size, hbut.block⟩, ⟨hbut.os, hbut.tape, hbut.output, hbut.size, hbut.block⟩⟩
  show Ending.returned (Value.slice (some ⟨bb, o + P, none⟩) (P + k - P) (c - P)) = _
  rw [Nat.add_sub_cancel_left]
theorem or_low (u : Nat) (y : Int) (hu : u < 256 ^ 7) (hy : 0 ≤ y ∧ y < 256) : bits .or .u64 ((u : Int) * 256) y = ((y.toNat + 256 * u : Nat) : Int) := by
  obtain ⟨m, rfl⟩ := Int.eq_ofNat_of_zero_le hy.1
  have hm : m < 2 ^ 8 := by omega
  have h7 : (256 : Nat) ^ 7 = 2 ^ 56 := by decide
  rw [show ((u : Int) * 256) = ((2 ^ 8 * u : Nat) : Int) from by omega, (bits_nat .u64 64 (by decide) wraps_u64 (2 ^ 8 * u) m (by omega) (by omega)).2, ← Nat.two_pow_add_eq_or_of_lt hm u, Int.toNat_natCast, Nat.add_comm]
theorem leN_drop (xs : List Int) (i : Nat) (hi : i < xs.length) : leN (xs.drop i) = xs[i].toNat + 256 * leN (xs.drop (i + 1)) := by
  rw [List.drop_eq_getElem_cons hi]; rfl
set_option maxRecDepth 100000 in
set_option maxHeartbeats 1000000 in
theorem qint_any (base b bb o n c P : Nat) (all xs : List Int) (w : World) (h : QR w base b bb o n c P all) (hx : xs = (all.drop P).take 8) (hP : P + 8 ≤ n) (hl : n ≤ 1000000) (hb : OkB xs) :
    Calls Try.prog 41 #[.pointer (some ⟨b, 0, none⟩)] w fun x w' => x = .returned (.int .i64 (wrap64 (leN xs))) ∧ QR w' base b bb o n c (P + 8) all ∧ But b w w' := by
  have hc : Calls Try.prog 62 #[.pointer (some ⟨b, 0, none⟩), .int .i64 8] w _ := rtake_any base b bb o n c P 8 all w h (by omega) hP hl
  have hxl : xs.length = 8 := by rw [hx, List.length_take, List.length_drop, ← h.len]; omega
  have hxa : ∀ i (hi : i < 8), xs[i]'(by omega) = all[P + i]'(by rw [← h.len]; omega) := fun i hi => by subst hx; simp
  have hlen := h.len
  replace h := hide h
  replace hb := hide hb
  replace hx := hide hx
  replace hxl := hide hxl
  replace hlen := hide hlen
  go_enter Try.func41, Try.ntmps41
  go_wp2_with fail
  (with_reducible refine hc.mono ?_)
  rintro e w1 ⟨rfl, hR, hB⟩
  go_wp2_with fail
  go_loopw [3, 5] (fun s3 s5 wr => ∃ i : Nat, i ≤ 8 ∧ s5 = .int .i64 ((i : Int) - 1) ∧ s3 = .int .u64 (leN (xs.drop i)) ∧ wr = w1) (fun _ s5 _ => (intOf s5 + 1).toNat)
  case atStart =>
    refine ⟨8, by omega, rfl, ?_, rfl⟩
    rw [List.drop_of_length_le (by rw [unhide hxl]; omega)]; rfl
  case round =>
    obtain ⟨i, hi, rfl, rfl, rfl⟩ := hrel
    by_cases h0 : 0 < i
    · obtain ⟨j, rfl⟩ : ∃ j, i = j + 1 := ⟨i - 1, by omega⟩
      have hj : j < xs.length := by rw [unhide hxl]; omega
      have e1 : ((j + 1 : Nat) : Int) - 1 = (j : Int) := by omega
      rw [e1]
      have hcell := hR.at_ (P + j) (by rw [← unhide hlen]; omega)
      rw [← hxa j (by omega), ← Nat.add_assoc] at hcell
      have hy := (unhide hb) xs[j] (List.getElem_mem hj)
      have hld := leN_drop xs j hj
      have hlt : leN (xs.drop (j + 1)) < 256 ^ 7 := by
        have h1 := leN_lt (xs.drop (j + 1)) (fun z hz => (unhide hb) z (List.mem_of_mem_drop hz))
        refine Nat.lt_of_lt_of_le h1 (Nat.pow_le_pow_right (by decide) ?_)
        rw [List.length_drop, unhide hxl]; omega
      obtain ⟨y, hye⟩ : ∃ y, y = xs[j] := ⟨_, rfl⟩
      rw [← hye] at hcell hy hld
      obtain ⟨u, hu⟩ : ∃ u, u = leN (xs.drop (j + 1)) := ⟨_, rfl⟩
      rw [← hu] at hld hlt ⊢
      replace hld := hide hld
      replace hye := hide hye
      replace hu := hide hu
      have hjI : (0 : Int) ≤ j := by omega
      have hj8 : (j : Int) < 8 := by omega
      go_wp2_with fail
      refine ⟨⟨j, by omega, rfl, ?_, trivial⟩, by simp only [intOf]; omega⟩
      rw [unhide hld, or_low u y hlt hy]
    · obtain rfl : i = 0 := by omega
      rw [List.drop_zero]
      go_wp2_with fail
      go_ret
      exact ⟨rfl, hR, hB⟩
set_option maxRecDepth 100000 in
set_option maxHeartbeats 1000000 in
theorem qbyte_any (base b bb o n c P : Nat) (all : List Int) (w : World) (h : QR w base b bb o n c P all) (hP : P + 1 ≤ n) (hl : n ≤ 1000000) (y : Int) (hy : all[P]? = some y) (hyb : 0 ≤ y ∧ y < 256) :
    Calls Try.prog 42 #[.pointer (some ⟨b, 0, none⟩)] w fun x w' => x = .returned (.int .i64 y) ∧ QR w' base b bb o n c (P + 1) all ∧ But b w w' := by
  have hc : Calls Try.prog 62 #[.pointer (some ⟨b, 0, none⟩), .int .i64 1] w _ := rtake_any base b bb o n c P 1 all w h (by omega) hP hl
  obtain ⟨hPl, hPy⟩ := List.getElem?_eq_some_iff.1 hy
  replace h := hide h
  replace hy := hide hy
  replace hPy := hide hPy
  go_enter Try.func42, Try.ntmps42
  go_wp2_with fail
  (with_reducible refine hc.mono ?_)
  rintro e w1 ⟨rfl, hR, hB⟩
  have hcell := hR.at_ P hPl
  rw [unhide hPy] at hcell
  go_wp2_with fail
  go_ret
  exact ⟨rfl, hR, hB⟩
set_option maxRecDepth 100000 in
theorem qend_any (base b bb o n c : Nat) (all : List Int) (w : World) (h : QR w base b bb o n c n all) :
    Calls Try.prog 43 #[.pointer (some ⟨b, 0, none⟩)] w fun x w' => x = .returned (.int .i64 0) ∧ ∃ m, w' = w.drewN m := by
  have c0 : w.cell? ⟨b, 0, none⟩ = some (.slice (some ⟨bb, o, none⟩) n c) := by simp [World.cell?, h.blk]
  have c1 : w.cell? ⟨b, 1, none⟩ = some (.int .i64 (n : Int)) := by simp [World.cell?, h.blk]
  have c2 : w.cell? ⟨b, 2, none⟩ = some (.int .i64 0) := by simp [World.cell?, h.blk]
  have hd : decide ((n : Int) < n) = false := decide_eq_false (by omega)
  replace h := hide h
  go_enter Try.func43, Try.ntmps43
  go_wp2_with fail
  go_quiet (fail)
  go_wp2_with fail
  go_ret
  exact ⟨rfl, _, rfl⟩
set_option maxRecDepth 100000 in
theorem qnew_any (bb o n c : Nat) (w : World) : Calls Try.prog 40 #[.slice (some ⟨bb, o, none⟩) n c] w fun x w' => x = .returned (.pointer (some ⟨w.heap.size, 0, none⟩)) ∧ w' = w.alloc (.cells #[.slice (some ⟨bb, o, none⟩) n c, .int .i64 0, .int .i64 0] 101) := by
  go_enter Try.func40, Try.ntmps40
  go_wp2_with fail
  go_ret
  exact ⟨rfl, rfl⟩
end Go.Proofs.Ytibileffpgnjhaa.Base
