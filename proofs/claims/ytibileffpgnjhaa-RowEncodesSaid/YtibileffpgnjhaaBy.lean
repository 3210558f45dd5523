/-
  Bytes that a call owns; what is appended; numbers as bytes (code.put, code.Int, code.Byte).
-/
import Derived.Test.YtibileffpgnjhaaEnt
import Derived.Deep.RegionHeld3
namespace Go.Proofs.Ytibileffpgnjhaa.Base
open Go.RowKit
set_option linter.unusedSimpArgs false
set_option linter.unusedVariables false

def I64 (n : Int) : Prop := -9223372036854775808 ≤ n ∧ n ≤ 9223372036854775807
def By (bs : List Int) : List (Array Value) := bs.map fun b => #[Value.int .u8 b]
theorem By.sized (bs : List Int) : Sized 1 (By bs) := by
  intro x hx
  obtain ⟨b, _, rfl⟩ := List.mem_map.1 hx
  rfl
theorem By.ones (bs : List Int) : Ones (By bs) := by
  intro x hx v hv
  obtain ⟨b, _, rfl⟩ := List.mem_map.1 hx
  simp only [List.mem_cons, List.not_mem_nil, or_false] at hv
  subst hv
  rfl
theorem By.len (bs : List Int) : (By bs).length = bs.length := by simp [By]
theorem By.app (bs cs : List Int) : By (bs ++ cs) = By bs ++ By cs := by simp [By]
theorem By.one (b : Int) : By [b] = [#[Value.int .u8 b]] := rfl
theorem info_u8 : (Try.prog.info? 5).map (fun i => (i.zero, i.size, i.bytes)) = some (some (.int .u8 0), 1, 1) := by kernel_rfl
/-- append onto bytes that the call owns -/
theorem run_append_by (w : World) (base n : Nat) (v : Value) (bs cs : List Int) (hown : Ow w base 5 1 v (By bs)) (hn : bs.length = n) (L B : Nat) (A : Option Addr) (m c : Nat) (hy : Sl w L B 1 A (By cs)) (hm : cs.length = m)
    (hsm : n + m ≤ 1000000) (hbase : base ≤ w.heap.size) (ty : TypeId) :
    ∃ A' c' w', (Builtin.append_ #[47, 47] ty #[v, .slice A m c]).run Try.prog w = .ok (.slice A' (n + m) c') w' ∧ Ow w' base 5 1 (.slice A' (n + m) c') (By (bs ++ cs)) ∧ w.grownBy w' v.ownBlock ∧ n + m ≤ c' := by
  obtain ⟨i0, hi0, hz0, hz1, hz2⟩ := info_parts info_u8
  obtain ⟨A', c', w', h1, h2, h3, h4⟩ := run_append_ow (P := Try.prog) w base 47 ty 5 i0 _ 1 1 Try.underlying47 hi0 hz0 hz1 hz2 rfl (by omega) v (By bs) hown L B A m c (By cs) hy
    (By.sized cs) (By.ones cs) (by rw [By.len]; exact hm) (by rw [By.len, hn]; unfold maxLen; omega) (by rw [By.len, hn]; omega) hbase
  rw [By.len, hn] at h1 h2 h4
  exact ⟨A', c', w', h1, by rw [By.app]; exact h2, h3, h4⟩
/-- a new cell is a row of one -/
theorem sl_new (w : World) (b : Int) : Sl (w.alloc (.cells #[.int .u8 b] 5)) w.heap.size (w.heap.size + 1) 1 (some ⟨w.heap.size, 0, none⟩) (By [b]) :=
  Sl.one (rd_new_whole _ _ _ _ _ _ rfl rfl) (Nat.le_refl _) (Nat.lt_succ_self _)

/-- what is run, in just this world -/
theorem app_ex {P : Program} {X X' : Sem Value} {W w1 : World} {v : Value} {K : Value → World → Prop} (hrun : X'.run P W = .ok v w1) (hX : X = X') (h : K v w1) : ∃ v w', X.run P W = .ok v w' ∧ K v w' :=
  ⟨v, w1, hX ▸ hrun, h⟩
theorem Ow.set_other {w : World} {base : Nat} {e t : TypeId} {sz : Nat} {v : Value} {xs : List (Array Value)} {cs : Array Value} (h : Ow w base e sz v xs) {p : Addr} (hp : w.heap[p.block]? = some (.cells cs t (0, 0))) (ht : t ≠ e) (u : Value) : Ow (w.setCell p u) base e sz v xs := by
  refine ⟨h.1, ?_⟩
  rcases h.2 with h0 | ⟨g, cap, cur, rfl, h1, h2, h3⟩
  · exact .inl h0
  · refine .inr ⟨g, cap, cur, rfl, h1, (Below.heap_setCell w p u g ?_).trans h2, h3⟩
    intro e2
    subst e2
    have := hp.symm.trans h2
    injection this with this
    injection this with _ h4 _
    exact ht h4
theorem Ow.less {w : World} {base base' : Nat} {e : TypeId} {sz : Nat} {v : Value} {xs : List (Array Value)} (h : Ow w base e sz v xs) (hb : base' ≤ base) : Ow w base' e sz v xs := by
  refine ⟨h.1, ?_⟩
  rcases h.2 with h0 | ⟨g, cap, cur, rfl, h1, h2, h3⟩
  · exact .inl h0
  · exact .inr ⟨g, cap, cur, rfl, by omega, h2, h3⟩
/-- the byte at place i of a number, the lowest one first -/
def byteI (n : Int) (i : Nat) : Int := IntKind.u64.wrap n / 2 ^ (8 * i) % 256
def leI (n : Int) (k : Nat) : List Int := (List.range k).map (byteI n)
theorem leI_len (n : Int) (k : Nat) : (leI n k).length = k := by simp [leI]
theorem leI_succ (n : Int) (k : Nat) : leI n (k + 1) = leI n k ++ [byteI n k] := by simp [leI, List.range_succ]

set_option maxHeartbeats 1000000 in
set_option maxRecDepth 100000 in
theorem put_any (v : Value) (bs : List Int) (n : Int) (k : Nat) (base : Nat) (w : World) (hb : base ≤ w.heap.size) (hk : k ≤ 8) (hn : I64 n) (hs : bs.length ≤ 1000) (L B : Nat) (A : Option Addr) (c : Nat) (hA : Sl w L B 1 A (By bs)) :
    Calls Try.prog 63 #[.slice A bs.length c, .int .i64 n, .int .i64 k] w fun e w' =>
      (∃ A' c', e = .returned (.slice A' (bs.length + k) c') ∧ bs.length + k ≤ c' ∧ Ow w' w.heap.size 5 1 (.slice A' (bs.length + k) c') (By (bs ++ leI n k))) ∧ Below w.heap.size w w' := by
  unfold I64 at hn
  go_enter Try.func63, Try.ntmps63
  obtain ⟨A1, c1, w1, hrun1, ho1, hg1, hc1⟩ := run_append_by w w.heap.size 0 (.slice none 0 0) [] bs (Ow.nil w _ _ _) rfl L B A bs.length c hA rfl (by omega) (Nat.le_refl _) 47
  rw [Nat.zero_add, List.nil_append] at ho1
  rw [Nat.zero_add] at hrun1 hc1
  have b1 : Below w.heap.size w w1 := below_grown (Below.refl _ _) hg1 (Nat.le_refl _) (fun k e => by simp [Value.ownBlock] at e)
  go_wp2_with (at_builtin; refine wpList_step (fun K hK => step_append_ex (o := ⟨some 10, _, _, _, _, _⟩) (.const (.slice none 0 0)) (.tmp 9) 47 rfl (by rfl) ⟨_, _, hrun1, hK _ _ ?_⟩))
  go_loopw [7, 8, 12] (fun s7 s8 s12 wr => ∃ (j : Nat) (A2 : Option Addr) (c2 : Nat), j ≤ k ∧ s12 = .int .i64 j ∧ s7 = .slice A2 (bs.length + j) c2 ∧ bs.length + j ≤ c2 ∧ Ow wr w.heap.size 5 1 (.slice A2 (bs.length + j) c2) (By (bs ++ leI n j)) ∧ Below w.heap.size w wr) (fun _ _ s12 _ => k - (intOf s12).toNat)
  case atStart => exact ⟨0, A1, c1, Nat.zero_le _, rfl, rfl, hc1, by simpa [leI] using ho1, b1⟩
  case round =>
    obtain ⟨j, A2, c2, hj, rfl, rfl, hc2, ho2, b2⟩ := hrel
    by_cases hjk : j < k
    · have hjI : (j : Int) < (k : Int) := by omega
      have hj8 : (j : Int) < 8 := by omega
      have hj0 : (0 : Int) ≤ (j : Int) := by omega
      have hbI : IntKind.u64.wrap n / 2 ^ (8 * j) % 256 = byteI n j := rfl
      have hbz := b2.size
      obtain ⟨A3, c3, w3, hrun3, ho3, hg3, hc3⟩ := run_append_by (wr.alloc (.cells #[.int .u8 (byteI n j)] 5)) w.heap.size (bs.length + j) (.slice A2 (bs.length + j) c2) (bs ++ leI n j) [byteI n j] (ho2.alloc _) (by rw [List.length_append, leI_len]) wr.heap.size (wr.heap.size + 1) (some ⟨wr.heap.size, 0, none⟩) 1 1 (sl_new wr _) rfl (by omega) (by simp; omega) 47
      have b3 : Below w.heap.size w w3 := below_grown (b2.alloc b2.size _) hg3 (by simp; omega) (fun k e => ((ho2.alloc (.cells #[.int .u8 (byteI n j)] 5)).lt k e).1)
      rw [List.append_assoc, ← leI_succ] at ho3
      clear hg3 ho2 b2 hrun1 ho1 hg1 b1
      go_wp2_with (at_builtin; refine wpList_step (fun K hK => step_append_ex (o := ⟨some 23, _, _, _, _, _⟩) (.tmp 15) (.tmp 22) 47 rfl (by rfl) ⟨_, _, hrun3, hK _ _ ?_⟩))
      go_roundw
      case rel => exact ⟨j + 1, A3, c3, by omega, by go_num, rfl, hc3, ho3, b3⟩
      case measure => simp [intOf]; omega
    · obtain rfl : j = k := by omega
      obtain ⟨A3, c3, w3, hrun3, ho3, hg3, hc3⟩ := run_append_by wr w.heap.size 0 (.slice none 0 0) [] (bs ++ leI n j) (Ow.nil wr _ _ _) rfl _ _ A2 (bs.length + j) c2 (ho2.sl (By.sized _) (by omega)) (by rw [List.length_append, leI_len]) (by omega) b2.size 47
      rw [Nat.zero_add, List.nil_append] at ho3
      rw [Nat.zero_add] at hrun3 hc3
      have b3 : Below w.heap.size w w3 := below_grown b2 hg3 b2.size (fun k e => by simp [Value.ownBlock] at e)
      clear hrun1 ho1 hg1 b1 hg3
      go_wp2_with (at_builtin; refine wpList_step (fun K hK => step_append_ex (o := ⟨some 26, _, _, _, _, _⟩) (.const (.slice none 0 0)) (.tmp 25) 47 rfl (by rfl) ⟨_, _, hrun3, hK _ _ ?_⟩))
      go_ret
      exact ⟨⟨A3, c3, rfl, hc3, ho3⟩, b3⟩

set_option maxRecDepth 100000 in
theorem int_any (bs : List Int) (n : Int) (w : World) (hn : I64 n) (hs : bs.length ≤ 1000) (L B : Nat) (A : Option Addr) (l c : Nat) (hl : bs.length = l) (hA : Sl w L B 1 A (By bs)) :
    Calls Try.prog 48 #[.slice A l c, .int .i64 n] w fun e w' =>
      (∃ A' c', e = .returned (.slice A' (l + 8) c') ∧ l + 8 ≤ c' ∧ Ow w' w.heap.size 5 1 (.slice A' (l + 8) c') (By (bs ++ leI n 8))) ∧ Below w.heap.size w w' := by
  subst hl
  have h := put_any (.slice none 0 0) bs n 8 0 w (Nat.zero_le _) (by omega) hn hs L B A c hA
  rw [show ((8 : Nat) : Int) = 8 from rfl] at h
  go_enter Try.func48, Try.ntmps48
  go_wp2_with fail
  (with_reducible refine h.mono ?_)
  rintro e w1 ⟨⟨A', c', rfl, hc', ho⟩, hb⟩
  go_wp2
  go_ret
  exact ⟨⟨A', c', rfl, hc', ho⟩, hb⟩
theorem byteI_zero (n : Int) : byteI n 0 = n % 256 := by
  unfold byteI
  simp only [Nat.mul_zero, Int.pow_zero, Int.ediv_one]
  have : IntKind.u64.wrap n = n % 18446744073709551616 := rfl
  rw [this]
  omega
set_option maxRecDepth 100000 in
theorem byte_any (bs : List Int) (n : Int) (w : World) (hn : I64 n) (hs : bs.length ≤ 1000) (L B : Nat) (A : Option Addr) (l c : Nat) (hl : bs.length = l) (hA : Sl w L B 1 A (By bs)) :
    Calls Try.prog 49 #[.slice A l c, .int .i64 n] w fun e w' =>
      (∃ A' c', e = .returned (.slice A' (l + 1) c') ∧ l + 1 ≤ c' ∧ Ow w' w.heap.size 5 1 (.slice A' (l + 1) c') (By (bs ++ [n % 256]))) ∧ Below w.heap.size w w' := by
  subst hl
  have h := put_any (.slice none 0 0) bs n 1 0 w (Nat.zero_le _) (by omega) hn hs L B A c hA
  rw [leI_succ, show leI n 0 = [] from rfl, List.nil_append, byteI_zero, show ((1 : Nat) : Int) = 1 from rfl] at h
  go_enter Try.func49, Try.ntmps49
  go_wp2_with fail
  (with_reducible refine h.mono ?_)
  rintro e w1 ⟨⟨A', c', rfl, hc', ho⟩, hb⟩
  go_wp2
  go_ret
  exact ⟨⟨A', c', rfl, hc', ho⟩, hb⟩
set_option maxRecDepth 100000 in
theorem rbyte_any (bs : List Int) (n : Int) (w : World) (hn : I64 n) (hs : bs.length ≤ 1000) (base : Nat) (hbase : base ≤ w.heap.size) (A : Option Addr) (l c : Nat) (hl : bs.length = l) (ho : Ow w base 5 1 (.slice A l c) (By bs)) :
    Calls Try.prog 54 #[.slice A l c, .int .i64 n] w fun e w' =>
      (∃ A' c', e = .returned (.slice A' (l + 1) c') ∧ l + 1 ≤ c' ∧ Ow w' base 5 1 (.slice A' (l + 1) c') (By (bs ++ [n % 256]))) ∧ Below base w w' := by
  unfold I64 at hn
  obtain ⟨A3, c3, w3, hrun3, ho3, hg3, hc3⟩ := run_append_by (w.alloc (.cells #[.int .u8 (n % 256)] 5)) base l (.slice A l c) bs [n % 256] (ho.alloc _) hl w.heap.size (w.heap.size + 1) (some ⟨w.heap.size, 0, none⟩) 1 1 (sl_new w _) rfl (by omega) (by simp; omega) 47
  have b3 : Below base w w3 := below_grown ((Below.refl base w).alloc hbase _) hg3 (by simp; omega) (fun k e => ((ho.alloc (.cells #[.int .u8 (n % 256)] 5)).lt k e).1)
  clear hg3
  replace hl := hide hl
  go_enter Try.func54, Try.ntmps54
  go_wp2_with (at_builtin; refine wpList_step (fun K hK => step_append_ex (o := ⟨some 9, _, _, _, _, _⟩) (.tmp 5) (.tmp 8) 47 rfl (by rfl) ⟨_, _, hrun3, hK _ _ ?_⟩))
  go_ret
  exact ⟨⟨A3, c3, rfl, hc3, ho3⟩, b3⟩
set_option maxRecDepth 100000 in
theorem rint_any (bs : List Int) (n : Int) (w : World) (hn : I64 n) (hs : bs.length ≤ 1000) (base : Nat) (hbase : base ≤ w.heap.size) (A : Option Addr) (l c : Nat) (hl : bs.length = l) (hc0 : l ≤ c) (ho : Ow w base 5 1 (.slice A l c) (By bs)) :
    Calls Try.prog 53 #[.slice A l c, .int .i64 n] w fun e w' =>
      (∃ A' c', e = .returned (.slice A' (l + 8) c') ∧ l + 8 ≤ c' ∧ Ow w' base 5 1 (.slice A' (l + 8) c') (By (bs ++ leI n 8))) ∧ Below base w w' := by
  unfold I64 at hn
  replace hl := hide hl
  go_enter Try.func53, Try.ntmps53
  go_wp2_with fail
  go_loopw [0, 5] (fun s0 s5 wr => ∃ (j : Nat) (A2 : Option Addr) (c2 : Nat), j ≤ 8 ∧ s5 = .int .i64 j ∧ s0 = .slice A2 (l + j) c2 ∧ l + j ≤ c2 ∧ Ow wr base 5 1 (.slice A2 (l + j) c2) (By (bs ++ leI n j)) ∧ Below base w wr) (fun _ s5 _ => 8 - (intOf s5).toNat)
  case atStart => exact ⟨0, A, c, Nat.zero_le _, rfl, rfl, hc0, by simpa [leI] using ho, Below.refl _ _⟩
  case round =>
    obtain ⟨j, A2, c2, hj, rfl, rfl, hc2, ho2, b2⟩ := hrel
    by_cases hjk : j < 8
    · have hjI : (j : Int) < 8 := by omega
      have hj0 : (0 : Int) ≤ (j : Int) := by omega
      have hbI : IntKind.u64.wrap n / 2 ^ (8 * j) % 256 = byteI n j := rfl
      have hbz := b2.size
      obtain ⟨A3, c3, w3, hrun3, ho3, hg3, hc3⟩ := run_append_by (wr.alloc (.cells #[.int .u8 (byteI n j)] 5)) base (l + j) (.slice A2 (l + j) c2) (bs ++ leI n j) [byteI n j] (ho2.alloc _) (by rw [List.length_append, leI_len, unhide hl]) wr.heap.size (wr.heap.size + 1) (some ⟨wr.heap.size, 0, none⟩) 1 1 (sl_new wr _) rfl (by have := unhide hl; omega) (by simp; omega) 47
      have b3 : Below base w w3 := below_grown (b2.alloc (by omega) _) hg3 (by simp; omega) (fun k e => ((ho2.alloc (.cells #[.int .u8 (byteI n j)] 5)).lt k e).1)
      rw [List.append_assoc, ← leI_succ] at ho3
      clear hg3 ho2 b2
      go_wp2_with (at_builtin; refine wpList_step (fun K hK => step_append_ex (o := ⟨some 19, _, _, _, _, _⟩) (.tmp 10) (.tmp 18) 47 rfl (by rfl) ⟨_, _, hrun3, hK _ _ ?_⟩))
      go_roundw
      case rel => exact ⟨j + 1, A3, c3, by omega, by go_num, rfl, hc3, ho3, b3⟩
      case measure => simp [intOf]; omega
    · obtain rfl : j = 8 := by omega
      go_wp2_with fail
      go_ret
      exact ⟨⟨A2, c2, rfl, hc2, ho2⟩, b2⟩
end Go.Proofs.Ytibileffpgnjhaa.Base
