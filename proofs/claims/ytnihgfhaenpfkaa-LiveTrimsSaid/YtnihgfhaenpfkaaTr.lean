/-
  LiveTrims: the walk of the law.
-/
import Derived.Test.YtnihgfhaenpfkaaTp
import Derived.Test.YtnihgfhaenpfkaaSe
import Derived.Lib.MinMax
namespace Go.Proofs.Ytnihgfhaenpfkaa.Base
open Go.RowKit Go.Proofs.YtnihgfhaenpfkaaW.PrintWords Go.Proofs.YtnihgfhaenpfkaaW.PrintLast
set_option linter.unusedSimpArgs false
set_option linter.unusedVariables false
attribute [local go_sem] Ent.arr0 Ent.arr1 Ent.arr2 Ent.set1 Ent.set2 Ent.arr_size Ent.okW Ent.lit run_ldV_ent run_stV_ent ldR_some stR_true rd_new_whole rd_alloc canW_new canW_alloc wr_new wr_alloc rd_drew rd_drewN canW_drew canW_drewN run_bsS_ent run_bsS_ent0 run_eqI_ent rd_setCell rd_setCell_same canW_setCell' Option.map_some cell_wr_other rd_wr_same rd_wr_other
attribute [local go_sem ↓] ldV_ent stV_ent bsS_ent eqI_ent
attribute [local go_sem] Ent.arr0g Ent.arr1g Ent.arr2g run_ldV_dat rd_dat run_eqI_dat dat_lit
attribute [local go_sem ↓] ldV_dat eqI_dat
attribute [local go_sem] run_bdE4 run_bdE3 run_bdE1 run_bdE0
attribute [local go_sem ↓] build_ent
def setD (e : Ent) (x : Int) : Ent := { e with d := fun i => if i = 0 then x else e.d i }
theorem Ent.set3 (e : Ent) (x : Int) : e.arr.setIfInBounds 3 (.int .u8 x) = (setD e x).arr := rfl
theorem Ent.arr3 (e : Ent) : e.arr[3]? = some (.int .u8 (e.d 0)) := rfl
theorem Ent.arr3g (e : Ent) (h : 3 < e.arr.size) : e.arr[3] = .int .u8 (e.d 0) := rfl
set_option maxRecDepth 100000 in
theorem run_bsS_two (w : World) (z e : Ent) : (bsS 27 2 #[(0, .agg z.arr), (1, .agg e.arr)]).run Try.prog w = .ok (.slice (some ⟨w.heap.size, 0, none⟩) 2 2) (w.alloc (.cells (z.arr ++ e.arr) 37)) := by kernel_rfl
attribute [local go_sem] Ent.set3 Ent.arr3 Ent.arr3g run_bsS_two
def zeros2 : Array Value := #[.int .i64 0, .slice none 0 0, .int .i64 0, .slice none 0 0]
theorem run_mk2 (w : World) : (Instr.makeSlice 25 (.int .i64 2) (.int .i64 2)).run Try.prog w = .ok (.slice (some ⟨w.heap.size, 0, none⟩) 2 2) (w.alloc (.cells zeros2 43)) := by kernel_rfl
attribute [local go_sem] run_mk2
/-- the i-th update of them -/
def trE (os : List Bool) (lb : Nat) (i : Nat) : Ent := if os.getD i false = true then ⟨2, lb, (i : Int) + 1, fun _ => 0⟩ else setD ⟨1, lb, (i : Int) + 1, fun _ => 0⟩ i
def wantE (E : Nat → Ent) : Nat → Ent
  | 0 => Ent.zero
  | i + 1 => E i
structure TrI (w : World) (n : Nat) (E : Nat → Ent) (BO B6 i : Nat) (S : List SupD) (W : World) : Prop where
  b : Below w.heap.size w W
  len : S.length = 2
  arr : Arr W BO 43 2 (S.map SupD.arr)
  h6 : Arr W B6 37 19 [(wantE E i).arr]
  rs : ∀ (k : Nat) (hk : k < S.length), S[k].rs.map (fun r => (r.ser, r.es)) = (JS n k i).map fun j : Nat => ((j : Int) + 1, [Ent.zero, E j])
  mem : ∀ s ∈ S, Sl W (B6 + 1) W.heap.size 3 s.A (s.rs.map RowD.arr) ∧ ∀ r ∈ s.rs, Sl W (B6 + 1) W.heap.size 19 r.A (r.es.map Ent.arr)
theorem flat_two (x y : Array Value) : (flat [x, y]).toArray = x ++ y := by
  apply Array.ext'
  simp [flat]
theorem Sl.mvb {w w' : World} {L B B' sz : Nat} {A : Option Addr} {xs : List (Array Value)} (h : Sl w L B sz A xs) (hk : ∀ j, L ≤ j → j < B → w'.heap[j]? = w.heap[j]?) (hB : B ≤ B') : Sl w' L B' sz A xs := fun hne => by
  obtain ⟨b, o, e, hL, hlt, hr⟩ := h hne
  exact ⟨b, o, e, hL, by omega, fun i hi => (rd_congr (hk b hL hlt) _ _).trans (hr i hi)⟩
theorem ow_row (w : World) (r : RowD) : Ow (w.alloc (.cells r.arr 47)) w.heap.size 47 3 (.slice (some ⟨w.heap.size, 0, none⟩) 1 1) [r.arr] :=
  ⟨rfl, .inr ⟨w.heap.size, 1, _, rfl, Nat.le_refl _, heap_alloc_new w _, Nat.le_refl _, by unfold maxLen; omega, rfl, by simp [flat, RowD.arr]⟩⟩
theorem rows_sized (rs : List RowD) : Sized 3 (rs.map RowD.arr) := fun x hx => by
  obtain ⟨r, _, rfl⟩ := List.mem_map.1 hx
  rfl
theorem rows_ones (rs : List RowD) : Ones (rs.map RowD.arr) := fun x hx v hv => by
  obtain ⟨r, _, rfl⟩ := List.mem_map.1 hx
  simp only [RowD.arr, List.mem_cons, List.not_mem_nil, or_false] at hv
  rcases hv with rfl | rfl | rfl <;> rfl
/-- what a round makes of it -/
theorem TrI.push {w : World} {n : Nat} {E : Nat → Ent} {BO B6 i : Nat} {S : List SupD} {W : World} (hI : TrI w n E BO B6 i S W) (hBO : w.heap.size ≤ BO) (h6 : BO < B6) (k : Nat) (hk : k < S.length) (hkn : k = (n - i) % 2) (at_ : Int)
    (W1 V1 V2 w4 : World) (Bs : Nat) (A4 : Option Addr) (c4 : Nat)
    (hz : W.heap.size < W1.heap.size) (h1 : ∀ j, j < W.heap.size → j ≠ B6 → W1.heap[j]? = W.heap[j]?) (h16 : Arr W1 B6 37 19 [(E i).arr]) (hb1 : Below w.heap.size w W1)
    (hV1 : V1 = W1.alloc (.cells (Ent.zero.arr ++ (E i).arr) 37)) (hBs : Bs = W1.heap.size)
    (hV2 : V2 = V1.alloc (.cells (RowD.arr ⟨(i : Int) + 1, at_, some ⟨Bs, 0, none⟩, 2, [Ent.zero, E i]⟩) 47))
    (ho4 : Ow w4 (B6 + 1) 47 3 (.slice A4 (1 + S[k].rs.length) c4) ([RowD.arr ⟨(i : Int) + 1, at_, some ⟨Bs, 0, none⟩, 2, [Ent.zero, E i]⟩] ++ S[k].rs.map RowD.arr)) (hg4 : V2.grownBy w4 (some V1.heap.size)) :
    TrI w n E BO B6 (i + 1) (S.set k ⟨S[k].st, A4, c4, ⟨(i : Int) + 1, at_, some ⟨Bs, 0, none⟩, 2, [Ent.zero, E i]⟩ :: S[k].rs⟩) (w4.setCell ⟨BO, k * 2 + 1, none⟩ (.slice A4 (1 + S[k].rs.length) c4)) := by
  have hz1 : V1.heap.size = W1.heap.size + 1 := by rw [hV1]; simp
  have hz2 : V2.heap.size = W1.heap.size + 2 := by rw [hV2]; simp [hz1]
  have hB6 := hI.h6.lt
  have hBOl := hI.arr.lt
  have hz4 := hg4.size
  have hm4 : ∀ j, j < W1.heap.size + 1 → w4.heap[j]? = V1.heap[j]? := fun j hj => (hg4.block j (by omega) (fun e => by injection e with e; omega)).trans (by rw [hV2]; exact Below.heap_alloc _ _ _ (by omega))
  have hm1 : ∀ j, j < W1.heap.size → w4.heap[j]? = W1.heap[j]? := fun j hj => (hm4 j (by omega)).trans (by rw [hV1]; exact Below.heap_alloc _ _ _ hj)
  have hmF : ∀ j, B6 + 1 ≤ j → j < W.heap.size → (w4.setCell ⟨BO, k * 2 + 1, none⟩ (.slice A4 (1 + S[k].rs.length) c4)).heap[j]? = W.heap[j]? := fun j h2 hj => (Below.heap_setCell _ _ _ _ (by show j ≠ BO; omega)).trans ((hm1 j (by omega)).trans (h1 j hj (by omega)))
  have hA4 : Arr w4 BO 43 2 (S.map SupD.arr) := hI.arr.mv ((hm1 BO (by omega)).trans (h1 BO hBOl (by omega)))
  have hes : Arr w4 Bs 37 19 [Ent.zero.arr, (E i).arr] := by
    refine ⟨(hm4 Bs (by omega)).trans ?_, fun x hx => ?_⟩
    · rw [hV1, hBs, heap_alloc_new, flat_two]
    · simp only [List.mem_cons, List.not_mem_nil, or_false] at hx
      rcases hx with rfl | rfl <;> exact Ent.arr_size _
  have hsz : (w4.setCell ⟨BO, k * 2 + 1, none⟩ (.slice A4 (1 + S[k].rs.length) c4)).heap.size = w4.heap.size := size_set' _ _ _
  have hb4 : Below w.heap.size w w4 := by
    have e1 : Below w.heap.size w V1 := by rw [hV1]; exact hb1.alloc hb1.size _
    have e2 : Below w.heap.size w V2 := by rw [hV2]; exact e1.alloc e1.size _
    exact below_grown e2 hg4 e2.size (fun g e => by injection e with e; rw [← e]; exact e1.size)
  refine ⟨hb4.setCell hBO _, by rw [List.length_set]; exact hI.len, ?_, ?_, fun k' hk' => ?_, fun s hs => ?_⟩
  · have := hA4.setCell (k := k) (m := 1) (by simpa using hk) (by omega) (.slice A4 (1 + S[k].rs.length) c4)
    simp only [List.getElem_map] at this
    rw [List.map_set]
    have e : (⟨S[k].st, A4, c4, ⟨(i : Int) + 1, at_, some ⟨Bs, 0, none⟩, 2, [Ent.zero, E i]⟩ :: S[k].rs⟩ : SupD).arr = S[k].arr.setIfInBounds 1 (.slice A4 (1 + S[k].rs.length) c4) := by simp [SupD.arr, Nat.add_comm]
    rw [e]
    exact this
  · have e6 : Arr w4 B6 37 19 [(E i).arr] := h16.mv (hm1 B6 (by omega))
    exact e6.mv (Below.heap_setCell _ _ _ _ (by show B6 ≠ BO; omega))
  · rw [List.length_set] at hk'
    rw [JS_succ]
    by_cases hkk : k = k'
    · subst hkk
      rw [List.getElem_set_self, if_pos hkn.symm, List.map_cons, List.map_cons, hI.rs k hk]
    · rw [List.getElem_set_ne hkk, if_neg (by omega), hI.rs k' hk']
  · rw [hsz]
    rcases List.mem_or_eq_of_mem_set hs with hs | hs
    · obtain ⟨m1, m2⟩ := hI.mem s hs
      exact ⟨m1.mvb hmF (by omega), fun r hr => (m2 r hr).mvb hmF (by omega)⟩
    · rw [hs]
      obtain ⟨m1, m2⟩ := hI.mem S[k] (List.getElem_mem hk)
      refine ⟨?_, fun r hr => ?_⟩
      · have hsl := ho4.sl (xs := [RowD.arr ⟨(i : Int) + 1, at_, some ⟨Bs, 0, none⟩, 2, [Ent.zero, E i]⟩] ++ S[k].rs.map RowD.arr) (fun x hx => by
          rcases List.mem_append.1 hx with h | h
          · rw [List.mem_singleton.1 h]; rfl
          · exact rows_sized _ x h) (by omega)
        exact hsl.setCell (.inl (by show BO < B6 + 1; omega)) _
      · rcases List.mem_cons.1 hr with h | h
        · rw [h]
          have := (hes.mv (w' := w4.setCell ⟨BO, k * 2 + 1, none⟩ (.slice A4 (1 + S[k].rs.length) c4)) (Below.heap_setCell _ _ _ _ (by show Bs ≠ BO; omega))).sl (L := B6 + 1) (by omega)
          rw [hsz] at this
          exact this
        · exact (m2 r h).mvb hmF (by omega)
set_option maxRecDepth 100000 in
set_option maxHeartbeats 1000000 in
theorem trims_walk (A : Option Addr) (c : Nat) (os : List Bool) (a1 : Int) (w : World) (h1 : I64 a1) (hs : Sl w 0 w.heap.size 1 A (os.map fun b => #[Value.bool b])) :
    Calls Try.prog 5 #[.slice A os.length c, .int .i64 a1] w fun x w' => x = .returned (.bool true) ∧ Below w.heap.size w w' := by
  obtain ⟨lb, hlb, hw4⟩ := w14_lt a1 4 h1 (by omega) (by omega)
  go_enter Try.func5, Try.ntmps5
  go_wp2_with fail
  refine (known14 _).mono ?_
  rintro e w1 ⟨rfl, hb1⟩
  go_wp2_with fail
  refine (hw4 _).mono ?_
  rintro e wq ⟨rfl, rfl⟩
  have hb1s := hb1.size
  obtain ⟨n, hn20, hnl, hnmin⟩ : ∃ n : Nat, n ≤ 20 ∧ n ≤ os.length ∧ min (os.length : Int) 20 = n := ⟨min os.length 20, by omega, by omega, by omega⟩
  have hnlI : (n : Int) ≤ os.length := by omega
  obtain ⟨BO, hBO⟩ : ∃ BO, BO = w1.heap.size := ⟨_, rfl⟩
  obtain ⟨E, hE⟩ : ∃ E, E = trE os lb := ⟨_, rfl⟩
  have hI0 : TrI w n E BO (BO + 1) 0 [zS, zS] ((w1.alloc (.cells zeros2 43)).alloc (.cells ({ k := 0, l := 0, s := 0, d := fun _ => 0 } : Ent).arr 37)) := by
    refine ⟨(hb1.alloc hb1s _).alloc (by simp; omega) _, rfl, ⟨(Below.heap_alloc _ _ _ (by rw [hBO]; simp)).trans (by rw [hBO]; exact heap_alloc_new _ _), fun x hx => ?_⟩, ⟨?_, fun x hx => ?_⟩, fun k hk => ?_, fun s hs => ?_⟩
    · obtain ⟨s, hs, rfl⟩ := List.mem_map.1 hx; rfl
    · rw [hBO, show w1.heap.size + 1 = (w1.alloc (.cells zeros2 43)).heap.size from by simp]
      exact (heap_alloc_new _ _).trans (by simp [flat, wantE, Ent.zero])
    · rw [List.mem_singleton.1 hx]; exact Ent.arr_size _
    · have : ([zS, zS] : List SupD)[k].rs = [] := by
        match k, hk with
        | 0, _ => rfl
        | 1, _ => rfl
      rw [this]; rfl
    · have : s = zS := by simpa using hs
      rw [this]
      exact ⟨Sl.nil, fun r hr => by simp [zS] at hr⟩
  replace hE := hide hE
  have hnm' := hide hnmin
  clear hnmin
  go_wp2_with fail
  rw [unhide hnm', ← hBO]
  replace hBO := hide hBO
  go_loopw [8] (fun s8 wr => ∃ (i : Nat) (S : List SupD), i ≤ n ∧ s8 = .int .i64 i ∧ TrI w n E BO (BO + 1) i S wr) (fun s8 _ => n - (intOf s8).toNat)
  case atStart => exact ⟨0, _, by omega, rfl, hI0⟩
  case round =>
    clear hI0
    obtain ⟨i, S, hi, rfl, hI⟩ := hrel
    have hz := hI.b.size
    by_cases hin : i < n
    · have hinI : (i : Int) < n := by omega
      have hi20 : 0 ≤ (i : Int) ∧ (i : Int) < 20 := by omega
      have hio : i < os.length := by omega
      obtain ⟨bo, oo, rfl, _, hbl, hr⟩ := hs.at_ (k := i) (by simpa using hio)
      have hos : wr.cell? ⟨bo, oo + i, none⟩ = some (.bool os[i]) := by
        have := rd_cell ((rd_below hI.b hbl _ _).trans hr) 0 (by omega)
        simpa using this
      have h6w : canW wr (BO + 1) 0 19 = true := hI.h6.canW (by simp)
      have hbo : bo < wr.heap.size := by omega
      have h6l := hI.h6.lt
      have hBOl := hI.arr.lt
      obtain ⟨k, hk⟩ : ∃ k, k = (n - i) % 2 := ⟨_, rfl⟩
      have hk2 : k < S.length := by rw [hI.len]; omega
      have hkI : ((n : Int) - (i : Int)) % 2 = (k : Int) := by omega
      obtain ⟨s, hsk⟩ : ∃ s, s = S[k] := ⟨_, rfl⟩
      have g1 : wr.cell? ⟨BO, k * 2 + 1, none⟩ = some (.slice s.A s.rs.length s.c) := by
        have := hI.arr.cell (k := k) (m := 1) (by simpa using hk2) (by omega)
        simp only [List.getElem_map, ← hsk] at this
        exact this
      have hX : E i = if os[i] = true then { k := 2, l := lb, s := (i : Int) + 1, d := fun _ => 0 } else setD { k := 1, l := lb, s := (i : Int) + 1, d := fun _ => 0 } i := by
        rw [unhide hE]
        unfold trE
        rw [List.getD_eq_getElem?_getD, List.getElem?_eq_getElem hio, Option.getD_some]
      clear hr
      replace hk := hide hk
      replace hkI := hide hkI
      replace hsk := hide hsk
      cases hob : os[i] with
      | true =>
        rw [hob] at hos
        rw [hob, if_pos rfl] at hX
        replace hX := hide hX
        replace hob := hide hob
        go_wp2_with fail
        rw [unhide hkI, ← unhide hX]
        clear hX
        have hkb1 : (k : Int) < 2 := by have := hk2; rw [hI.len] at this; omega
        have hkb0 : (0 : Int) ≤ (k : Int) := by omega
        obtain ⟨X, hXE⟩ : ∃ X, X = E i := ⟨_, rfl⟩
        rw [← hXE]
        obtain ⟨B9, hB9⟩ : ∃ B9, B9 = wr.heap.size := ⟨_, rfl⟩
        rw [← hB9]
        obtain ⟨W1, hW1⟩ : ∃ W1, W1 = ((Base.wr wr (BO + 1) 0 X.arr).alloc (.cells X.arr 37)).drew := ⟨_, rfl⟩
        have zwr : (Base.wr wr (BO + 1) 0 X.arr).heap.size = wr.heap.size := size_wr _ _ _ _
        have z1 : W1.heap.size = B9 + 1 := by rw [hW1, hB9]; simp [zwr]
        have h1j : ∀ j, j < wr.heap.size → j ≠ BO + 1 → W1.heap[j]? = wr.heap[j]? := fun j hj hn => by
          have e2 : ((Base.wr wr (BO + 1) 0 X.arr).alloc (.cells X.arr 37)).heap[j]? = (Base.wr wr (BO + 1) 0 X.arr).heap[j]? := Below.heap_alloc _ _ _ (by rw [zwr]; exact hj)
          have e3 : (Base.wr wr (BO + 1) 0 X.arr).heap[j]? = wr.heap[j]? := by unfold Base.wr; exact heap_wr_other (BO + 1) _ _ _ j hn
          rw [hW1]
          exact e2.trans e3
        have h16 : Arr W1 (BO + 1) 37 19 [X.arr] := by
          have e1 := hI.h6.wr (k := 0) (by simp) (y := X.arr) (Ent.arr_size _)
          rw [Nat.zero_mul] at e1
          have e2 : ((Base.wr wr (BO + 1) 0 X.arr).alloc (.cells X.arr 37)).heap[BO + 1]? = (Base.wr wr (BO + 1) 0 X.arr).heap[BO + 1]? := Below.heap_alloc _ _ _ (by rw [zwr]; exact h6l)
          have e3 := e1.mv e2
          rw [hW1]
          exact e3.mv rfl
        have hbw : Below w.heap.size w W1 := by
          rw [hW1]
          have e1 := below_wr hI.b (b := BO + 1) (by rw [unhide hBO]; omega) 0 X.arr
          exact (e1.alloc e1.size _).drew
        have hr9 : rd W1 B9 0 19 = some X.arr := by
          have e2 : rd ((Base.wr wr (BO + 1) 0 X.arr).alloc (.cells X.arr 37)) B9 0 19 = some X.arr := rd_new_whole _ _ _ _ _ _ (by rw [zwr]; exact hB9) (Ent.arr_size _).symm
          rw [hW1, rd_drew]
          exact e2
        have keepS : ∀ X' : World, (∀ j, j < W1.heap.size → X'.heap[j]? = W1.heap[j]?) → X'.cell? ⟨BO, k * 2 + 1, none⟩ = some (.slice s.A s.rs.length s.c) ∧ rd X' B9 0 19 = some X.arr := fun X' hX' =>
          ⟨(World.cell?_of_block (a := ⟨BO, k * 2 + 1, none⟩) ((hX' BO (by omega)).trans (h1j BO hBOl (by omega)))).trans g1, (rd_congr (hX' B9 (by omega)) _ _).trans hr9⟩
        have keep0 := keepS W1 (fun j _ => rfl)
        have hmemk := hI.mem s (by rw [unhide hsk]; exact List.getElem_mem hk2)
        have hrl : s.rs.length ≤ 20 := by
          have := congrArg List.length (hI.rs k hk2)
          rw [← unhide hsk] at this
          simp only [List.length_map] at this
          have := JS_len n k i
          omega
        obtain ⟨V1, hV1⟩ : ∃ V1, V1 = W1.alloc (.cells (Ent.zero.arr ++ X.arr) 37) := ⟨_, rfl⟩
        obtain ⟨V2, hV2⟩ : ∃ V2, V2 = V1.alloc (.cells (RowD.arr ⟨(i : Int) + 1, (i : Int) % 7, some ⟨W1.heap.size, 0, none⟩, 2, [Ent.zero, X]⟩) 47) := ⟨_, rfl⟩
        have zV1 : V1.heap.size = B9 + 2 := by rw [hV1]; simp [z1]
        have hsV : Sl V2 (BO + 2) wr.heap.size 3 s.A (s.rs.map RowD.arr) := hmemk.1.mvb (fun j h2 hj => by
          rw [hV2, hV1]
          exact (Below.heap_alloc _ _ _ (by simp [z1]; omega)).trans ((Below.heap_alloc _ _ _ (by rw [z1]; omega)).trans (h1j j hj (by omega)))) (Nat.le_refl _)
        obtain ⟨i0, hi0, hz0, hz1, hz2⟩ := info_parts info_row3
        have hown := (ow_row V1 ⟨(i : Int) + 1, (i : Int) % 7, some ⟨W1.heap.size, 0, none⟩, 2, [Ent.zero, X]⟩).less (base' := BO + 2) (by rw [zV1]; omega)
        rw [← hV2] at hown
        obtain ⟨A4, c4, w4, hrun, ho4, hg4, hc4⟩ := run_append_ow (P := Try.prog) V2 (BO + 2) 41 41 47 i0 _ 3 40 Try.underlying41 hi0 hz0 hz1 hz2 rfl (by omega) _ _ hown (BO + 2) wr.heap.size s.A s.rs.length s.c (s.rs.map RowD.arr) hsV (rows_sized _) (rows_ones _) (by simp) (by unfold maxLen; simp; omega) (by simp; omega) (by rw [hV2]; simp [zV1]; omega)
        rw [List.length_singleton] at hrun ho4 hc4
        have hpush := hI.push (by rw [unhide hBO]; omega) (by omega) k hk2 (unhide hk) ((i : Int) % 7) W1 V1 V2 w4 W1.heap.size A4 c4 (by omega) h1j (by rw [← hXE]; exact h16) hbw (by rw [← hXE]; exact hV1) rfl (by rw [← hXE]; exact hV2) (by rw [← hXE, ← unhide hsk]; exact ho4) hg4
        rw [← hXE, ← unhide hsk] at hpush
        have hm4 : w4.heap[BO]? = wr.heap[BO]? := by
          refine (hg4.block BO (by rw [hV2]; simp [zV1]; omega) (fun e => by simp [Value.ownBlock] at e; omega)).trans ?_
          rw [hV2, hV1]
          exact (Below.heap_alloc _ _ _ (by simp [z1]; omega)).trans ((Below.heap_alloc _ _ _ (by rw [z1]; omega)).trans (h1j BO hBOl (by omega)))
        have q4 : w4.cell? ⟨BO, k * 2 + 1, none⟩ = some (.slice s.A s.rs.length s.c) := (World.cell?_of_block (a := ⟨BO, k * 2 + 1, none⟩) hm4).trans g1
        have q4f : w4.frozen? ⟨BO, k * 2 + 1, none⟩ = false := (World.frozen?_of_block (a := ⟨BO, k * 2 + 1, none⟩) hm4).trans (hI.arr.frozen _)
        rw [hV2, hV1] at hrun
        have hrun : (Builtin.append_ #[41, 41] 41 #[.slice (some ⟨W1.heap.size + 1, 0, none⟩) 1 1, .slice s.A s.rs.length s.c]).run Try.prog ((W1.alloc (.cells (({ k := 0, l := 0, s := 0, d := fun _ => 0 } : Ent).arr ++ X.arr) 37)).alloc (.cells #[.int .i64 (wrap64 ((i : Int) + 1)), .int .i64 ((i : Int).tmod 7), .slice (some ⟨W1.heap.size, 0, none⟩) 2 2] 47)) = .ok (.slice A4 (1 + s.rs.length) c4) w4 := by
          rw [World.size_alloc] at hrun
          rw [show wrap64 ((i : Int) + 1) = (i : Int) + 1 from by rw [← i64_w]; exact IntWalk.i64_in ((i : Int) + 1) (by omega), Int.tmod_eq_emod_of_nonneg (by omega)]
          exact hrun
        replace hpush := hide hpush
        replace z1 := hide z1
        replace hXE := hide hXE
        replace hB9 := hide hB9
        replace zwr := hide zwr
        replace zV1 := hide zV1
        clear hown ho4 hg4 hsV hV1 hV2 hmemk hbw h16 h1j hm4 hr9
        refine start_ (n := 20) (S := fun w' => w'.cell? ⟨BO, k * 2 + 1, none⟩ = some (.slice s.A s.rs.length s.c) ∧ rd w' B9 0 19 = some X.arr) (ds := [16, 19]) #[false, false, false, false, false, false, false, false, false, false, false, false, false, false, false, false, false, false, false, false] (by kernel_rfl) rfl rfl (by rw [← hW1]; exact keep0) (fun hHeld => ?_)
        clear hHeld
        rw [← hW1]
        replace hW1 := hide hW1
        have hHeld := keep0
        refine pure_ (i := 0) (N := some 50) (v := ?_) (a' := ?_) #[true, false, false, false, false, false, false, false, false, false, false, false, false, false, false, false, false, false, false, false] rfl rfl (by kernel_rfl) (fun _ _ _ h => h) (Or.inl ⟨by rfl, ?_⟩) ?_ ?_
        rotate_left
        · intro w'
          go_simp
          with_reducible rfl
        rotate_left
        · simp only [Act.put, List.setIfInBounds_toArray, List.set_cons_zero, List.set_cons_succ, i64_w, i32_w]
          rfl
        refine pure_ (i := 1) (N := some 51) (v := ?_) (a' := ?_) #[true, true, false, false, false, false, false, false, false, false, false, false, false, false, false, false, false, false, false, false] rfl rfl (by kernel_rfl) (fun _ _ _ h => h) (Or.inl ⟨by rfl, ?_⟩) ?_ ?_
        rotate_left
        · intro w'
          go_simp
          with_reducible rfl
        rotate_left
        · simp only [Act.put, List.setIfInBounds_toArray, List.set_cons_zero, List.set_cons_succ, i64_w, i32_w]
          rfl
        refine pure_ (i := 2) (N := some 52) (v := ?_) (a' := ?_) #[true, true, true, false, false, false, false, false, false, false, false, false, false, false, false, false, false, false, false, false] rfl rfl (by kernel_rfl) (fun _ _ _ h => h) (Or.inl ⟨by rfl, ?_⟩) ?_ ?_
        rotate_left
        · intro w'
          go_simp
          with_reducible rfl
        rotate_left
        · simp only [Act.put, List.setIfInBounds_toArray, List.set_cons_zero, List.set_cons_succ, i64_w, i32_w]
          rfl
        refine pure_ (i := 3) (N := some 53) (v := ?_) (a' := ?_) #[true, true, true, true, false, false, false, false, false, false, false, false, false, false, false, false, false, false, false, false] rfl rfl (by kernel_rfl) (fun _ _ _ h => h) (Or.inl ⟨by rfl, ?_⟩) ?_ ?_
        rotate_left
        · intro w'
          go_simp
          with_reducible rfl
        rotate_left
        · simp only [Act.put, List.setIfInBounds_toArray, List.set_cons_zero, List.set_cons_succ, i64_w, i32_w]
          rfl
        refine pure_ (i := 4) (N := some 54) (v := ?_) (a' := ?_) #[true, true, true, true, true, false, false, false, false, false, false, false, false, false, false, false, false, false, false, false] rfl rfl (by kernel_rfl) (fun _ _ _ h => h) (Or.inl ⟨by rfl, ?_⟩) ?_ ?_
        rotate_left
        · intro w'
          go_simp
          with_reducible rfl
        rotate_left
        · simp only [Act.put, List.setIfInBounds_toArray, List.set_cons_zero, List.set_cons_succ, i64_w, i32_w]
          rfl
        refine pure_ (i := 5) (N := some 55) (v := ?_) (a' := ?_) #[true, true, true, true, true, true, false, false, false, false, false, false, false, false, false, false, false, false, false, false] rfl rfl (by kernel_rfl) (fun _ _ _ h => h) (Or.inl ⟨by rfl, ?_⟩) ?_ ?_
        rotate_left
        · intro w'
          go_simp
          with_reducible rfl
        rotate_left
        · simp only [Act.put, List.setIfInBounds_toArray, List.set_cons_zero, List.set_cons_succ, i64_w, i32_w]
          rfl
        refine pure_ (i := 6) (N := some 56) (v := ?_) (a' := ?_) #[true, true, true, true, true, true, true, false, false, false, false, false, false, false, false, false, false, false, false, false] rfl rfl (by kernel_rfl) (fun _ _ _ h => h) (Or.inl ⟨by rfl, ?_⟩) ?_ ?_
        rotate_left
        · intro w'
          go_simp
          with_reducible rfl
        rotate_left
        · simp only [Act.put, List.setIfInBounds_toArray, List.set_cons_zero, List.set_cons_succ, i64_w, i32_w]
          rfl
        refine take_ (i := 7) (N := some 57) (v := ?_) (a' := ?_) #[true, true, true, true, true, true, true, true, false, false, false, false, false, false, false, false, false, false, false, false] rfl rfl (by kernel_rfl) (fun _ _ _ h => h) (Or.inl ⟨by rfl, ?_⟩) hHeld ?_ ?_
        rotate_left
        · intro w' hs_; obtain ⟨s0, s1⟩ := hs_
          go_simp
          with_reducible rfl
        rotate_left
        · simp only [Act.put, List.setIfInBounds_toArray, List.set_cons_zero, List.set_cons_succ, i64_w, i32_w]
          rfl
        refine pure_ (i := 11) (N := some 61) (v := ?_) (a' := ?_) #[true, true, true, true, true, true, true, true, false, false, false, true, false, false, false, false, false, false, false, false] rfl rfl (by kernel_rfl) (fun _ _ _ h => h) (Or.inl ⟨by rfl, ?_⟩) ?_ ?_
        rotate_left
        · intro w'
          go_simp
          with_reducible rfl
        rotate_left
        · simp only [Act.put, List.setIfInBounds_toArray, List.set_cons_zero, List.set_cons_succ, i64_w, i32_w]
          rfl
        refine pure_ (i := 12) (N := some 62) (v := ?_) (a' := ?_) #[true, true, true, true, true, true, true, true, false, false, false, true, true, false, false, false, false, false, false, false] rfl rfl (by kernel_rfl) (fun _ _ _ h => h) (Or.inl ⟨by rfl, ?_⟩) ?_ ?_
        rotate_left
        · intro w'
          go_simp
          with_reducible rfl
        rotate_left
        · simp only [Act.put, List.setIfInBounds_toArray, List.set_cons_zero, List.set_cons_succ, i64_w, i32_w]
          rfl
        refine pure_ (i := 13) (N := some 63) (v := ?_) (a' := ?_) #[true, true, true, true, true, true, true, true, false, false, false, true, true, true, false, false, false, false, false, false] rfl rfl (by kernel_rfl) (fun _ _ _ h => h) (Or.inl ⟨by rfl, ?_⟩) ?_ ?_
        rotate_left
        · intro w'
          go_simp
          with_reducible rfl
        rotate_left
        · simp only [Act.put, List.setIfInBounds_toArray, List.set_cons_zero, List.set_cons_succ, i64_w, i32_w]
          rfl
        refine pure_ (i := 14) (N := some 64) (v := ?_) (a' := ?_) #[true, true, true, true, true, true, true, true, false, false, false, true, true, true, true, false, false, false, false, false] rfl rfl (by kernel_rfl) (fun _ _ _ h => h) (Or.inl ⟨by rfl, ?_⟩) ?_ ?_
        rotate_left
        · intro w'
          go_simp
          with_reducible rfl
        rotate_left
        · simp only [Act.put, List.setIfInBounds_toArray, List.set_cons_zero, List.set_cons_succ, i64_w, i32_w]
          rfl
        refine take_ (i := 15) (N := some 65) (v := ?_) (a' := ?_) #[true, true, true, true, true, true, true, true, false, false, false, true, true, true, true, true, false, false, false, false] rfl rfl (by kernel_rfl) (fun _ _ _ h => h) (Or.inl ⟨by rfl, ?_⟩) hHeld ?_ ?_
        rotate_left
        · intro w' hs_; obtain ⟨s0, s1⟩ := hs_
          go_simp
          with_reducible rfl
        rotate_left
        · simp only [Act.put, List.setIfInBounds_toArray, List.set_cons_zero, List.set_cons_succ, i64_w, i32_w]
          rfl
        refine one_ (i := 8) (N := some 58) #[true, true, true, true, true, true, true, true, true, false, false, true, true, true, true, true, false, false, false, false] rfl rfl (by kernel_rfl) (by decide) (fun K hK => ?_)
        go_simp
        refine hK.out _ _ (keepS _ (fun j hj => Below.heap_alloc _ _ _ hj)) (fun hHeld => ?_)
        clear hK K
        refine pure_ (i := 9) (N := some 59) (v := ?_) (a' := ?_) #[true, true, true, true, true, true, true, true, true, true, false, true, true, true, true, true, false, false, false, false] rfl rfl (by kernel_rfl) (fun _ _ _ h => h) (Or.inl ⟨by rfl, ?_⟩) ?_ ?_
        rotate_left
        · intro w'
          go_simp
          with_reducible rfl
        rotate_left
        · simp only [Act.put, List.setIfInBounds_toArray, List.set_cons_zero, List.set_cons_succ, i64_w, i32_w]
          rfl
        refine one_ (i := 10) (N := some 60) #[true, true, true, true, true, true, true, true, true, true, true, true, true, true, true, true, false, false, false, false] rfl rfl (by kernel_rfl) (by decide) (fun K hK => ?_)
        go_simp
        refine hK.out _ _ (keepS _ (fun j hj => (Below.heap_alloc _ _ _ (by simp; omega)).trans (Below.heap_alloc _ _ _ hj))) (fun hHeld => ?_)
        clear hK K
        refine last_ (i := 16) (N := some 66) #[true, true, true, true, true, true, true, true, true, true, true, true, true, true, true, true, true, false, false, false] rfl rfl (by kernel_rfl) (by decide) (fun K hK => ?_)
        refine step_append_ex (.tmp 60) (.tmp 65) 41 rfl (by rfl) ?_
        (with_reducible refine app_ex hrun ?_ (hK.out _ _ ?_))
        · rfl
        clear hK K hHeld
        refine norm_ (a' := ?_) ?_ ?_
        rotate_left
        · show Act.put _ (some 66) _ = _
          simp only [Act.put, List.setIfInBounds_toArray, List.set_cons_zero, List.set_cons_succ, i64_w, i32_w]
          rfl
        refine pure_ (i := 17) (N := some 67) (v := ?_) (a' := ?_) #[true, true, true, true, true, true, true, true, true, true, true, true, true, true, true, true, true, true, false, false] rfl rfl (by kernel_rfl) (fun _ _ _ h => h) (Or.inl ⟨by rfl, ?_⟩) ?_ ?_
        rotate_left
        · intro w'
          go_simp
          with_reducible rfl
        rotate_left
        · simp only [Act.put, List.setIfInBounds_toArray, List.set_cons_zero, List.set_cons_succ, i64_w, i32_w]
          rfl
        refine pure_ (i := 18) (N := some 68) (v := ?_) (a' := ?_) #[true, true, true, true, true, true, true, true, true, true, true, true, true, true, true, true, true, true, true, false] rfl rfl (by kernel_rfl) (fun _ _ _ h => h) (Or.inl ⟨by rfl, ?_⟩) ?_ ?_
        rotate_left
        · intro w'
          go_simp
          with_reducible rfl
        rotate_left
        · simp only [Act.put, List.setIfInBounds_toArray, List.set_cons_zero, List.set_cons_succ, i64_w, i32_w]
          rfl
        refine last_ (i := 19) (N := none) #[true, true, true, true, true, true, true, true, true, true, true, true, true, true, true, true, true, true, true, true] rfl rfl (by kernel_rfl) (by decide) (fun K hK => ?_)
        refine skip_ (w1 := w4.setCell ⟨BO, k * 2 + 1, none⟩ (.slice A4 (1 + s.rs.length) c4)) (by rfl) rfl (by go_simp) ?_
        refine hK.out _ _ ?_
        clear hK K
        refine done_ (by kernel_rfl) ?_
        simp only [Exit.inBlock, Exit.then]
        apply_assumption
        go_wp2_with fail
        go_roundw
        case rel => exact ⟨i + 1, _, by omega, by go_num, unhide hpush⟩
        case measure => simp [intOf]; omega
      | false =>
        rw [hob] at hos
        rw [hob, if_neg (by simp)] at hX
        replace hX := hide hX
        replace hob := hide hob
        go_wp2_with fail
        rw [unhide hkI, ← unhide hX]
        clear hX
        have hkb1 : (k : Int) < 2 := by have := hk2; rw [hI.len] at this; omega
        have hkb0 : (0 : Int) ≤ (k : Int) := by omega
        obtain ⟨X, hXE⟩ : ∃ X, X = E i := ⟨_, rfl⟩
        rw [← hXE]
        obtain ⟨B9, hB9⟩ : ∃ B9, B9 = wr.heap.size := ⟨_, rfl⟩
        rw [← hB9]
        obtain ⟨W1, hW1⟩ : ∃ W1, W1 = ((Base.wr wr (BO + 1) 0 X.arr).alloc (.cells X.arr 37)).drew := ⟨_, rfl⟩
        have zwr : (Base.wr wr (BO + 1) 0 X.arr).heap.size = wr.heap.size := size_wr _ _ _ _
        have z1 : W1.heap.size = B9 + 1 := by rw [hW1, hB9]; simp [zwr]
        have h1j : ∀ j, j < wr.heap.size → j ≠ BO + 1 → W1.heap[j]? = wr.heap[j]? := fun j hj hn => by
          have e2 : ((Base.wr wr (BO + 1) 0 X.arr).alloc (.cells X.arr 37)).heap[j]? = (Base.wr wr (BO + 1) 0 X.arr).heap[j]? := Below.heap_alloc _ _ _ (by rw [zwr]; exact hj)
          have e3 : (Base.wr wr (BO + 1) 0 X.arr).heap[j]? = wr.heap[j]? := by unfold Base.wr; exact heap_wr_other (BO + 1) _ _ _ j hn
          rw [hW1]
          exact e2.trans e3
        have h16 : Arr W1 (BO + 1) 37 19 [X.arr] := by
          have e1 := hI.h6.wr (k := 0) (by simp) (y := X.arr) (Ent.arr_size _)
          rw [Nat.zero_mul] at e1
          have e2 : ((Base.wr wr (BO + 1) 0 X.arr).alloc (.cells X.arr 37)).heap[BO + 1]? = (Base.wr wr (BO + 1) 0 X.arr).heap[BO + 1]? := Below.heap_alloc _ _ _ (by rw [zwr]; exact h6l)
          have e3 := e1.mv e2
          rw [hW1]
          exact e3.mv rfl
        have hbw : Below w.heap.size w W1 := by
          rw [hW1]
          have e1 := below_wr hI.b (b := BO + 1) (by rw [unhide hBO]; omega) 0 X.arr
          exact (e1.alloc e1.size _).drew
        have hr9 : rd W1 B9 0 19 = some X.arr := by
          have e2 : rd ((Base.wr wr (BO + 1) 0 X.arr).alloc (.cells X.arr 37)) B9 0 19 = some X.arr := rd_new_whole _ _ _ _ _ _ (by rw [zwr]; exact hB9) (Ent.arr_size _).symm
          rw [hW1, rd_drew]
          exact e2
        have keepS : ∀ X' : World, (∀ j, j < W1.heap.size → X'.heap[j]? = W1.heap[j]?) → X'.cell? ⟨BO, k * 2 + 1, none⟩ = some (.slice s.A s.rs.length s.c) ∧ rd X' B9 0 19 = some X.arr := fun X' hX' =>
          ⟨(World.cell?_of_block (a := ⟨BO, k * 2 + 1, none⟩) ((hX' BO (by omega)).trans (h1j BO hBOl (by omega)))).trans g1, (rd_congr (hX' B9 (by omega)) _ _).trans hr9⟩
        have keep0 := keepS W1 (fun j _ => rfl)
        have hmemk := hI.mem s (by rw [unhide hsk]; exact List.getElem_mem hk2)
        have hrl : s.rs.length ≤ 20 := by
          have := congrArg List.length (hI.rs k hk2)
          rw [← unhide hsk] at this
          simp only [List.length_map] at this
          have := JS_len n k i
          omega
        obtain ⟨V1, hV1⟩ : ∃ V1, V1 = W1.alloc (.cells (Ent.zero.arr ++ X.arr) 37) := ⟨_, rfl⟩
        obtain ⟨V2, hV2⟩ : ∃ V2, V2 = V1.alloc (.cells (RowD.arr ⟨(i : Int) + 1, (i : Int) % 7, some ⟨W1.heap.size, 0, none⟩, 2, [Ent.zero, X]⟩) 47) := ⟨_, rfl⟩
        have zV1 : V1.heap.size = B9 + 2 := by rw [hV1]; simp [z1]
        have hsV : Sl V2 (BO + 2) wr.heap.size 3 s.A (s.rs.map RowD.arr) := hmemk.1.mvb (fun j h2 hj => by
          rw [hV2, hV1]
          exact (Below.heap_alloc _ _ _ (by simp [z1]; omega)).trans ((Below.heap_alloc _ _ _ (by rw [z1]; omega)).trans (h1j j hj (by omega)))) (Nat.le_refl _)
        obtain ⟨i0, hi0, hz0, hz1, hz2⟩ := info_parts info_row3
        have hown := (ow_row V1 ⟨(i : Int) + 1, (i : Int) % 7, some ⟨W1.heap.size, 0, none⟩, 2, [Ent.zero, X]⟩).less (base' := BO + 2) (by rw [zV1]; omega)
        rw [← hV2] at hown
        obtain ⟨A4, c4, w4, hrun, ho4, hg4, hc4⟩ := run_append_ow (P := Try.prog) V2 (BO + 2) 41 41 47 i0 _ 3 40 Try.underlying41 hi0 hz0 hz1 hz2 rfl (by omega) _ _ hown (BO + 2) wr.heap.size s.A s.rs.length s.c (s.rs.map RowD.arr) hsV (rows_sized _) (rows_ones _) (by simp) (by unfold maxLen; simp; omega) (by simp; omega) (by rw [hV2]; simp [zV1]; omega)
        rw [List.length_singleton] at hrun ho4 hc4
        have hpush := hI.push (by rw [unhide hBO]; omega) (by omega) k hk2 (unhide hk) ((i : Int) % 7) W1 V1 V2 w4 W1.heap.size A4 c4 (by omega) h1j (by rw [← hXE]; exact h16) hbw (by rw [← hXE]; exact hV1) rfl (by rw [← hXE]; exact hV2) (by rw [← hXE, ← unhide hsk]; exact ho4) hg4
        rw [← hXE, ← unhide hsk] at hpush
        have hm4 : w4.heap[BO]? = wr.heap[BO]? := by
          refine (hg4.block BO (by rw [hV2]; simp [zV1]; omega) (fun e => by simp [Value.ownBlock] at e; omega)).trans ?_
          rw [hV2, hV1]
          exact (Below.heap_alloc _ _ _ (by simp [z1]; omega)).trans ((Below.heap_alloc _ _ _ (by rw [z1]; omega)).trans (h1j BO hBOl (by omega)))
        have q4 : w4.cell? ⟨BO, k * 2 + 1, none⟩ = some (.slice s.A s.rs.length s.c) := (World.cell?_of_block (a := ⟨BO, k * 2 + 1, none⟩) hm4).trans g1
        have q4f : w4.frozen? ⟨BO, k * 2 + 1, none⟩ = false := (World.frozen?_of_block (a := ⟨BO, k * 2 + 1, none⟩) hm4).trans (hI.arr.frozen _)
        rw [hV2, hV1] at hrun
        have hrun : (Builtin.append_ #[41, 41] 41 #[.slice (some ⟨W1.heap.size + 1, 0, none⟩) 1 1, .slice s.A s.rs.length s.c]).run Try.prog ((W1.alloc (.cells (({ k := 0, l := 0, s := 0, d := fun _ => 0 } : Ent).arr ++ X.arr) 37)).alloc (.cells #[.int .i64 (wrap64 ((i : Int) + 1)), .int .i64 ((i : Int).tmod 7), .slice (some ⟨W1.heap.size, 0, none⟩) 2 2] 47)) = .ok (.slice A4 (1 + s.rs.length) c4) w4 := by
          rw [World.size_alloc] at hrun
          rw [show wrap64 ((i : Int) + 1) = (i : Int) + 1 from by rw [← i64_w]; exact IntWalk.i64_in ((i : Int) + 1) (by omega), Int.tmod_eq_emod_of_nonneg (by omega)]
          exact hrun
        replace hpush := hide hpush
        replace z1 := hide z1
        replace hXE := hide hXE
        replace hB9 := hide hB9
        replace zwr := hide zwr
        replace zV1 := hide zV1
        clear hown ho4 hg4 hsV hV1 hV2 hmemk hbw h16 h1j hm4 hr9
        refine start_ (n := 20) (S := fun w' => w'.cell? ⟨BO, k * 2 + 1, none⟩ = some (.slice s.A s.rs.length s.c) ∧ rd w' B9 0 19 = some X.arr) (ds := [16, 19]) #[false, false, false, false, false, false, false, false, false, false, false, false, false, false, false, false, false, false, false, false] (by kernel_rfl) rfl rfl (by rw [← hW1]; exact keep0) (fun hHeld => ?_)
        clear hHeld
        rw [← hW1]
        replace hW1 := hide hW1
        have hHeld := keep0
        refine pure_ (i := 0) (N := some 50) (v := ?_) (a' := ?_) #[true, false, false, false, false, false, false, false, false, false, false, false, false, false, false, false, false, false, false, false] rfl rfl (by kernel_rfl) (fun _ _ _ h => h) (Or.inl ⟨by rfl, ?_⟩) ?_ ?_
        rotate_left
        · intro w'
          go_simp
          with_reducible rfl
        rotate_left
        · simp only [Act.put, List.setIfInBounds_toArray, List.set_cons_zero, List.set_cons_succ, i64_w, i32_w]
          rfl
        refine pure_ (i := 1) (N := some 51) (v := ?_) (a' := ?_) #[true, true, false, false, false, false, false, false, false, false, false, false, false, false, false, false, false, false, false, false] rfl rfl (by kernel_rfl) (fun _ _ _ h => h) (Or.inl ⟨by rfl, ?_⟩) ?_ ?_
        rotate_left
        · intro w'
          go_simp
          with_reducible rfl
        rotate_left
        · simp only [Act.put, List.setIfInBounds_toArray, List.set_cons_zero, List.set_cons_succ, i64_w, i32_w]
          rfl
        refine pure_ (i := 2) (N := some 52) (v := ?_) (a' := ?_) #[true, true, true, false, false, false, false, false, false, false, false, false, false, false, false, false, false, false, false, false] rfl rfl (by kernel_rfl) (fun _ _ _ h => h) (Or.inl ⟨by rfl, ?_⟩) ?_ ?_
        rotate_left
        · intro w'
          go_simp
          with_reducible rfl
        rotate_left
        · simp only [Act.put, List.setIfInBounds_toArray, List.set_cons_zero, List.set_cons_succ, i64_w, i32_w]
          rfl
        refine pure_ (i := 3) (N := some 53) (v := ?_) (a' := ?_) #[true, true, true, true, false, false, false, false, false, false, false, false, false, false, false, false, false, false, false, false] rfl rfl (by kernel_rfl) (fun _ _ _ h => h) (Or.inl ⟨by rfl, ?_⟩) ?_ ?_
        rotate_left
        · intro w'
          go_simp
          with_reducible rfl
        rotate_left
        · simp only [Act.put, List.setIfInBounds_toArray, List.set_cons_zero, List.set_cons_succ, i64_w, i32_w]
          rfl
        refine pure_ (i := 4) (N := some 54) (v := ?_) (a' := ?_) #[true, true, true, true, true, false, false, false, false, false, false, false, false, false, false, false, false, false, false, false] rfl rfl (by kernel_rfl) (fun _ _ _ h => h) (Or.inl ⟨by rfl, ?_⟩) ?_ ?_
        rotate_left
        · intro w'
          go_simp
          with_reducible rfl
        rotate_left
        · simp only [Act.put, List.setIfInBounds_toArray, List.set_cons_zero, List.set_cons_succ, i64_w, i32_w]
          rfl
        refine pure_ (i := 5) (N := some 55) (v := ?_) (a' := ?_) #[true, true, true, true, true, true, false, false, false, false, false, false, false, false, false, false, false, false, false, false] rfl rfl (by kernel_rfl) (fun _ _ _ h => h) (Or.inl ⟨by rfl, ?_⟩) ?_ ?_
        rotate_left
        · intro w'
          go_simp
          with_reducible rfl
        rotate_left
        · simp only [Act.put, List.setIfInBounds_toArray, List.set_cons_zero, List.set_cons_succ, i64_w, i32_w]
          rfl
        refine pure_ (i := 6) (N := some 56) (v := ?_) (a' := ?_) #[true, true, true, true, true, true, true, false, false, false, false, false, false, false, false, false, false, false, false, false] rfl rfl (by kernel_rfl) (fun _ _ _ h => h) (Or.inl ⟨by rfl, ?_⟩) ?_ ?_
        rotate_left
        · intro w'
          go_simp
          with_reducible rfl
        rotate_left
        · simp only [Act.put, List.setIfInBounds_toArray, List.set_cons_zero, List.set_cons_succ, i64_w, i32_w]
          rfl
        refine take_ (i := 7) (N := some 57) (v := ?_) (a' := ?_) #[true, true, true, true, true, true, true, true, false, false, false, false, false, false, false, false, false, false, false, false] rfl rfl (by kernel_rfl) (fun _ _ _ h => h) (Or.inl ⟨by rfl, ?_⟩) hHeld ?_ ?_
        rotate_left
        · intro w' hs_; obtain ⟨s0, s1⟩ := hs_
          go_simp
          with_reducible rfl
        rotate_left
        · simp only [Act.put, List.setIfInBounds_toArray, List.set_cons_zero, List.set_cons_succ, i64_w, i32_w]
          rfl
        refine pure_ (i := 11) (N := some 61) (v := ?_) (a' := ?_) #[true, true, true, true, true, true, true, true, false, false, false, true, false, false, false, false, false, false, false, false] rfl rfl (by kernel_rfl) (fun _ _ _ h => h) (Or.inl ⟨by rfl, ?_⟩) ?_ ?_
        rotate_left
        · intro w'
          go_simp
          with_reducible rfl
        rotate_left
        · simp only [Act.put, List.setIfInBounds_toArray, List.set_cons_zero, List.set_cons_succ, i64_w, i32_w]
          rfl
        refine pure_ (i := 12) (N := some 62) (v := ?_) (a' := ?_) #[true, true, true, true, true, true, true, true, false, false, false, true, true, false, false, false, false, false, false, false] rfl rfl (by kernel_rfl) (fun _ _ _ h => h) (Or.inl ⟨by rfl, ?_⟩) ?_ ?_
        rotate_left
        · intro w'
          go_simp
          with_reducible rfl
        rotate_left
        · simp only [Act.put, List.setIfInBounds_toArray, List.set_cons_zero, List.set_cons_succ, i64_w, i32_w]
          rfl
        refine pure_ (i := 13) (N := some 63) (v := ?_) (a' := ?_) #[true, true, true, true, true, true, true, true, false, false, false, true, true, true, false, false, false, false, false, false] rfl rfl (by kernel_rfl) (fun _ _ _ h => h) (Or.inl ⟨by rfl, ?_⟩) ?_ ?_
        rotate_left
        · intro w'
          go_simp
          with_reducible rfl
        rotate_left
        · simp only [Act.put, List.setIfInBounds_toArray, List.set_cons_zero, List.set_cons_succ, i64_w, i32_w]
          rfl
        refine pure_ (i := 14) (N := some 64) (v := ?_) (a' := ?_) #[true, true, true, true, true, true, true, true, false, false, false, true, true, true, true, false, false, false, false, false] rfl rfl (by kernel_rfl) (fun _ _ _ h => h) (Or.inl ⟨by rfl, ?_⟩) ?_ ?_
        rotate_left
        · intro w'
          go_simp
          with_reducible rfl
        rotate_left
        · simp only [Act.put, List.setIfInBounds_toArray, List.set_cons_zero, List.set_cons_succ, i64_w, i32_w]
          rfl
        refine take_ (i := 15) (N := some 65) (v := ?_) (a' := ?_) #[true, true, true, true, true, true, true, true, false, false, false, true, true, true, true, true, false, false, false, false] rfl rfl (by kernel_rfl) (fun _ _ _ h => h) (Or.inl ⟨by rfl, ?_⟩) hHeld ?_ ?_
        rotate_left
        · intro w' hs_; obtain ⟨s0, s1⟩ := hs_
          go_simp
          with_reducible rfl
        rotate_left
        · simp only [Act.put, List.setIfInBounds_toArray, List.set_cons_zero, List.set_cons_succ, i64_w, i32_w]
          rfl
        refine one_ (i := 8) (N := some 58) #[true, true, true, true, true, true, true, true, true, false, false, true, true, true, true, true, false, false, false, false] rfl rfl (by kernel_rfl) (by decide) (fun K hK => ?_)
        go_simp
        refine hK.out _ _ (keepS _ (fun j hj => Below.heap_alloc _ _ _ hj)) (fun hHeld => ?_)
        clear hK K
        refine pure_ (i := 9) (N := some 59) (v := ?_) (a' := ?_) #[true, true, true, true, true, true, true, true, true, true, false, true, true, true, true, true, false, false, false, false] rfl rfl (by kernel_rfl) (fun _ _ _ h => h) (Or.inl ⟨by rfl, ?_⟩) ?_ ?_
        rotate_left
        · intro w'
          go_simp
          with_reducible rfl
        rotate_left
        · simp only [Act.put, List.setIfInBounds_toArray, List.set_cons_zero, List.set_cons_succ, i64_w, i32_w]
          rfl
        refine one_ (i := 10) (N := some 60) #[true, true, true, true, true, true, true, true, true, true, true, true, true, true, true, true, false, false, false, false] rfl rfl (by kernel_rfl) (by decide) (fun K hK => ?_)
        go_simp
        refine hK.out _ _ (keepS _ (fun j hj => (Below.heap_alloc _ _ _ (by simp; omega)).trans (Below.heap_alloc _ _ _ hj))) (fun hHeld => ?_)
        clear hK K
        refine last_ (i := 16) (N := some 66) #[true, true, true, true, true, true, true, true, true, true, true, true, true, true, true, true, true, false, false, false] rfl rfl (by kernel_rfl) (by decide) (fun K hK => ?_)
        refine step_append_ex (.tmp 60) (.tmp 65) 41 rfl (by rfl) ?_
        (with_reducible refine app_ex hrun ?_ (hK.out _ _ ?_))
        · rfl
        clear hK K hHeld
        refine norm_ (a' := ?_) ?_ ?_
        rotate_left
        · show Act.put _ (some 66) _ = _
          simp only [Act.put, List.setIfInBounds_toArray, List.set_cons_zero, List.set_cons_succ, i64_w, i32_w]
          rfl
        refine pure_ (i := 17) (N := some 67) (v := ?_) (a' := ?_) #[true, true, true, true, true, true, true, true, true, true, true, true, true, true, true, true, true, true, false, false] rfl rfl (by kernel_rfl) (fun _ _ _ h => h) (Or.inl ⟨by rfl, ?_⟩) ?_ ?_
        rotate_left
        · intro w'
          go_simp
          with_reducible rfl
        rotate_left
        · simp only [Act.put, List.setIfInBounds_toArray, List.set_cons_zero, List.set_cons_succ, i64_w, i32_w]
          rfl
        refine pure_ (i := 18) (N := some 68) (v := ?_) (a' := ?_) #[true, true, true, true, true, true, true, true, true, true, true, true, true, true, true, true, true, true, true, false] rfl rfl (by kernel_rfl) (fun _ _ _ h => h) (Or.inl ⟨by rfl, ?_⟩) ?_ ?_
        rotate_left
        · intro w'
          go_simp
          with_reducible rfl
        rotate_left
        · simp only [Act.put, List.setIfInBounds_toArray, List.set_cons_zero, List.set_cons_succ, i64_w, i32_w]
          rfl
        refine last_ (i := 19) (N := none) #[true, true, true, true, true, true, true, true, true, true, true, true, true, true, true, true, true, true, true, true] rfl rfl (by kernel_rfl) (by decide) (fun K hK => ?_)
        refine skip_ (w1 := w4.setCell ⟨BO, k * 2 + 1, none⟩ (.slice A4 (1 + s.rs.length) c4)) (by rfl) rfl (by go_simp) ?_
        refine hK.out _ _ ?_
        clear hK K
        refine done_ (by kernel_rfl) ?_
        simp only [Exit.inBlock, Exit.then]
        apply_assumption
        go_wp2_with fail
        go_roundw
        case rel => exact ⟨i + 1, _, by omega, by go_num, unhide hpush⟩
        case measure => simp [intOf]; omega
    · obtain rfl : n = i := by omega
      have hEc : ∀ j : Nat, Cnt (E j) ∧ (E j).l = (lb : Int) ∧ (E j).s = (j : Int) + 1 := fun j => by
        rw [unhide hE]
        unfold trE
        split
        · exact ⟨.inr rfl, rfl, rfl⟩
        · exact ⟨.inl rfl, rfl, rfl⟩
      have hR := hI.rs
      obtain ⟨hsm, hu, hrn⟩ := tr_small hn20 hI.len hEc hR
      have hmax := tr_max hn20 hI.len hEc hR
      have hser := tr_ser hn20 hI.len hEc hR
      have hbest := tr_best hn20 hI.len hEc hR
      have hb0 : n = 0 → best lb (ups S) = none := fun h0 => by
        cases hbo : best (lb : Int) (ups S) with
        | none => rfl
        | some u =>
          obtain ⟨j, hj, _⟩ := tr_mem hn20 hI.len hEc hR (best_mem hbo).1
          omega
      have hS2 := hI.len
      have hSup : Sups wr wr.heap.size (some ⟨BO, 0, none⟩) S := ⟨hI.arr.sl (Nat.zero_le _), fun s hs => ⟨((hI.mem s hs).1).less (Nat.zero_le _), fun r hr => ((hI.mem s hs).2 r hr).less (Nat.zero_le _)⟩⟩
      have hof : Calls Try.prog 9 #[.slice (some ⟨BO, 0, none⟩) S.length 2, .int .i64 4] wr _ := of_ok (some ⟨BO, 0, none⟩) 2 S 4 wr (by omega) hsm (by omega) hSup
      have hlast := fun w3 (hb : Below wr.heap.size wr w3) => last_any (some ⟨BO, 0, none⟩) 2 S w3 hsm (by omega) ((hSup.below hb).more hb.size) hu hrn
      simp only [hmax, hser] at hlast
      simp only [hS2] at hlast
      rw [hS2] at hof
      have h6 : Base.rd wr (BO + 1) 0 19 = some (wantE E n).arr := by
        have := hI.h6.rd (k := 0) (by simp)
        simpa using this
      have h6l := hI.h6.lt
      have hb2 := hI.b
      clear hEc hR hsm hmax hser hSup hI hS2 hu hrn
      replace hbest := hide hbest
      replace hb0 := hide hb0
      obtain ⟨q1, q2, q3, q4⟩ := lists_at (n := 4) (ups S) (show lb < 4 by omega)
      obtain ⟨x, hx⟩ : ∃ x, x = wantE E n := ⟨_, rfl⟩
      rw [← hx] at h6
      replace hx := hide hx
      go_wp2_with fail
      (with_reducible refine hof.mono ?_)
      rintro e w3 ⟨⟨bo, bp, rfl, ho, hp⟩, hb3⟩
      clear hof
      go_wp2_with fail
      (with_reducible refine (hlast w3 hb3).mono ?_)
      rintro e w4 ⟨rfl, hb4⟩
      clear hlast
      have hr6 : Base.rd w4 (BO + 1) 0 19 = some x.arr := (rd_below hb4 (Nat.lt_of_lt_of_le h6l hb3.size) _ _).trans ((rd_below hb3 h6l _ _).trans h6)
      have ho4 := ho.below hb4
      have hp4 := hp.below hb4
      have hbE : Below w.heap.size w w4 := hb2.trans ((hb3.trans (hb4.mono hb3.size)).mono hb2.size)
      obtain ⟨b', o', e', _, _, hr⟩ := hp4.at_ q1
      injection e' with e'
      injection e' with e1 e2
      subst e1 e2
      rw [q3, Nat.zero_add] at hr
      obtain ⟨b', o', e', _, _, hr2⟩ := ho4.at_ q2
      injection e' with e'
      injection e' with e1 e2
      subst e1 e2
      rw [q4, Nat.zero_add] at hr2
      have d0 : w4.cell? ⟨bp, lb * 3, none⟩ = some (.int .i64 (oP (best (lb : Int) (ups S))).su) := rd_cell hr 0 (by omega)
      have d2 : w4.cell? ⟨bp, lb * 3 + 2, none⟩ = some (.int .i64 (oP (best (lb : Int) (ups S))).sl) := rd_cell hr 2 (by omega)
      clear hr q1 q2 q3 q4 ho hp ho4 hp4 h6 hb3 hb4 hb2 h6l
      have hlb0 : (0 : Int) ≤ lb := by omega
      rcases Nat.eq_zero_or_pos n with h0 | h0
      · rw [(unhide hb0) h0] at d0 d2 hr2
        change w4.cell? ⟨bp, lb * 3, none⟩ = some (.int .i64 (-1)) at d0
        change w4.cell? ⟨bp, lb * 3 + 2, none⟩ = some (.int .i64 0) at d2
        change Base.rd w4 bo (lb * 19) 19 = some ({ k := 0, l := 0, s := 0, d := fun _ => 0 } : Ent).arr at hr2
        have hx' := unhide hx
        rw [h0] at hx'
        change x = ({ k := 0, l := 0, s := 0, d := fun _ => 0 } : Ent) at hx'
        rw [hx'] at hr6
        clear hx hx' hb0 hbest
        have hnI : (n : Int) = 0 := by omega
        rw [hnI]
        have hnI' := hide hnI
        clear hnI h0
        go_wp2_with fail
        refine wp_region_quiet_lit (by kernel_rfl) (by kernel_rfl) ?_
        iterate 39 (go_big_quiet_step (fail))
        refine wpQuiet_nil ?_
        rintro _ ⟨nq, rfl⟩
        simp only [Exit.then]
        apply_assumption
        go_wp2_with fail
        go_ret
        exact ⟨rfl, hbE.trans ⟨rfl, rfl, rfl, Nat.le_refl _, fun _ _ => rfl⟩⟩
      · obtain ⟨u, hbu, hue, hsu, hsl⟩ := (unhide hbest) h0
        rw [hbu] at d0 d2 hr2
        change w4.cell? ⟨bp, lb * 3, none⟩ = some (.int .i64 u.p.su) at d0
        change w4.cell? ⟨bp, lb * 3 + 2, none⟩ = some (.int .i64 u.p.sl) at d2
        change Base.rd w4 bo (lb * 19) 19 = some u.e.arr at hr2
        rw [hsu] at d0
        rw [hsl] at d2
        have hx' : x = E (n - 1) := by
          rw [unhide hx]
          obtain ⟨m, rfl⟩ : ∃ m, n = m + 1 := ⟨n - 1, by omega⟩
          rfl
        rw [hue, ← hx'] at hr2
        clear hx hx' hb0 hbest hbu hue hsu hsl
        have z0 : ((n : Int) == 0) = false := by simp; omega
        have z1 : decide ((0 : Int) < n) = true := decide_eq_true (by omega)
        have hnI : (0 : Int) < n := by omega
        go_wp2_with fail
        refine wp_region_quiet_lit (by kernel_rfl) (by kernel_rfl) ?_
        iterate 39 (go_big_quiet_step (fail))
        refine wpQuiet_nil ?_
        rintro _ ⟨nq, rfl⟩
        simp only [Exit.then]
        apply_assumption
        go_wp2_with fail
        go_ret
        exact ⟨rfl, hbE.trans ⟨rfl, rfl, rfl, Nat.le_refl _, fun _ _ => rfl⟩⟩
end Go.Proofs.Ytnihgfhaenpfkaa.Base
