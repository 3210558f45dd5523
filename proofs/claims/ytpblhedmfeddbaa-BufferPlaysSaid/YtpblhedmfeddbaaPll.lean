/-
  BufferPlays: the walk.
-/
import Derived.Test.YtpblhedmfeddbaaKno
import Derived.Test.YtpblhedmfeddbaaLaw
import Derived.Test.YtpblhedmfeddbaaRfi
import Derived.Test.YtpblhedmfeddbaaRe
import Derived.Test.YtpblhedmfeddbaaRef
import Derived.BigQuiet
import Derived.Deep.QuietTactic
import Derived.Deep.DeepCutAuto
import Derived.Deep.RegionHeld3
import Derived.RegionTactic
import Derived.ChangeAlike
namespace Go.Proofs.Ytpblhedmfeddbaa.Base
open Go.RowKit Go.Proofs.YtpblhedmfeddbaaW.PrintWords Go.Proofs.YtpblhedmfeddbaaW.PrintLast
set_option linter.unusedSimpArgs false
set_option linter.unusedVariables false
attribute [local go_sem] Ent.arr0 Ent.arr1 Ent.arr2 Ent.set1 Ent.set2 Ent.arr_size Ent.okW Ent.lit run_ldV_ent run_stV_ent ldR_some stR_true rd_new_whole rd_alloc canW_new canW_alloc wr_new wr_alloc rd_drew rd_drewN canW_drew canW_drewN run_bsS_ent run_bsS_ent0 run_eqI_ent rd_setCell rd_setCell_same canW_setCell' Option.map_some cell_wr_other rd_wr_same rd_wr_other
attribute [local go_sem ↓] ldV_ent stV_ent bsS_ent eqI_ent

/-- a buffer's box: block g -/
def Bx (w : World) (g L : Nat) (es : List Ent) (nx : Int) : Prop :=
  ∃ (A : Option Addr) (c : Nat), es.length ≤ c ∧ w.cell? ⟨g, 0, none⟩ = some (.slice A es.length c) ∧ w.cell? ⟨g, 1, none⟩ = some (.int .i64 nx) ∧ (∀ o, w.frozen? ⟨g, o, none⟩ = false) ∧ Sl w L w.heap.size 19 A (es.map Ent.arr)
theorem Bx.below {w w' : World} {g L : Nat} {es : List Ent} {nx : Int} (h : Bx w g L es nx) (hg : g < w.heap.size) (hb : Below w.heap.size w w') : Bx w' g L es nx := by
  obtain ⟨A, c, h0, h1, h2, h3, h4⟩ := h
  exact ⟨A, c, h0, (hb.cell (p := ⟨g, 0, none⟩) hg).trans h1, (hb.cell (p := ⟨g, 1, none⟩) hg).trans h2, fun o => (hb.frozen (p := ⟨g, o, none⟩) hg).trans (h3 o), (h4.below hb).more hb.size⟩

/-- an elder buffer's box -/
def Bo (w : World) (g L : Nat) (es : List Ent) (nx : Int) : Prop :=
  ∃ (A : Option Addr) (c : Nat), es.length ≤ c ∧ w.cell? ⟨g, 0, none⟩ = some (.slice A es.length c) ∧ w.cell? ⟨g, 1, none⟩ = some (.int .i64 nx) ∧ Sl w L w.heap.size 19 A (es.map Ent.arr)
theorem Bo.below {w w' : World} {g L : Nat} {es : List Ent} {nx : Int} (h : Bo w g L es nx) (hg : g < w.heap.size) (hb : Below w.heap.size w w') : Bo w' g L es nx := by
  obtain ⟨A, c, h0, h1, h2, h4⟩ := h
  exact ⟨A, c, h0, (hb.cell (p := ⟨g, 0, none⟩) hg).trans h1, (hb.cell (p := ⟨g, 1, none⟩) hg).trans h2, (h4.below hb).more hb.size⟩
theorem size_set (w : World) (p : Addr) (v : Value) : (w.setCell p v).heap.size = w.heap.size := by simp [World.setCell]
theorem Bo.set {w : World} {g L : Nat} {es : List Ent} {nx : Int} (h : Bo w g L es nx) {p : Addr} (hp : p.block ≠ g) (hL : p.block < L) (v : Value) : Bo (w.setCell p v) g L es nx := by
  obtain ⟨A, c, h0, h1, h2, h4⟩ := h
  refine ⟨A, c, h0, (World.cell?_setCell_other _ _ _ _ (fun e => hp (by subst e; rfl))).trans h1, (World.cell?_setCell_other _ _ _ _ (fun e => hp (by subst e; rfl))).trans h2, ?_⟩
  rw [size_set]
  exact h4.setCell (.inl hL) v
theorem Bx.set {w : World} {g L : Nat} {es : List Ent} {nx : Int} (h : Bx w g L es nx) {p : Addr} (hp : p.block ≠ g) (hL : p.block < L) (v : Value) : Bx (w.setCell p v) g L es nx := by
  obtain ⟨A, c, h0, h1, h2, h3, h4⟩ := h
  refine ⟨A, c, h0, (World.cell?_setCell_other _ _ _ _ (fun e => hp (by subst e; rfl))).trans h1, (World.cell?_setCell_other _ _ _ _ (fun e => hp (by subst e; rfl))).trans h2, fun o => (World.frozen?_setCell w _ _ _).trans (h3 o), ?_⟩
  rw [size_set]
  exact h4.setCell (.inl hL) v
/-- a box that is written anew -/
theorem Bx.put {w : World} {g L : Nat} {es fs : List Ent} {nx ny : Int} {A : Option Addr} {c : Nat} (h : Bx w g L es nx) (hL : g < L) (hc : fs.length ≤ c) (hs : Sl w L w.heap.size 19 A (fs.map Ent.arr)) :
    Bx ((w.setCell ⟨g, 0, none⟩ (.slice A fs.length c)).setCell ⟨g, 1, none⟩ (.int .i64 ny)) g L fs ny := by
  obtain ⟨A', c', h0, h1, h2, h3, h4⟩ := h
  refine ⟨A, c, hc, by go_simp, by go_simp, fun o => (World.frozen?_setCell _ _ _ _).trans ((World.frozen?_setCell w _ _ _).trans (h3 o)), ?_⟩
  rw [size_set, size_set]
  exact (hs.setCell (.inl hL) _).setCell (.inl hL) _

theorem tdiv6 (C : Int) (h : -9223372036854775808 ≤ C ∧ C ≤ 9223372036854775807) : -9223372036854775808 ≤ C.tdiv 6 ∧ C.tdiv 6 ≤ 9223372036854775807 := by
  by_cases h0 : 0 ≤ C
  · rw [Int.tdiv_eq_ediv_of_nonneg h0]; omega
  · have : C.tdiv 6 = -((-C) / 6) := by rw [← Int.tdiv_eq_ediv_of_nonneg (by omega), Int.neg_tdiv, Int.neg_neg]
    rw [this]; omega
theorem radd_n (A : Option Addr) (n c : Nat) (next : Int) (w : World) (es : List Ent) (e : Ent) (hn : es.length = n) (hc : n ≤ c) (hm : n < 1000000) (hs : Sl w 0 w.heap.size 19 A (es.map Ent.arr)) (h0 : 0 ≤ next) (h1 : next < 9223372036854775807) :
    Calls Try.prog 22 #[.agg #[.slice A n c, .int .i64 next], .agg e.arr] w fun e' w' =>
      (∃ A' c', e' = .returned (.agg #[.slice A' (n + 1) c', .int .i64 (next + 1)]) ∧ n + 1 ≤ c' ∧ Sl w' w.heap.size w'.heap.size 19 A' ((es ++ [{ e with s := next }]).map Ent.arr)) ∧ Below w.heap.size w w' := by
  subst hn
  exact radd_any A c next w es e hc hm hs h0 h1
/-- both boxes written anew -/
theorem put12 {w Z : World} {B h g : Nat} {es fs : List Ent} {nx ny : Int} {A A' : Option Addr} {n c c' : Nat} (hn : fs.length = n) (hw : w.heap.size ≤ B) (hb : Below w.heap.size w Z) (hh : h < Z.heap.size) (hBh : B + 1 < h) (hBg : B + 1 < g) (h1 : Bx Z B (B + 2) es nx) (h2 : Bx Z (B + 1) (B + 2) es nx) (h3 : Bo Z h (B + 2) es nx) (h4 : Bo Z g (B + 2) es nx)
    (hc : n ≤ c) (hc' : n ≤ c') (hs : Sl Z (B + 2) Z.heap.size 19 A (fs.map Ent.arr)) (hs' : Sl Z (B + 2) Z.heap.size 19 A' (fs.map Ent.arr)) (k : Nat) (hk : n ≤ k + 1) (hy0 : 0 ≤ ny) (hy1 : ny ≤ 4611686018427387904 + ((k : Int) + 1)) :
    ∃ (es' : List Ent) (nx' : Int), es'.length ≤ k + 1 ∧ 0 ≤ nx' ∧ nx' ≤ 4611686018427387904 + ((k : Int) + 1) ∧
      Hid (Below w.heap.size w ((((Z.setCell ⟨B, 0, none⟩ (.slice A n c)).setCell ⟨B, 1, none⟩ (.int .i64 ny)).setCell ⟨B + 1, 0, none⟩ (.slice A' n c')).setCell ⟨B + 1, 1, none⟩ (.int .i64 ny))) ∧
      h < ((((Z.setCell ⟨B, 0, none⟩ (.slice A n c)).setCell ⟨B, 1, none⟩ (.int .i64 ny)).setCell ⟨B + 1, 0, none⟩ (.slice A' n c')).setCell ⟨B + 1, 1, none⟩ (.int .i64 ny)).heap.size ∧
      Hid (Bx ((((Z.setCell ⟨B, 0, none⟩ (.slice A n c)).setCell ⟨B, 1, none⟩ (.int .i64 ny)).setCell ⟨B + 1, 0, none⟩ (.slice A' n c')).setCell ⟨B + 1, 1, none⟩ (.int .i64 ny)) B (B + 2) es' nx') ∧
      Hid (Bx ((((Z.setCell ⟨B, 0, none⟩ (.slice A n c)).setCell ⟨B, 1, none⟩ (.int .i64 ny)).setCell ⟨B + 1, 0, none⟩ (.slice A' n c')).setCell ⟨B + 1, 1, none⟩ (.int .i64 ny)) (B + 1) (B + 2) es' nx') ∧
      Hid (Bo ((((Z.setCell ⟨B, 0, none⟩ (.slice A n c)).setCell ⟨B, 1, none⟩ (.int .i64 ny)).setCell ⟨B + 1, 0, none⟩ (.slice A' n c')).setCell ⟨B + 1, 1, none⟩ (.int .i64 ny)) h (B + 2) es nx) ∧
      Hid (Bo ((((Z.setCell ⟨B, 0, none⟩ (.slice A n c)).setCell ⟨B, 1, none⟩ (.int .i64 ny)).setCell ⟨B + 1, 0, none⟩ (.slice A' n c')).setCell ⟨B + 1, 1, none⟩ (.int .i64 ny)) g (B + 2) es nx) := by
  subst hn
  have L0 : B < B + 2 := by omega
  have L1 : B + 1 < B + 2 := by omega
  refine ⟨fs, ny, hk, hy0, hy1, hide ((((hb.setCell (p := ⟨B, 0, none⟩) hw _).setCell (p := ⟨B, 1, none⟩) hw _).setCell (p := ⟨B + 1, 0, none⟩) (by show _ ≤ B + 1; omega) _).setCell (p := ⟨B + 1, 1, none⟩) (by show _ ≤ B + 1; omega) _), by simp only [size_set]; exact hh, hide ?_, hide ?_, hide ?_, hide ?_⟩
  · exact ((h1.put L0 hc hs).set (p := ⟨B + 1, 0, none⟩) (by show B + 1 ≠ B; omega) L1 _).set (p := ⟨B + 1, 1, none⟩) (by show B + 1 ≠ B; omega) L1 _
  · refine ((h2.set (p := ⟨B, 0, none⟩) (by show B ≠ B + 1; omega) L0 _).set (p := ⟨B, 1, none⟩) (by show B ≠ B + 1; omega) L0 _).put L1 hc' ?_
    simp only [size_set]
    exact (hs'.setCell (.inl L0) _).setCell (.inl L0) _
  · exact (((h3.set (p := ⟨B, 0, none⟩) (by show B ≠ h; omega) L0 _).set (p := ⟨B, 1, none⟩) (by show B ≠ h; omega) L0 _).set (p := ⟨B + 1, 0, none⟩) (by show B + 1 ≠ h; omega) L1 _).set (p := ⟨B + 1, 1, none⟩) (by show B + 1 ≠ h; omega) L1 _
  · exact (((h4.set (p := ⟨B, 0, none⟩) (by show B ≠ g; omega) L0 _).set (p := ⟨B, 1, none⟩) (by show B ≠ g; omega) L0 _).set (p := ⟨B + 1, 0, none⟩) (by show B + 1 ≠ g; omega) L1 _).set (p := ⟨B + 1, 1, none⟩) (by show B + 1 ≠ g; omega) L1 _

def PlI (l : List Ent) (w : World) (B : Nat) (i : Value) (wr : World) : Prop :=
  ∃ (k : Nat) (es : List Ent) (nx : Int), k ≤ l.length ∧ i = .int .i64 k ∧ es.length ≤ k ∧ 0 ≤ nx ∧ nx ≤ 4611686018427387904 + k ∧ Below w.heap.size w wr ∧ B + 2 ≤ wr.heap.size ∧ Bx wr B (B + 2) es nx ∧ Bx wr (B + 1) (B + 2) es nx

set_option maxHeartbeats 4000000 in
set_option maxRecDepth 100000 in
theorem plays_walk (A Ac : Option Addr) (c cc : Nat) (l : List Ent) (cs : List Int) (n : Int) (w : World) (hc : l.length ≤ c) (hm : c ≤ maxLen) (hs : Sl w 0 w.heap.size 19 A (l.map Ent.arr)) (hlw : ∀ e ∈ l, e.Wf) (hnn : I64 n)
    (hcc : cs.length ≤ cc) (hcm : cc ≤ maxLen) (hcs : Sl w 0 w.heap.size 1 Ac (cs.map fun x => #[.int .i64 x])) (hwf : ∀ x ∈ cs, I64 x) :
    Calls Try.prog 6 #[.int .i64 n, .slice A l.length c, .slice Ac cs.length cc] w fun e w' => e = .returned (.bool true) ∧ Below w.heap.size w w' := by
  unfold maxLen at hm hcm
  unfold I64 at hnn
  by_cases hlen : 30 < l.length
  · go_enter Try.func6, Try.ntmps6
    go_wp2_with fail
    refine (known_any _).mono ?_
    rintro e w1 ⟨rfl, hb1⟩
    go_wp2
    go_ret
    exact ⟨rfl, hb1⟩
  · have hlen' : l.length ≤ 30 := by omega
    go_enter Try.func6, Try.ntmps6
    go_wp2_with fail
    refine (known_any _).mono ?_
    rintro e w1 ⟨rfl, hb1⟩
    go_wp2_with fail
    refine (within_any _ _ _ (by omega) (by omega) (by omega)).mono ?_
    rintro e w3 ⟨rfl, rfl⟩
    have hq1 := Int.emod_nonneg n (b := 4611686018427387904) (by omega)
    have hq2 := Int.emod_lt_of_pos n (b := 4611686018427387904) (by omega)
    generalize n % 4611686018427387904 = q at hq1 hq2 ⊢
    go_wp2_with fail
    refine (new_any _ _).mono ?_
    rintro e w2 ⟨rfl, hb2⟩
    go_wp2_with fail
    refine (rnew_any _ _).mono ?_
    rintro e w4 ⟨rfl, hb4⟩
    have hb := (hb1.trans (hb2.mono hb1.size)).trans (hb4.mono (hb1.trans (hb2.mono hb1.size)).size)
    have hwz : w.heap.size ≤ w4.heap.size := hb.size
    clear hb1 hb2 hb4
    go_wp2_with fail
    go_loopw [9, 10, 11, 12, 13, 14, 15, 16, 17, 18, 19, 20] (fun i s10 s11 s12 s13 s14 s15 s16 s17 s18 s19 s20 wr => PlI l w w4.heap.size i wr) (fun i _ _ _ _ _ _ _ _ _ _ _ _ => l.length - (intOf i).toNat)
    case atStart =>
      have z1 : w4.heap.size < (w4.alloc (Obj.cells #[Value.slice none 0 0, Value.int IntKind.i64 q] 25)).heap.size := by simp
      refine ⟨0, [], q, Nat.zero_le _, rfl, Nat.le_refl _, hq1, by omega, (hb.alloc hwz _).alloc (by simp; omega) _, by simp, ⟨none, 0, Nat.le_refl _, by go_simp, by go_simp, ?_, Sl.nil⟩, ⟨none, 0, Nat.le_refl _, by go_simp, by go_simp, ?_, Sl.nil⟩⟩
      · intro o
        exact (Below.frozen ((Below.refl (w4.heap.size + 1) _).alloc (by simp) _) (by simp)).trans (frozen_new _ _ _ _ _ rfl)
      · intro o
        exact frozen_new _ _ _ _ _ (by simp)
    case round =>
      obtain ⟨k, es, nx, hk, rfl, hek, hn0, hn1, hbr, hz, b1, b2⟩ := hrel
      by_cases hkl : k < l.length
      · obtain ⟨A1, c1, x0, x1, x2, x3, x4⟩ := b1
        obtain ⟨A2, c2, y0, y1, y2, y3, y4⟩ := b2
        have hkI : (k : Int) < l.length := by omega
        obtain ⟨b, o, rfl, _, hlt, hr⟩ := hs.at_ (k := k) (by simpa using hkl)
        simp only [List.getElem_map] at hr
        obtain ⟨x, hx⟩ : ∃ x, x = l[k] := ⟨_, rfl⟩
        rw [← hx] at hr
        have hxc : wr.cell? ⟨b, o + k * 19 + 1, none⟩ = some (.int .i64 x.l) := by
          have := rd_cell ((rd_below hbr hlt _ _).trans hr) 1 (by omega)
          rw [Ent.arr1] at this
          exact this
        have hbl : b < wr.heap.size := by have := hbr.size; omega
        have hxr : rd wr b (o + k * 19) 19 = some x.arr := (rd_below hbr hlt _ _).trans hr
        replace hxc := hide hxc
        replace hxr := hide hxr
        clear hx hr
        go_upto_if 41 with fail
        go_cut [10] (fun s10 wx => ∃ K : Int, s10 = .int .i64 K ∧ (K = 5 → k < cs.length) ∧ wr = wx)
        case first =>
          -- DONE{
          by_cases hkc : k < cs.length
          · obtain ⟨bk, ok, rfl, _, hltk, hrk⟩ := hcs.at_ (k := k) (by simpa using hkc)
            simp only [List.getElem_map] at hrk
            have hck := rd_cell ((rd_below hbr hltk _ _).trans hrk) 0 (by omega)
            simp only [Nat.mul_one, Nat.add_zero, List.getElem?_toArray, List.getElem?_cons_zero] at hck
            have hwk := hwf cs[k] (List.getElem_mem hkc)
            unfold I64 at hwk
            have hkcI : (k : Int) < cs.length := by omega
            go_wp2_with fail
            refine (within_any _ _ _ (by omega) (by omega) (by omega)).mono ?_
            rintro e w3 ⟨rfl, rfl⟩
            go_wp2_with fail
            go_meet
            exact ⟨_, rfl, fun _ => hkc, rfl⟩
          · have hkcI : ¬ (k : Int) < cs.length := by omega
            go_wp2_with fail
            go_meet
            exact ⟨0, rfl, fun h => by omega, rfl⟩
          -- }DONE
        case rest =>
          obtain ⟨K, rfl, hK5, rfl⟩ := hcut
          go_upto_region 13 with fail
          go_cut [11] (fun s11 wx => ∃ (g : Nat) (A3 : Option Addr) (c3 : Nat), s11 = .pointer (some ⟨g, 0, none⟩) ∧ g < wx.heap.size ∧ wr.heap.size ≤ g ∧ Hid (Below wr.heap.size wr wx) ∧ es.length ≤ c3 ∧ wx.cell? ⟨g, 0, none⟩ = some (.slice A3 es.length c3) ∧ wx.cell? ⟨g, 1, none⟩ = some (.int .i64 nx) ∧ Sl wx wr.heap.size wx.heap.size 19 A3 (es.map Ent.arr))
          case first =>
            -- DONE{
            have hx4 : Sl wr 0 wr.heap.size 19 A1 (es.map Ent.arr) := x4.less (Nat.zero_le _)
            have hB0 : w4.heap.size < wr.heap.size := by omega
            have keep0 : ∀ w', Below wr.heap.size wr w' → w'.cell? ⟨w4.heap.size, 0, none⟩ = some (.slice A1 es.length c1) ∧ w'.cell? ⟨w4.heap.size, 1, none⟩ = some (.int .i64 nx) := fun w' h => ⟨(h.cell (p := ⟨w4.heap.size, 0, none⟩) hB0).trans x1, (h.cell (p := ⟨w4.heap.size, 1, none⟩) hB0).trans x2⟩
            have b1 : Below wr.heap.size wr ((wr.alloc (Obj.cells #[] 29)).drew) := ((Below.refl _ _).alloc (Nat.le_refl _) _).drew
            have b2 : Below wr.heap.size wr (((wr.alloc (Obj.cells #[] 29)).alloc (Obj.cells #[.slice none 0 0, .int .i64 0] 41)).drew) := (((Below.refl _ _).alloc (Nat.le_refl _) _).alloc (by simp) _).drew
            have b3 : Below wr.heap.size wr (((wr.alloc (Obj.cells #[.slice none 0 0, .int .i64 0] 41)).alloc (Obj.cells #[] 29)).drew) := (((Below.refl _ _).alloc (Nat.le_refl _) _).alloc (by simp) _).drew
            have o1 : Ow ((wr.alloc (Obj.cells #[] 29)).drew) wr.heap.size 29 19 (.slice (some ⟨wr.heap.size, 0, none⟩) 0 0) (([] : List Ent).map Ent.arr) := (Ow.empty wr 29 19).drew
            have o2 : Ow (((wr.alloc (Obj.cells #[] 29)).alloc (Obj.cells #[.slice none 0 0, .int .i64 0] 41)).drew) wr.heap.size 29 19 (.slice (some ⟨wr.heap.size, 0, none⟩) 0 0) (([] : List Ent).map Ent.arr) := ((Ow.empty wr 29 19).alloc _).drew
            have o3 : Ow (((wr.alloc (Obj.cells #[.slice none 0 0, .int .i64 0] 41)).alloc (Obj.cells #[] 29)).drew) wr.heap.size 29 19 (.slice (some ⟨wr.heap.size + 1, 0, none⟩) 0 0) (([] : List Ent).map Ent.arr) := Ow.less (base := (wr.alloc (Obj.cells #[.slice none 0 0, .int .i64 0] 41)).heap.size) (by have h := (Ow.empty (wr.alloc (Obj.cells #[.slice none 0 0, .int .i64 0] 41)) 29 19).drew; simpa using h) (by simp)
            have h2 : (((wr.alloc (Obj.cells #[] 29)).alloc (Obj.cells #[.slice none 0 0, .int .i64 0] 41)).drew).heap[wr.heap.size + 1]? = some (.cells #[.slice none 0 0, .int .i64 0] 41 (0, 0)) := by
              rw [show wr.heap.size + 1 = (wr.alloc (Obj.cells #[] 29)).heap.size from by simp]
              exact blk_drew (heap_alloc_new _ _)
            have h3 : (((wr.alloc (Obj.cells #[.slice none 0 0, .int .i64 0] 41)).alloc (Obj.cells #[] 29)).drew).heap[wr.heap.size]? = some (.cells #[.slice none 0 0, .int .i64 0] 41 (0, 0)) := blk_drew (blk_alloc (heap_alloc_new wr _) _)
            have z2 : (((wr.alloc (Obj.cells #[] 29)).alloc (Obj.cells #[.slice none 0 0, .int .i64 0] 41)).drew).heap.size = wr.heap.size + 2 := by show ((wr.alloc _).alloc _).heap.size = _; simp
            have z3 : (((wr.alloc (Obj.cells #[.slice none 0 0, .int .i64 0] 41)).alloc (Obj.cells #[] 29)).drew).heap.size = wr.heap.size + 2 := by show ((wr.alloc _).alloc _).heap.size = _; simp
            replace b1 := hide b1; replace b2 := hide b2; replace b3 := hide b3; replace o1 := hide o1; replace o2 := hide o2; replace o3 := hide o3; replace h2 := hide h2; replace h3 := hide h3; replace z2 := hide z2; replace z3 := hide z3
            go_region_held3 (fun w' => w'.cell? ⟨w4.heap.size, 0, none⟩ = some (.slice A1 es.length c1) ∧ w'.cell? ⟨w4.heap.size, 1, none⟩ = some (.int .i64 nx))
              (first | with_reducible exact keep0 _ (Below.refl _ _).drew | with_reducible exact keep0 _ (unhide b1) | with_reducible exact keep0 _ (unhide b2) | with_reducible exact keep0 _ (unhide b3) | with_reducible exact keep0 _ ((Below.refl _ _).alloc (Nat.le_refl _) _).drew | with_reducible exact keep0 _ b5 | with_reducible exact keep0 _ (b5.alloc b5.size _) | with_reducible exact keep0 _ ((b5.setCell (p := ⟨wr.heap.size + 1, 0, none⟩) (Nat.le_succ _) _).setCell (p := ⟨wr.heap.size + 1, 1, none⟩) (Nat.le_succ _) _) | with_reducible exact keep0 _ ((b5.setCell (p := ⟨wr.heap.size, 0, none⟩) (Nat.le_refl _) _).setCell (p := ⟨wr.heap.size, 1, none⟩) (Nat.le_refl _) _))
              (first
                | (refine step_append_ex (o := ⟨some 50, _, _, _, _, _⟩) (.tmp 47) (.tmp 49) 22 rfl (by rfl) ?_; obtain ⟨A5, c5, w5, hrun, ho5, hg5, hc5⟩ := run_append_ents _ wr.heap.size 0 _ [] es (unhide o1) rfl 0 wr.heap.size A1 es.length c1 (hx4.below (unhide b1)) rfl (by omega) (unhide b1).size 22; rw [Nat.zero_add] at hrun ho5 hc5; rw [List.nil_append] at ho5; (with_reducible refine app_ex hrun ?_ ?_); rfl; clear hrun; have b5 : Below wr.heap.size wr w5 := below_grown (unhide b1) hg5 (unhide b1).size (fun k e => ((unhide o1).lt k e).1))
                | (refine step_append_ex (o := ⟨some 50, _, _, _, _, _⟩) (.tmp 47) (.tmp 49) 22 rfl (by rfl) ?_; obtain ⟨A5, c5, w5, hrun, ho5, hg5, hc5⟩ := run_append_ents _ wr.heap.size 0 _ [] es (unhide o2) rfl 0 wr.heap.size A1 es.length c1 (hx4.below (unhide b2)) rfl (by omega) (unhide b2).size 22; rw [Nat.zero_add] at hrun ho5 hc5; rw [List.nil_append] at ho5; (with_reducible refine app_ex hrun ?_ ?_); rfl; clear hrun; have b5 : Below wr.heap.size wr w5 := below_grown (unhide b2) hg5 (unhide b2).size (fun k e => ((unhide o2).lt k e).1); have q5 := hide ((hg5.block (wr.heap.size + 1) (by rw [unhide z2]; omega) (fun e => by simp [Value.ownBlock] at e)).trans (unhide h2)); have q6 := (blk_cell (unhide q5) 0).trans rfl; have q7 := (blk_cell (unhide q5) 1).trans rfl; have q8 := fun o => blk_frozen (unhide q5) o)
                | (refine step_append_ex (o := ⟨some 50, _, _, _, _, _⟩) (.tmp 47) (.tmp 49) 22 rfl (by rfl) ?_; obtain ⟨A5, c5, w5, hrun, ho5, hg5, hc5⟩ := run_append_ents _ wr.heap.size 0 _ [] es (unhide o3) rfl 0 wr.heap.size A1 es.length c1 (hx4.below (unhide b3)) rfl (by omega) (unhide b3).size 22; rw [Nat.zero_add] at hrun ho5 hc5; rw [List.nil_append] at ho5; (with_reducible refine app_ex hrun ?_ ?_); rfl; clear hrun; have b5 : Below wr.heap.size wr w5 := below_grown (unhide b3) hg5 (unhide b3).size (fun k e => ((unhide o3).lt k e).1); have q5 := hide ((hg5.block wr.heap.size (by rw [unhide z3]; omega) (fun e => by simp [Value.ownBlock] at e)).trans (unhide h3)); have q6 := (blk_cell (unhide q5) 0).trans rfl; have q7 := (blk_cell (unhide q5) 1).trans rfl; have q8 := fun o => blk_frozen (unhide q5) o))
            all_goals
              go_wp2_with fail
              go_meet
              first
                | exact ⟨w5.heap.size, A5, c5, rfl, by simp, b5.size, hide (b5.alloc b5.size _), hc5, by go_simp, by go_simp, ((ho5.sl (Ent.sized _) (by omega)).alloc (Nat.le_refl _) _).more (by simp)⟩
                | exact ⟨wr.heap.size + 1, A5, c5, rfl, by have := hg5.size; rw [unhide z2] at this; simp [World.setCell]; omega, Nat.le_succ _, hide ((b5.setCell (p := ⟨wr.heap.size + 1, 0, none⟩) (Nat.le_succ _) _).setCell (p := ⟨wr.heap.size + 1, 1, none⟩) (Nat.le_succ _) _), hc5, by go_simp, by go_simp, ((ho5.set_other (p := ⟨wr.heap.size + 1, 0, none⟩) (unhide q5) (by decide) (.slice A5 es.length c5)).set_other (p := ⟨wr.heap.size + 1, 1, none⟩) (blk_set (unhide q5) 0 _) (by decide) (.int .i64 nx)).sl (Ent.sized _) (by omega)⟩
                | exact ⟨wr.heap.size, A5, c5, rfl, by have := hg5.size; rw [unhide z3] at this; simp [World.setCell]; omega, Nat.le_refl _, hide ((b5.setCell (p := ⟨wr.heap.size, 0, none⟩) (Nat.le_refl _) _).setCell (p := ⟨wr.heap.size, 1, none⟩) (Nat.le_refl _) _), hc5, by go_simp, by go_simp, ((ho5.set_other (p := ⟨wr.heap.size, 0, none⟩) (unhide q5) (by decide) (.slice A5 es.length c5)).set_other (p := ⟨wr.heap.size, 1, none⟩) (blk_set (unhide q5) 0 _) (by decide) (.int .i64 nx)).sl (Ent.sized _) (by omega)⟩
            -- }DONE
          case rest =>
            obtain ⟨g, A3, c3, rfl, hgl, hgr, hbc, hc3, t0, t1, t2⟩ := hcut
            have hB0 : w4.heap.size < wr.heap.size := by omega
            have hB1 : w4.heap.size + 1 < wr.heap.size := by omega
            have u1 := ((unhide hbc).cell (p := ⟨w4.heap.size, 0, none⟩) hB0).trans x1
            have u2 := ((unhide hbc).cell (p := ⟨w4.heap.size, 1, none⟩) hB0).trans x2
            go_upto_region 15 with fail
            obtain ⟨W, hW⟩ : ∃ W, wc.alloc (Obj.cells #[Value.slice A1 es.length c1, Value.int IntKind.i64 nx] 25) = W := ⟨_, rfl⟩
            obtain ⟨h, hh⟩ : ∃ h, wc.heap.size = h := ⟨_, rfl⟩
            rw [hW, hh]
            have bW : Below wr.heap.size wr W := by rw [← hW]; exact (unhide hbc).alloc (unhide hbc).size _
            have v0 : W.cell? ⟨h, 0, none⟩ = some (.slice A1 es.length c1) := by rw [← hW, ← hh]; clear hW hh; go_simp
            have v1 : W.cell? ⟨h, 1, none⟩ = some (.int .i64 nx) := by rw [← hW, ← hh]; clear hW hh; go_simp
            have v2 : W.cell? ⟨g, 0, none⟩ = some (.slice A3 es.length c3) := by rw [← hW]; exact (World.cell?_alloc_lt wc _ _ hgl).trans t0
            have v3 : W.cell? ⟨g, 1, none⟩ = some (.int .i64 nx) := by rw [← hW]; exact (World.cell?_alloc_lt wc _ _ hgl).trans t1
            have v4 : Sl W wr.heap.size W.heap.size 19 A3 (es.map Ent.arr) := by rw [← hW]; exact (t2.alloc (Nat.le_refl _) _).more (by simp)
            have hhl : h < W.heap.size := by rw [← hW, ← hh]; simp
            have hgh : g < h := by rw [← hh]; exact hgl
            have hcz := (unhide hbc).size
            rw [hh] at hcz
            clear hW hh hbc t0 t1 t2 u1 u2 hgl
            have hlz : wr.heap.size ≤ W.heap.size := bW.size
            have u0 : W.cell? ⟨w4.heap.size, 0, none⟩ = some (.slice A1 es.length c1) := (bW.cell (p := ⟨w4.heap.size, 0, none⟩) hB0).trans x1
            have u1 : W.cell? ⟨w4.heap.size, 1, none⟩ = some (.int .i64 nx) := (bW.cell (p := ⟨w4.heap.size, 1, none⟩) hB0).trans x2
            have u2 : W.cell? ⟨w4.heap.size + 1, 0, none⟩ = some (.slice A2 es.length c2) := (bW.cell (p := ⟨w4.heap.size + 1, 0, none⟩) hB1).trans y1
            have u3 : W.cell? ⟨w4.heap.size + 1, 1, none⟩ = some (.int .i64 nx) := (bW.cell (p := ⟨w4.heap.size + 1, 1, none⟩) hB1).trans y2
            have u4 : Sl W (w4.heap.size + 2) W.heap.size 19 A1 (es.map Ent.arr) := (x4.below bW).more hlz
            have u5 : Sl W (w4.heap.size + 2) W.heap.size 19 A2 (es.map Ent.arr) := (y4.below bW).more hlz
            have u6 := (bW.cell (p := ⟨b, o + k * 19 + 1, none⟩) hbl).trans (unhide hxc)
            have hbW : Below w.heap.size w W := hbr.trans (bW.mono hbr.size)
            have hBW0 : w4.heap.size < W.heap.size := by omega
            have hBW1 : w4.heap.size + 1 < W.heap.size := by omega
            have hbWl : b < W.heap.size := by omega
            have hei : es.length ≤ 30 := by omega
            obtain ⟨r, hr⟩ : ∃ r, findE es x.l = r := ⟨_, rfl⟩
            go_cut [13, 14] (fun s13 s14 wx => ∃ ge : Nat, s13 = .pointer (some ⟨ge, 0, none⟩) ∧ s14 = .bool r.2 ∧ W.heap.size ≤ ge ∧ ge < wx.heap.size ∧ Hid (Below W.heap.size W wx) ∧ rd wx ge 0 19 = some r.1.arr)
            case first =>
              -- DONE{
              have keep0 : ∀ w', Below W.heap.size W w' → w'.cell? ⟨w4.heap.size, 0, none⟩ = some (.slice A1 es.length c1) ∧ w'.cell? ⟨w4.heap.size, 1, none⟩ = some (.int .i64 nx) ∧ w'.cell? ⟨b, o + k * 19 + 1, none⟩ = some (.int .i64 x.l) := fun w' h => ⟨(h.cell (p := ⟨w4.heap.size, 0, none⟩) hBW0).trans u0, (h.cell (p := ⟨w4.heap.size, 1, none⟩) hBW0).trans u1, (h.cell (p := ⟨b, o + k * 19 + 1, none⟩) hbWl).trans u6⟩
              have g4 : Sl W.drew 0 W.drew.heap.size 19 A1 (es.map Ent.arr) := u4.less (Nat.zero_le _)
              have g5 : Sl (W.alloc (Obj.cells ({ k := 0, l := 0, s := 0, d := fun _ => 0 } : Ent).arr 29)).drew 0 (W.alloc (Obj.cells ({ k := 0, l := 0, s := 0, d := fun _ => 0 } : Ent).arr 29)).drew.heap.size 19 A1 (es.map Ent.arr) := by
                have := (g4.alloc (Nat.le_refl _) (Obj.cells ({ k := 0, l := 0, s := 0, d := fun _ => 0 } : Ent).arr 29)).more (B' := (W.alloc (Obj.cells ({ k := 0, l := 0, s := 0, d := fun _ => 0 } : Ent).arr 29)).drew.heap.size) (by simp)
                exact this
              have hlZ : W.heap.size < (W.alloc (Obj.cells ({ k := 0, l := 0, s := 0, d := fun _ => 0 } : Ent).arr 29)).drew.heap.size := by simp
              have hcZ : canW (W.alloc (Obj.cells ({ k := 0, l := 0, s := 0, d := fun _ => 0 } : Ent).arr 29)).drew W.heap.size 0 19 = true := canW_new _ _ _ _ _ _ rfl (by simp [Ent.arr_size])
              have hbZ : Below W.heap.size W (W.alloc (Obj.cells ({ k := 0, l := 0, s := 0, d := fun _ => 0 } : Ent).arr 29)).drew := ((Below.refl _ _).alloc (Nat.le_refl _) _).drew
              have hf1 := (find_n A1 _ c1 nx x.l _ es rfl (by omega) g4)
              have hf2 := (find_n A1 _ c1 nx x.l _ es rfl (by omega) g5)
              rw [hr] at hf1 hf2
              replace hcZ := hide hcZ
              replace hf1 := hide hf1
              replace hf2 := hide hf2
              clear v0 v1 v2 v3 u2 u3 x0 x1 x2 x3 y0 y1 y2 y3
              go_region_held3 (fun w' => w'.cell? ⟨w4.heap.size, 0, none⟩ = some (.slice A1 es.length c1) ∧ w'.cell? ⟨w4.heap.size, 1, none⟩ = some (.int .i64 nx) ∧ w'.cell? ⟨b, o + k * 19 + 1, none⟩ = some (.int .i64 x.l))
                (first | with_reducible exact keep0 _ hbb | with_reducible exact keep0 _ (below_wr hbb (Nat.le_refl _) _ _) | with_reducible exact keep0 _ hbZ | with_reducible exact keep0 _ (Below.refl _ _).drew | with_reducible exact keep0 _ (hbb.alloc hbb.size _))
                (first | (go_at_call 14; (with_reducible refine (unhide hf1).mono ?_); rintro e w6 ⟨rfl, hb6⟩; have hbb : Below W.heap.size W w6 := Below.trans (Below.drew (Below.refl W.heap.size W)) hb6) | (go_at_call 14; (with_reducible refine (unhide hf2).mono ?_); rintro e w6 ⟨rfl, hb6⟩; have hbb : Below W.heap.size W w6 := Below.trans hbZ (hb6.mono (Nat.le_of_lt hlZ)); have hcw : canW w6 W.heap.size 0 19 = true := (canW_below hb6 hlZ _ _).trans (unhide hcZ)))
              all_goals
                go_wp2_with fail
                go_meet
                first
                  | (refine ⟨w6.heap.size, by with_reducible rfl, rfl, ?_, ?_, ?_, ?_⟩; exact hbb.size; simp; exact hide (hbb.alloc hbb.size _); exact rd_new_whole _ _ _ _ _ _ rfl (Ent.arr_size _).symm)
                  | (refine ⟨W.heap.size, by with_reducible rfl, rfl, ?_, ?_, ?_, ?_⟩; exact Nat.le_refl _; rw [size_wr]; exact Nat.lt_of_lt_of_le hlZ hb6.size; exact hide (below_wr hbb (Nat.le_refl _) _ _); exact rd_wr_same _ _ _ _ _ (Ent.arr_size _).symm hcw)
              -- }DONE
            case rest =>
              obtain ⟨ge, rfl, rfl, hge0, hge1, hbV, hge⟩ := hcut
              obtain ⟨V, rfl⟩ : ∃ V, V = wc := ⟨_, rfl⟩
              have hVz := (unhide hbV).size
              have p2 := ((unhide hbV).cell (p := ⟨w4.heap.size + 1, 0, none⟩) hBW1).trans u2
              have p3 := ((unhide hbV).cell (p := ⟨w4.heap.size + 1, 1, none⟩) hBW1).trans u3
              have p5 : Sl V (w4.heap.size + 2) V.heap.size 19 A2 (es.map Ent.arr) := (u5.below (unhide hbV)).more hVz
              have p6 := ((unhide hbV).cell (p := ⟨b, o + k * 19 + 1, none⟩) hbWl).trans u6
              have hBV1 : w4.heap.size + 1 < V.heap.size := by omega
              have hbVl : b < V.heap.size := by omega
              have hve := hge
              replace hge := hide hge
              go_upto_region 16 with fail
              go_cut [15, 16] (fun s15 s16 wx => ∃ ge : Nat, s15 = .pointer (some ⟨ge, 0, none⟩) ∧ s16 = .bool r.2 ∧ V.heap.size ≤ ge ∧ ge < wx.heap.size ∧ Hid (Below V.heap.size V wx) ∧ rd wx ge 0 19 = some r.1.arr)
              case first =>
                -- DONE{
                have keep0 : ∀ w', Below V.heap.size V w' → w'.cell? ⟨w4.heap.size + 1, 0, none⟩ = some (.slice A2 es.length c2) ∧ w'.cell? ⟨w4.heap.size + 1, 1, none⟩ = some (.int .i64 nx) ∧ w'.cell? ⟨b, o + k * 19 + 1, none⟩ = some (.int .i64 x.l) := fun w' h => ⟨(h.cell (p := ⟨w4.heap.size + 1, 0, none⟩) hBV1).trans p2, (h.cell (p := ⟨w4.heap.size + 1, 1, none⟩) hBV1).trans p3, (h.cell (p := ⟨b, o + k * 19 + 1, none⟩) hbVl).trans p6⟩
                have g4 : Sl V.drew 0 V.drew.heap.size 19 A2 (es.map Ent.arr) := p5.less (Nat.zero_le _)
                have g5 : Sl (V.alloc (Obj.cells ({ k := 0, l := 0, s := 0, d := fun _ => 0 } : Ent).arr 29)).drew 0 (V.alloc (Obj.cells ({ k := 0, l := 0, s := 0, d := fun _ => 0 } : Ent).arr 29)).drew.heap.size 19 A2 (es.map Ent.arr) := by
                  have := (g4.alloc (Nat.le_refl _) (Obj.cells ({ k := 0, l := 0, s := 0, d := fun _ => 0 } : Ent).arr 29)).more (B' := (V.alloc (Obj.cells ({ k := 0, l := 0, s := 0, d := fun _ => 0 } : Ent).arr 29)).drew.heap.size) (by simp)
                  exact this
                have hlZ : V.heap.size < (V.alloc (Obj.cells ({ k := 0, l := 0, s := 0, d := fun _ => 0 } : Ent).arr 29)).drew.heap.size := by simp
                have hcZ : canW (V.alloc (Obj.cells ({ k := 0, l := 0, s := 0, d := fun _ => 0 } : Ent).arr 29)).drew V.heap.size 0 19 = true := canW_new _ _ _ _ _ _ rfl (by simp [Ent.arr_size])
                have hbZ : Below V.heap.size V (V.alloc (Obj.cells ({ k := 0, l := 0, s := 0, d := fun _ => 0 } : Ent).arr 29)).drew := ((Below.refl _ _).alloc (Nat.le_refl _) _).drew
                have hf1 := (rfind_n A2 _ c2 nx x.l _ es rfl (by omega) g4)
                have hf2 := (rfind_n A2 _ c2 nx x.l _ es rfl (by omega) g5)
                rw [hr] at hf1 hf2
                replace hcZ := hide hcZ
                replace hf1 := hide hf1
                replace hf2 := hide hf2
                clear v0 v1 v2 v3 u0 u1 u2 u3 x0 x1 x2 x3 y0 y1 y2 y3 hge hve
                go_region_held3 (fun w' => w'.cell? ⟨w4.heap.size + 1, 0, none⟩ = some (.slice A2 es.length c2) ∧ w'.cell? ⟨w4.heap.size + 1, 1, none⟩ = some (.int .i64 nx) ∧ w'.cell? ⟨b, o + k * 19 + 1, none⟩ = some (.int .i64 x.l))
                  (first | with_reducible exact keep0 _ hbb | with_reducible exact keep0 _ (below_wr hbb (Nat.le_refl _) _ _) | with_reducible exact keep0 _ hbZ | with_reducible exact keep0 _ (Below.refl _ _).drew | with_reducible exact keep0 _ (hbb.alloc hbb.size _))
                  (first | (go_at_call 20; (with_reducible refine (unhide hf1).mono ?_); rintro e w6 ⟨rfl, hb6⟩; have hbb : Below V.heap.size V w6 := Below.trans (Below.drew (Below.refl V.heap.size V)) hb6) | (go_at_call 20; (with_reducible refine (unhide hf2).mono ?_); rintro e w6 ⟨rfl, hb6⟩; have hbb : Below V.heap.size V w6 := Below.trans hbZ (hb6.mono (Nat.le_of_lt hlZ)); have hcw : canW w6 V.heap.size 0 19 = true := (canW_below hb6 hlZ _ _).trans (unhide hcZ)))
                all_goals
                  go_wp2_with fail
                  go_meet
                  first
                    | (refine ⟨w6.heap.size, by with_reducible rfl, rfl, ?_, ?_, ?_, ?_⟩; exact hbb.size; simp; exact hide (hbb.alloc hbb.size _); exact rd_new_whole _ _ _ _ _ _ rfl (Ent.arr_size _).symm)
                    | (refine ⟨V.heap.size, by with_reducible rfl, rfl, ?_, ?_, ?_, ?_⟩; exact Nat.le_refl _; rw [size_wr]; exact Nat.lt_of_lt_of_le hlZ hb6.size; exact hide (below_wr hbb (Nat.le_refl _) _ _); exact rd_wr_same _ _ _ _ _ (Ent.arr_size _).symm hcw)
                -- }DONE
              case rest =>
                obtain ⟨gf, rfl, rfl, hgf0, hgf1, hbX, hgf⟩ := hcut
                obtain ⟨X, rfl⟩ : ∃ X, X = wc := ⟨_, rfl⟩
                have hXz := (unhide hbX).size
                have bVX : Below W.heap.size W X := (unhide hbV).trans ((unhide hbX).mono hVz)
                have ex1 := (rd_below (unhide hbX) hge1 0 19).trans hve
                have X1 : Bx X w4.heap.size (w4.heap.size + 2) es nx := ⟨A1, c1, x0, (bVX.cell (p := ⟨w4.heap.size, 0, none⟩) hBW0).trans u0, (bVX.cell (p := ⟨w4.heap.size, 1, none⟩) hBW0).trans u1, fun o => (bVX.frozen (p := ⟨w4.heap.size, o, none⟩) hBW0).trans ((bW.frozen (p := ⟨w4.heap.size, o, none⟩) hB0).trans (x3 o)), (u4.below bVX).more bVX.size⟩
                have X2 : Bx X (w4.heap.size + 1) (w4.heap.size + 2) es nx := ⟨A2, c2, y0, (bVX.cell (p := ⟨w4.heap.size + 1, 0, none⟩) hBW1).trans u2, (bVX.cell (p := ⟨w4.heap.size + 1, 1, none⟩) hBW1).trans u3, fun o => (bVX.frozen (p := ⟨w4.heap.size + 1, o, none⟩) hBW1).trans ((bW.frozen (p := ⟨w4.heap.size + 1, o, none⟩) hB1).trans (y3 o)), (u5.below bVX).more bVX.size⟩
                have X3 : Bo X h (w4.heap.size + 2) es nx := Bo.below ⟨A1, c1, x0, v0, v1, u4⟩ hhl bVX
                have hgW : g < W.heap.size := by omega
                have X4 : Bo X g (w4.heap.size + 2) es nx := Bo.below ⟨A3, c3, hc3, v2, v3, v4.less (by omega)⟩ hgW bVX
                have hXr : rd X b (o + k * 19) 19 = some x.arr := (rd_below bVX hbWl _ _).trans ((rd_below bW hbl _ _).trans (unhide hxr))
                have hbX' : Below w.heap.size w X := hbW.trans (bVX.mono hbW.size)
                have hXh : h < X.heap.size := Nat.lt_of_lt_of_le hhl bVX.size
                have hXB : w4.heap.size + 1 < X.heap.size := Nat.lt_of_lt_of_le hBW1 bVX.size
                have hXb : b < X.heap.size := Nat.lt_of_lt_of_le hbWl bVX.size
                have hBh : w4.heap.size + 1 < h := by omega
                have hBg : w4.heap.size + 1 < g := by omega
                replace X1 := hide X1; replace X2 := hide X2; replace X3 := hide X3; replace X4 := hide X4; replace hXr := hide hXr
                clear v0 v1 v2 v3 v4 u0 u1 u2 u3 u4 u5 u6 x0 x1 x2 x3 x4 y0 y1 y2 y3 y4 p2 p3 p5 p6 hve hge hbV hbX hge0 hge1 hVz hXz hgf0 hgf1 bW bVX hbW hr hxc hxr hBW0 hBW1 hbWl hB0 hB1 hbl hBV1 hbVl hbr hgr hcz hlz hgW hhl
                go_upto_if 84 with fail
                go_cut [17] (fun s17 wx => ∃ (es' : List Ent) (nx' : Int), es'.length ≤ k + 1 ∧ 0 ≤ nx' ∧ nx' ≤ 4611686018427387904 + (k + 1) ∧ Hid (Below w.heap.size w wx) ∧ h < wx.heap.size ∧ Hid (Bx wx w4.heap.size (w4.heap.size + 2) es' nx') ∧ Hid (Bx wx (w4.heap.size + 1) (w4.heap.size + 2) es' nx') ∧ Hid (Bo wx h (w4.heap.size + 2) es nx) ∧ Hid (Bo wx g (w4.heap.size + 2) es nx))
                case first =>
                  obtain ⟨A1, c1, x0, x1, x2, x3, x4⟩ := unhide X1
                  obtain ⟨A2, c2, y0, y1, y2, y3, y4⟩ := unhide X2
                  have hXB0 : w4.heap.size < X.heap.size := by omega
                  by_cases hK : K = 5
                  · have hkc := hK5 hK
                    subst hK
                    obtain ⟨bk, ok, rfl, _, hltk, hrk⟩ := hcs.at_ (k := k) (by simpa using hkc)
                    simp only [List.getElem_map] at hrk
                    have hck := rd_cell ((rd_below hbX' hltk _ _).trans hrk) 0 (by omega)
                    simp only [Nat.mul_one, Nat.add_zero, List.getElem?_toArray, List.getElem?_cons_zero] at hck
                    have hwk := hwf cs[k] (List.getElem_mem hkc)
                    unfold I64 at hwk
                    have hkcI : (k : Int) < cs.length := by omega
                    clear hrk
                    obtain ⟨C, hC⟩ : ∃ C, C = cs[k] := ⟨_, rfl⟩
                    rw [← hC] at hck hwk
                    clear hC
                    have hltk' : bk < X.heap.size := Nat.lt_of_lt_of_le hltk hbX'.size
                    have hq6b := tdiv6 C hwk
                    obtain ⟨q6, hq6⟩ : ∃ q6, Int.tdiv C 6 = q6 := ⟨_, rfl⟩
                    rw [hq6] at hq6b
                    have hp9b : 0 ≤ q6 % 9 ∧ q6 % 9 < 9 := by omega
                    have hw9 : ∀ w, Calls Try.prog 12 #[.int .i64 q6, .int .i64 9] w fun e w' => e = .returned (.int .i64 (q6 % 9)) ∧ w = w' := fun w => within_any q6 9 w hq6b (by omega) (by omega)
                    obtain ⟨p9, hp9⟩ : ∃ p9, q6 % 9 = p9 := ⟨_, rfl⟩
                    rw [hp9] at hw9 hp9b
                    obtain ⟨N5, hN5⟩ : ∃ N5, p9 - 1 = N5 := ⟨_, rfl⟩
                    obtain ⟨m, hm⟩ : ∃ m : Nat, (m : Int) = min (max N5 0) es.length := ⟨(min (max N5 0) es.length).toNat, by omega⟩
                    have hme : m ≤ es.length := by omega
                    have hN5b : -1 ≤ N5 ∧ N5 < 9 := by omega
                    have hN5w : IntKind.i64.wrap N5 = N5 := IntWalk.i64_in _ (by omega)
                    have hq6w : IntKind.i64.wrap q6 = q6 := IntWalk.i64_in _ (by omega)
                    replace hw9 := hide hw9; replace hm := hide hm; replace hp9 := hide hp9
                    have hei2 : es.length ≤ 1000000 := by omega
                    go_upto_region 20 with fail
                    go_cut [17, 18] (fun s17 s18 wx => ∃ (gt : Nat) (T1 T2 : Option Addr), s17 = .pointer (some ⟨gt, 0, none⟩) ∧ s18 = .slice T2 m m ∧ X.heap.size ≤ gt ∧ gt < wx.heap.size ∧ Hid (Below X.heap.size X wx) ∧ wx.cell? ⟨gt, 0, none⟩ = some (.slice T1 (es.length - m) (es.length - m)) ∧ wx.cell? ⟨gt, 1, none⟩ = some (.int .i64 nx) ∧ Sl wx X.heap.size wx.heap.size 19 T1 ((es.drop m).map Ent.arr) ∧ Sl wx X.heap.size wx.heap.size 19 T2 ((es.take m).map Ent.arr))
                    case first =>
                      -- DONE{
                      have keep0 : ∀ w', Below X.heap.size X w' → w'.cell? ⟨w4.heap.size, 0, none⟩ = some (.slice A1 es.length c1) ∧ w'.cell? ⟨w4.heap.size, 1, none⟩ = some (.int .i64 nx) ∧ w'.cell? ⟨bk, ok + k, none⟩ = some (.int .i64 C) := fun w' h => ⟨(h.cell (p := ⟨w4.heap.size, 0, none⟩) hXB0).trans x1, (h.cell (p := ⟨w4.heap.size, 1, none⟩) hXB0).trans x2, (h.cell (p := ⟨bk, ok + k, none⟩) hltk').trans hck⟩
                      have g4 : Sl X.drew 0 X.drew.heap.size 19 A1 (es.map Ent.arr) := x4.less (Nat.zero_le _)
                      have g5 : Sl (X.alloc (Obj.cells #[Value.slice none 0 0, Value.int IntKind.i64 0] 25)).drew 0 (X.alloc (Obj.cells #[Value.slice none 0 0, Value.int IntKind.i64 0] 25)).drew.heap.size 19 A1 (es.map Ent.arr) := by
                        have := (g4.alloc (Nat.le_refl _) (Obj.cells #[Value.slice none 0 0, Value.int IntKind.i64 0] 25)).more (B' := (X.alloc (Obj.cells #[Value.slice none 0 0, Value.int IntKind.i64 0] 25)).drew.heap.size) (by simp)
                        exact this
                      have hlZ : X.heap.size < (X.alloc (Obj.cells #[Value.slice none 0 0, Value.int IntKind.i64 0] 25)).drew.heap.size := by simp
                      have hbZ : Below X.heap.size X (X.alloc (Obj.cells #[Value.slice none 0 0, Value.int IntKind.i64 0] 25)).drew := ((Below.refl _ _).alloc (Nat.le_refl _) _).drew
                      have hz0 : (X.alloc (Obj.cells #[Value.slice none 0 0, Value.int IntKind.i64 0] 25)).drew.cell? ⟨X.heap.size, 0, none⟩ = some (.slice none 0 0) := by go_simp
                      have hz1 : (X.alloc (Obj.cells #[Value.slice none 0 0, Value.int IntKind.i64 0] 25)).drew.cell? ⟨X.heap.size, 1, none⟩ = some (.int .i64 0) := by go_simp
                      have hzf : ∀ o, (X.alloc (Obj.cells #[Value.slice none 0 0, Value.int IntKind.i64 0] 25)).drew.frozen? ⟨X.heap.size, o, none⟩ = false := fun o => frozen_new _ _ _ _ _ rfl
                      have hf1 := take_n A1 _ c1 nx N5 _ es rfl x0 hei2 g4 m (unhide hm)
                      have hf2 := take_n A1 _ c1 nx N5 _ es rfl x0 hei2 g5 m (unhide hm)
                      replace hf1 := hide hf1; replace hf2 := hide hf2; replace hz0 := hide hz0; replace hz1 := hide hz1; replace hzf := hide hzf
                      clear ex1 hgf y1 y2 y3 x3
                      go_region_held3 (fun w' => w'.cell? ⟨w4.heap.size, 0, none⟩ = some (.slice A1 es.length c1) ∧ w'.cell? ⟨w4.heap.size, 1, none⟩ = some (.int .i64 nx) ∧ w'.cell? ⟨bk, ok + k, none⟩ = some (.int .i64 C))
                        (first | with_reducible exact keep0 _ hbb | with_reducible exact keep0 _ hbZ | with_reducible exact keep0 _ (Below.refl _ _).drew | with_reducible exact keep0 _ (hbb.alloc hbb.size _) | with_reducible exact keep0 _ ((hbb.setCell (p := ⟨X.heap.size, 0, none⟩) (Nat.le_refl _) _).setCell (p := ⟨X.heap.size, 1, none⟩) (Nat.le_refl _) _))
                        (first | (go_at_call 12; (with_reducible refine ((unhide hw9) _).mono ?_); rintro e w3 ⟨rfl, rfl⟩) | (go_at_call 15; (with_reducible refine (unhide hf1).mono ?_); rintro e w6 ⟨⟨T1, T2, rfl, hsA, hsB⟩, hb6⟩; have hbb : Below X.heap.size X w6 := Below.trans (Below.drew (Below.refl X.heap.size X)) hb6) | (go_at_call 15; (with_reducible refine (unhide hf2).mono ?_); rintro e w6 ⟨⟨T1, T2, rfl, hsA, hsB⟩, hb6⟩; have hbb : Below X.heap.size X w6 := Below.trans hbZ (hb6.mono (Nat.le_of_lt hlZ)); have z0 := (hb6.cell (p := ⟨X.heap.size, 0, none⟩) hlZ).trans (unhide hz0); have z1 := (hb6.cell (p := ⟨X.heap.size, 1, none⟩) hlZ).trans (unhide hz1); have zf := fun o => (hb6.frozen (p := ⟨X.heap.size, o, none⟩) hlZ).trans ((unhide hzf) o)))
                      all_goals
                        go_wp2_with fail
                        go_meet
                        first
                          | exact ⟨w6.heap.size, T1, T2, by with_reducible rfl, by with_reducible rfl, hbb.size, by simp, hide (hbb.alloc hbb.size _), by go_simp, by go_simp, (hsA.alloc (Nat.le_refl _) _).more (by simp), (hsB.alloc (Nat.le_refl _) _).more (by simp)⟩
                          | exact ⟨X.heap.size, T1, T2, by with_reducible rfl, by with_reducible rfl, Nat.le_refl _, by rw [size_set, size_set]; exact Nat.lt_of_lt_of_le hlZ hb6.size, hide ((hbb.setCell (p := ⟨X.heap.size, 0, none⟩) (Nat.le_refl _) _).setCell (p := ⟨X.heap.size, 1, none⟩) (Nat.le_refl _) _), by go_simp, by go_simp, by rw [size_set, size_set]; exact ((hsA.setCell (.inl hlZ) _).setCell (.inl hlZ) _).less (Nat.le_of_lt hlZ), by rw [size_set, size_set]; exact ((hsB.setCell (.inl hlZ) _).setCell (.inl hlZ) _).less (Nat.le_of_lt hlZ)⟩
                      -- }DONE
                    case rest =>
                      obtain ⟨gt, T1, T2, rfl, rfl, hgt0, hgt1, hbY, t1, t2, t3, t4⟩ := hcut
                      obtain ⟨Y, rfl⟩ : ∃ Y, Y = wc := ⟨_, rfl⟩
                      have hXY := (unhide hbY).size
                      have y1' := ((unhide hbY).cell (p := ⟨w4.heap.size + 1, 0, none⟩) hXB).trans y1
                      have y2' := ((unhide hbY).cell (p := ⟨w4.heap.size + 1, 1, none⟩) hXB).trans y2
                      have y4' : Sl Y 0 Y.heap.size 19 A2 (es.map Ent.arr) := ((y4.below (unhide hbY)).more hXY).less (Nat.zero_le _)
                      have hck' := ((unhide hbY).cell (p := ⟨bk, ok + k, none⟩) hltk').trans hck
                      have hYB : w4.heap.size + 1 < Y.heap.size := by omega
                      have hYk : bk < Y.heap.size := by omega
                      clear ex1 hgf y1 y2 y3 y4 x0 x1 x2 x3 x4 hck
                      go_upto_region 21 with fail
                      go_cut [19, 20] (fun s19 s20 wx => ∃ (gr : Nat) (R1 R2 : Option Addr) (d1 d2 : Nat), s19 = .pointer (some ⟨gr, 0, none⟩) ∧ s20 = .slice R2 m d2 ∧ Y.heap.size ≤ gr ∧ gr < wx.heap.size ∧ Hid (Below Y.heap.size Y wx) ∧ es.length - m ≤ d1 ∧ m ≤ d2 ∧ wx.cell? ⟨gr, 0, none⟩ = some (.slice R1 (es.length - m) d1) ∧ wx.cell? ⟨gr, 1, none⟩ = some (.int .i64 nx) ∧ Sl wx Y.heap.size wx.heap.size 19 R1 ((es.drop m).map Ent.arr) ∧ Sl wx Y.heap.size wx.heap.size 19 R2 ((es.take m).map Ent.arr))
                      case first =>
                        -- DONE{
                        have keep0 : ∀ w', Below Y.heap.size Y w' → w'.cell? ⟨w4.heap.size + 1, 0, none⟩ = some (.slice A2 es.length c2) ∧ w'.cell? ⟨w4.heap.size + 1, 1, none⟩ = some (.int .i64 nx) ∧ w'.cell? ⟨bk, ok + k, none⟩ = some (.int .i64 C) := fun w' h => ⟨(h.cell (p := ⟨w4.heap.size + 1, 0, none⟩) hYB).trans y1', (h.cell (p := ⟨w4.heap.size + 1, 1, none⟩) hYB).trans y2', (h.cell (p := ⟨bk, ok + k, none⟩) hYk).trans hck'⟩
                        have g4 : Sl Y.drew 0 Y.drew.heap.size 19 A2 (es.map Ent.arr) := y4'
                        have g5 : Sl (Y.alloc (Obj.cells #[Value.slice none 0 0, Value.int IntKind.i64 0] 41)).drew 0 (Y.alloc (Obj.cells #[Value.slice none 0 0, Value.int IntKind.i64 0] 41)).drew.heap.size 19 A2 (es.map Ent.arr) := by
                          have := (g4.alloc (Nat.le_refl _) (Obj.cells #[Value.slice none 0 0, Value.int IntKind.i64 0] 41)).more (B' := (Y.alloc (Obj.cells #[Value.slice none 0 0, Value.int IntKind.i64 0] 41)).drew.heap.size) (by simp)
                          exact this
                        have hlZ : Y.heap.size < (Y.alloc (Obj.cells #[Value.slice none 0 0, Value.int IntKind.i64 0] 41)).drew.heap.size := by simp
                        have hbZ : Below Y.heap.size Y (Y.alloc (Obj.cells #[Value.slice none 0 0, Value.int IntKind.i64 0] 41)).drew := ((Below.refl _ _).alloc (Nat.le_refl _) _).drew
                        have hz0 : (Y.alloc (Obj.cells #[Value.slice none 0 0, Value.int IntKind.i64 0] 41)).drew.cell? ⟨Y.heap.size, 0, none⟩ = some (.slice none 0 0) := by go_simp
                        have hz1 : (Y.alloc (Obj.cells #[Value.slice none 0 0, Value.int IntKind.i64 0] 41)).drew.cell? ⟨Y.heap.size, 1, none⟩ = some (.int .i64 0) := by go_simp
                        have hzf : ∀ o, (Y.alloc (Obj.cells #[Value.slice none 0 0, Value.int IntKind.i64 0] 41)).drew.frozen? ⟨Y.heap.size, o, none⟩ = false := fun o => frozen_new _ _ _ _ _ rfl
                        have hf1 := rtake_n A2 _ c2 nx N5 _ es rfl y0 hei2 g4 m (unhide hm)
                        have hf2 := rtake_n A2 _ c2 nx N5 _ es rfl y0 hei2 g5 m (unhide hm)
                        replace hf1 := hide hf1; replace hf2 := hide hf2; replace hz0 := hide hz0; replace hz1 := hide hz1; replace hzf := hide hzf
                        clear t1 t2
                        go_region_held3 (fun w' => w'.cell? ⟨w4.heap.size + 1, 0, none⟩ = some (.slice A2 es.length c2) ∧ w'.cell? ⟨w4.heap.size + 1, 1, none⟩ = some (.int .i64 nx) ∧ w'.cell? ⟨bk, ok + k, none⟩ = some (.int .i64 C))
                          (first | with_reducible exact keep0 _ hbb | with_reducible exact keep0 _ hbZ | with_reducible exact keep0 _ (Below.refl _ _).drew | with_reducible exact keep0 _ (hbb.alloc hbb.size _) | with_reducible exact keep0 _ ((hbb.setCell (p := ⟨Y.heap.size, 0, none⟩) (Nat.le_refl _) _).setCell (p := ⟨Y.heap.size, 1, none⟩) (Nat.le_refl _) _))
                          (first | (go_at_call 12; (with_reducible refine ((unhide hw9) _).mono ?_); rintro e w3 ⟨rfl, rfl⟩) | (go_at_call 21; (with_reducible refine (unhide hf1).mono ?_); rintro e w6 ⟨⟨R1, R2, d1, d2, rfl, hd1, hd2, hsA, hsB⟩, hb6⟩; have hbb : Below Y.heap.size Y w6 := Below.trans (Below.drew (Below.refl Y.heap.size Y)) hb6) | (go_at_call 21; (with_reducible refine (unhide hf2).mono ?_); rintro e w6 ⟨⟨R1, R2, d1, d2, rfl, hd1, hd2, hsA, hsB⟩, hb6⟩; have hbb : Below Y.heap.size Y w6 := Below.trans hbZ (hb6.mono (Nat.le_of_lt hlZ)); have z0 := (hb6.cell (p := ⟨Y.heap.size, 0, none⟩) hlZ).trans (unhide hz0); have z1 := (hb6.cell (p := ⟨Y.heap.size, 1, none⟩) hlZ).trans (unhide hz1); have zf := fun o => (hb6.frozen (p := ⟨Y.heap.size, o, none⟩) hlZ).trans ((unhide hzf) o)))
                        all_goals
                          go_wp2_with fail
                          go_meet
                          first
                            | exact ⟨w6.heap.size, R1, R2, d1, d2, by with_reducible rfl, by with_reducible rfl, hbb.size, by simp, hide (hbb.alloc hbb.size _), hd1, hd2, by go_simp, by go_simp, (hsA.alloc (Nat.le_refl _) _).more (by simp), (hsB.alloc (Nat.le_refl _) _).more (by simp)⟩
                            | exact ⟨Y.heap.size, R1, R2, d1, d2, by with_reducible rfl, by with_reducible rfl, Nat.le_refl _, by rw [size_set, size_set]; exact Nat.lt_of_lt_of_le hlZ hb6.size, hide ((hbb.setCell (p := ⟨Y.heap.size, 0, none⟩) (Nat.le_refl _) _).setCell (p := ⟨Y.heap.size, 1, none⟩) (Nat.le_refl _) _), hd1, hd2, by go_simp, by go_simp, by rw [size_set, size_set]; exact ((hsA.setCell (.inl hlZ) _).setCell (.inl hlZ) _).less (Nat.le_of_lt hlZ), by rw [size_set, size_set]; exact ((hsB.setCell (.inl hlZ) _).setCell (.inl hlZ) _).less (Nat.le_of_lt hlZ)⟩
                        -- }DONE
                      case rest =>
                        obtain ⟨gr, R1, R2, d1, d2, rfl, rfl, hgr0, hgr1, hbZ, hd1, hd2, r1, r2, r3, r4⟩ := hcut
                        obtain ⟨Z, rfl⟩ : ∃ Z, Z = wc := ⟨_, rfl⟩
                        have hYZ := (unhide hbZ).size
                        have t4' : Sl Z 0 Z.heap.size 19 T2 ((es.take m).map Ent.arr) := ((t4.below (unhide hbZ)).more hYZ).less (Nat.zero_le _)
                        have r4' : Sl Z 0 Z.heap.size 19 R2 ((es.take m).map Ent.arr) := r4.less (Nat.zero_le _)
                        have hse := sameEntries_eq T2 R2 m m d2 Z (es.take m) (by rw [List.length_take]; omega) (by omega) t4' r4'
                        clear t4' r4' hck' y1' y2'
                        go_wp2_with fail
                        refine hse.mono ?_
                        rintro e w7 ⟨rfl, hb7⟩
                        have hZw := hb7.size
                        have bX7 : Below X.heap.size X w7 := ((unhide hbY).trans ((unhide hbZ).mono hXY)).trans (hb7.mono (by omega))
                        have t1' := (hb7.cell (p := ⟨gt, 0, none⟩) (by show gt < Z.heap.size; omega)).trans (((unhide hbZ).cell (p := ⟨gt, 0, none⟩) hgt1).trans t1)
                        have t2' := (hb7.cell (p := ⟨gt, 1, none⟩) (by show gt < Z.heap.size; omega)).trans (((unhide hbZ).cell (p := ⟨gt, 1, none⟩) hgt1).trans t2)
                        have r1' := (hb7.cell (p := ⟨gr, 0, none⟩) hgr1).trans r1
                        have r2' := (hb7.cell (p := ⟨gr, 1, none⟩) hgr1).trans r2
                        have W1 := (unhide X1).below hXB0 bX7
                        have W2 := (unhide X2).below hXB bX7
                        have W3 := (unhide X3).below hXh bX7
                        have hXg : g < X.heap.size := by omega
                        have W4 := (unhide X4).below hXg bX7
                        have hT1 : Sl w7 (w4.heap.size + 2) w7.heap.size 19 T1 ((es.drop m).map Ent.arr) := (((t3.below (unhide hbZ)).more hYZ).below hb7 |>.more hZw).less (by omega)
                        have hR1 : Sl w7 (w4.heap.size + 2) w7.heap.size 19 R1 ((es.drop m).map Ent.arr) := ((r3.below hb7).more hZw).less (by omega)
                        have hput := put12 (n := es.length - m) (c := es.length - m) (c' := d1) (ny := nx) (by rw [List.length_drop]) (by omega) (hbX'.trans (bX7.mono hbX'.size)) (by omega) hBh hBg W1 W2 W3 W4 (Nat.le_refl _) hd1 hT1 hR1 k (by omega) hn0 (by omega)
                        obtain ⟨_, _, _, a1, a2, a3, _⟩ := W1
                        obtain ⟨_, _, _, b1, b2, b3, _⟩ := W2
                        replace hput := hide hput
                        clear t1 t2 r1 r2 hse
                        go_upto_region 24 with fail
                        have ngt : ∀ o p, (⟨w4.heap.size, p, none⟩ : Addr) ≠ ⟨gt, o, none⟩ := fun o p e => by injection e with e _ _; omega
                        have ngr : ∀ o p, (⟨w4.heap.size, p, none⟩ : Addr) ≠ ⟨gr, o, none⟩ := fun o p e => by injection e with e _ _; omega
                        have l1 := fun v v' => (World.cell?_setCell_other (w7.setCell ⟨w4.heap.size, 0, none⟩ v) _ _ v' (ngr 0 1)).trans ((World.cell?_setCell_other w7 _ _ v (ngr 0 0)).trans r1')
                        have l2 := fun v v' => (World.cell?_setCell_other (w7.setCell ⟨w4.heap.size, 0, none⟩ v) _ _ v' (ngr 1 1)).trans ((World.cell?_setCell_other w7 _ _ v (ngr 1 0)).trans r2')
                        clear ngt ngr
                        go_region
                        all_goals
                          go_wp2_with fail
                          go_meet
                          obtain ⟨es', nx', i1, i2, i3, i4, i5, i6, i7, i8, i9⟩ := unhide hput
                          exact ⟨es', nx', i1, i2, i3, hide (unhide i4).drew, i5, i6, i7, i8, i9⟩
                  · have hnx : IntKind.i64.wrap (nx + 1) = nx + 1 := IntWalk.i64_in _ (by omega)
                    have hei3 : es.length + 1 ≤ 31 := by omega
                    have g1 : Sl X.drew 0 X.drew.heap.size 19 A1 (es.map Ent.arr) := x4.less (Nat.zero_le _)
                    have g2 : Sl X.drew 0 X.drew.heap.size 19 A2 (es.map Ent.arr) := y4.less (Nat.zero_le _)
                    have hf1 := add_n A1 _ c1 nx X.drew es x rfl x0 (by omega) g1 hn0 (by omega)
                    have keep0 : ∀ w', Below X.heap.size X w' → (fun w' => w'.cell? ⟨w4.heap.size, 0, none⟩ = some (.slice A1 es.length c1) ∧ w'.cell? ⟨w4.heap.size, 1, none⟩ = some (.int .i64 nx) ∧ w'.cell? ⟨w4.heap.size + 1, 0, none⟩ = some (.slice A2 es.length c2) ∧ w'.cell? ⟨w4.heap.size + 1, 1, none⟩ = some (.int .i64 nx) ∧ rd w' b (o + k * 19) 19 = some x.arr) w' := fun w' h => ⟨(h.cell (p := ⟨w4.heap.size, 0, none⟩) hXB0).trans x1, (h.cell (p := ⟨w4.heap.size, 1, none⟩) hXB0).trans x2, (h.cell (p := ⟨w4.heap.size + 1, 0, none⟩) hXB).trans y1, (h.cell (p := ⟨w4.heap.size + 1, 1, none⟩) hXB).trans y2, (rd_below h hXb _ _).trans (unhide hXr)⟩
                    replace hf1 := hide hf1
                    clear ex1 hgf
                    go_upto_region 25 with fail
                    refine start_ (n := 14) (S := fun w' => w'.cell? ⟨w4.heap.size, 0, none⟩ = some (.slice A1 es.length c1) ∧ w'.cell? ⟨w4.heap.size, 1, none⟩ = some (.int .i64 nx) ∧ w'.cell? ⟨w4.heap.size + 1, 0, none⟩ = some (.slice A2 es.length c2) ∧ w'.cell? ⟨w4.heap.size + 1, 1, none⟩ = some (.int .i64 nx) ∧ rd w' b (o + k * 19) 19 = some x.arr) (ds := [12, 13]) #[false, false, false, false, false, false, false, false, false, false, false, false, false, false] (by kernel_rfl) rfl rfl (keep0 _ (Below.refl _ _).drew) (fun hHeld => ?_)
                    refine pure_ (i := 1) (N := some 116) (v := ?_) (a' := ?_) #[false, true, false, false, false, false, false, false, false, false, false, false, false, false] rfl rfl (by kernel_rfl) (fun _ _ _ h => h) (Or.inl ⟨by rfl, ?_⟩) ?_ ?_
                    rotate_left
                    · intro w'
                      go_simp
                      with_reducible rfl
                    rotate_left
                    · simp only [Act.put, List.setIfInBounds_toArray, List.set_cons_zero, List.set_cons_succ, i64_w, i32_w]
                      rfl
                    refine pure_ (i := 2) (N := some 117) (v := ?_) (a' := ?_) #[false, true, true, false, false, false, false, false, false, false, false, false, false, false] rfl rfl (by kernel_rfl) (fun _ _ _ h => h) (Or.inl ⟨by rfl, ?_⟩) ?_ ?_
                    rotate_left
                    · intro w'
                      go_simp
                      with_reducible rfl
                    rotate_left
                    · simp only [Act.put, List.setIfInBounds_toArray, List.set_cons_zero, List.set_cons_succ, i64_w, i32_w]
                      rfl
                    refine pure_ (i := 3) (N := some 118) (v := ?_) (a' := ?_) #[false, true, true, true, false, false, false, false, false, false, false, false, false, false] rfl rfl (by kernel_rfl) (fun _ _ _ h => h) (Or.inl ⟨by rfl, ?_⟩) ?_ ?_
                    rotate_left
                    · intro w'
                      go_simp
                      with_reducible rfl
                    rotate_left
                    · simp only [Act.put, List.setIfInBounds_toArray, List.set_cons_zero, List.set_cons_succ, i64_w, i32_w]
                      rfl
                    refine pure_ (i := 7) (N := some 122) (v := ?_) (a' := ?_) #[false, true, true, true, false, false, false, true, false, false, false, false, false, false] rfl rfl (by kernel_rfl) (fun _ _ _ h => h) (Or.inl ⟨by rfl, ?_⟩) ?_ ?_
                    rotate_left
                    · intro w'
                      go_simp
                      with_reducible rfl
                    rotate_left
                    · simp only [Act.put, List.setIfInBounds_toArray, List.set_cons_zero, List.set_cons_succ, i64_w, i32_w]
                      rfl
                    refine pure_ (i := 8) (N := some 123) (v := ?_) (a' := ?_) #[false, true, true, true, false, false, false, true, true, false, false, false, false, false] rfl rfl (by kernel_rfl) (fun _ _ _ h => h) (Or.inl ⟨by rfl, ?_⟩) ?_ ?_
                    rotate_left
                    · intro w'
                      go_simp
                      with_reducible rfl
                    rotate_left
                    · simp only [Act.put, List.setIfInBounds_toArray, List.set_cons_zero, List.set_cons_succ, i64_w, i32_w]
                      rfl
                    refine pure_ (i := 9) (N := some 124) (v := ?_) (a' := ?_) #[false, true, true, true, false, false, false, true, true, true, false, false, false, false] rfl rfl (by kernel_rfl) (fun _ _ _ h => h) (Or.inl ⟨by rfl, ?_⟩) ?_ ?_
                    rotate_left
                    · intro w'
                      go_simp
                      with_reducible rfl
                    rotate_left
                    · simp only [Act.put, List.setIfInBounds_toArray, List.set_cons_zero, List.set_cons_succ, i64_w, i32_w]
                      rfl
                    refine take_ (i := 0) (N := some 115) (v := ?_) (a' := ?_) #[true, true, true, true, false, false, false, true, true, true, false, false, false, false] rfl rfl (by kernel_rfl) (fun _ _ _ h => h) (Or.inl ⟨by rfl, ?_⟩) hHeld ?_ ?_
                    rotate_left
                    · intro w' hs_; obtain ⟨s0, s1, s2, s3, s4⟩ := hs_
                      go_simp
                      with_reducible rfl
                    rotate_left
                    · simp only [Act.put, List.setIfInBounds_toArray, List.set_cons_zero, List.set_cons_succ, i64_w, i32_w]
                      rfl
                    refine take_ (i := 4) (N := some 119) (v := ?_) (a' := ?_) #[true, true, true, true, true, false, false, true, true, true, false, false, false, false] rfl rfl (by kernel_rfl) (fun _ _ _ h => h) (Or.inl ⟨by rfl, ?_⟩) hHeld ?_ ?_
                    rotate_left
                    · intro w' hs_; obtain ⟨s0, s1, s2, s3, s4⟩ := hs_
                      go_simp
                      with_reducible rfl
                    rotate_left
                    · simp only [Act.put, List.setIfInBounds_toArray, List.set_cons_zero, List.set_cons_succ, i64_w, i32_w]
                      rfl
                    refine take_ (i := 6) (N := some 121) (v := ?_) (a' := ?_) #[true, true, true, true, true, false, true, true, true, true, false, false, false, false] rfl rfl (by kernel_rfl) (fun _ _ _ h => h) (Or.inl ⟨by rfl, ?_⟩) hHeld ?_ ?_
                    rotate_left
                    · intro w' hs_; obtain ⟨s0, s1, s2, s3, s4⟩ := hs_
                      go_simp
                      with_reducible rfl
                    rotate_left
                    · simp only [Act.put, List.setIfInBounds_toArray, List.set_cons_zero, List.set_cons_succ, i64_w, i32_w]
                      rfl
                    refine take_ (i := 10) (N := some 125) (v := ?_) (a' := ?_) #[true, true, true, true, true, false, true, true, true, true, true, false, false, false] rfl rfl (by kernel_rfl) (fun _ _ _ h => h) (Or.inl ⟨by rfl, ?_⟩) hHeld ?_ ?_
                    rotate_left
                    · intro w' hs_; obtain ⟨s0, s1, s2, s3, s4⟩ := hs_
                      go_simp
                      with_reducible rfl
                    rotate_left
                    · simp only [Act.put, List.setIfInBounds_toArray, List.set_cons_zero, List.set_cons_succ, i64_w, i32_w]
                      rfl
                    refine one_ (i := 5) (N := some 120) #[true, true, true, true, true, true, true, true, true, true, true, false, false, false] rfl rfl (by kernel_rfl) (by decide) (fun K hK => ?_)
                    refine goes_ Try.func13 (by kernel_rfl) rfl #[.agg #[.slice A1 es.length c1, .int .i64 nx], .agg x.arr] (by rfl) rfl rfl (by (try simp only [List.map_toArray, List.map_cons, List.map_nil]); first | done | rfl) ?_
                    with_reducible refine (unhide hf1).mono ?_
                    rintro e w6 ⟨⟨T1, d1, rfl, hd1, hsA⟩, hb6⟩
                    have k6 : Below X.heap.size X w6 := Below.trans (Below.drew (Below.refl X.heap.size X)) hb6
                    refine ⟨_, rfl, hK.out _ _ (keep0 _ k6) (fun hHeld => ?_)⟩
                    clear hK K
                    refine norm_ (a' := ?_) ?_ ?_
                    rotate_left
                    · show Act.put _ (some 120) _ = _
                      simp only [Act.put, List.setIfInBounds_toArray, List.set_cons_zero, List.set_cons_succ, i64_w, i32_w]
                      rfl
                    refine one_ (i := 11) (N := some 126) #[true, true, true, true, true, true, true, true, true, true, true, true, false, false] rfl rfl (by kernel_rfl) (by decide) (fun K hK => ?_)
                    refine goes_ Try.func22 (by kernel_rfl) rfl #[.agg #[.slice A2 es.length c2, .int .i64 nx], .agg x.arr] (by rfl) rfl rfl (by (try simp only [List.map_toArray, List.map_cons, List.map_nil]); first | done | rfl) ?_
                    with_reducible refine (radd_n A2 _ c2 nx w6 es x rfl y0 (by omega) ((g2.below hb6).more hb6.size) hn0 (by omega)).mono ?_
                    rintro e w7 ⟨⟨R1, d2, rfl, hd2, hsB⟩, hb7⟩
                    have k7 : Below X.heap.size X w7 := k6.trans (hb7.mono k6.size)
                    have q1 := (k7.cell (p := ⟨w4.heap.size, 0, none⟩) hXB0).trans x1
                    have q2 := (k7.cell (p := ⟨w4.heap.size, 1, none⟩) hXB0).trans x2
                    have q3 := fun o => (k7.frozen (p := ⟨w4.heap.size, o, none⟩) hXB0).trans (x3 o)
                    have q4 := (k7.cell (p := ⟨w4.heap.size + 1, 0, none⟩) hXB).trans y1
                    have q5 := (k7.cell (p := ⟨w4.heap.size + 1, 1, none⟩) hXB).trans y2
                    have q6 := fun o => (k7.frozen (p := ⟨w4.heap.size + 1, o, none⟩) hXB).trans (y3 o)
                    refine ⟨_, rfl, hK.out _ _ (keep0 _ k7) (fun hHeld => ?_)⟩
                    clear hK K hHeld
                    refine norm_ (a' := ?_) ?_ ?_
                    rotate_left
                    · show Act.put _ (some 126) _ = _
                      simp only [Act.put, List.setIfInBounds_toArray, List.set_cons_zero, List.set_cons_succ, i64_w, i32_w]
                      rfl
                    refine last_ (i := 12) (N := none) #[true, true, true, true, true, true, true, true, true, true, true, true, true, false] rfl rfl (by kernel_rfl) (by decide) (fun K hK => ?_)
                    refine skip_ (w1 := ?_) (by rfl) rfl ?_ ?_
                    rotate_left
                    · go_simp
                      rfl
                    refine hK.out _ _ ?_
                    clear hK K
                    refine last_ (i := 13) (N := none) #[true, true, true, true, true, true, true, true, true, true, true, true, true, true] rfl rfl (by kernel_rfl) (by decide) (fun K hK => ?_)
                    refine skip_ (w1 := ?_) (by rfl) rfl ?_ ?_
                    rotate_left
                    · go_simp
                      rfl
                    refine hK.out _ _ ?_
                    clear hK K
                    refine done_ (by kernel_rfl) ?_
                    all_goals
                      have W1 := (unhide X1).below hXB0 k7
                      have W2 := (unhide X2).below hXB k7
                      have W3 := (unhide X3).below hXh k7
                      have hXg : g < X.heap.size := by omega
                      have W4 := (unhide X4).below hXg k7
                      have k6z := k6.size
                      have k7z := k7.size
                      have hT1 : Sl w7 (w4.heap.size + 2) w7.heap.size 19 T1 ((es ++ [({ x with s := nx } : Ent)]).map Ent.arr) := ((hsA.below hb7).more hb7.size).less (by show _ ≤ X.heap.size; omega)
                      have hR1 : Sl w7 (w4.heap.size + 2) w7.heap.size 19 R1 ((es ++ [({ x with s := nx } : Ent)]).map Ent.arr) := hsB.less (by omega)
                      have hput := put12 (n := es.length + 1) (c := d1) (c' := d2) (ny := nx + 1) (by simp) (by omega) (hbX'.trans (k7.mono hbX'.size)) (by omega) hBh hBg W1 W2 W3 W4 hd1 hd2 hT1 hR1 k (by omega) (by omega) (by omega)
                      replace hput := hide hput
                      clear W1 W2 W3 W4 hT1 hR1 hsA hsB hd1 hd2
                      go_wp2_with fail
                      go_meet
                      exact unhide hput
                case rest =>
                  obtain ⟨es', nx', he', hn0', hn1', hbZ, hhZ, Z1, Z2, Z3, Z4⟩ := hcut
                  obtain ⟨Z, rfl⟩ : ∃ Z, Z = wc := ⟨_, rfl⟩
                  obtain ⟨P1, p1, a0, a1, a2, a3, a4⟩ := unhide Z1
                  obtain ⟨P2, p2, b0, b1, b2, b3, b4⟩ := unhide Z2
                  obtain ⟨P3, p3, d0, d1, d2, d4⟩ := unhide Z3
                  obtain ⟨P4, p4, e0, e1, e2, e4⟩ := unhide Z4
                  have hZB : w4.heap.size + 1 < Z.heap.size := by omega
                  have hZB0 : w4.heap.size < Z.heap.size := by omega
                  have hZg : g < Z.heap.size := by omega
                  have hel : es'.length ≤ 1000000 := by omega
                  have hel2 : es.length ≤ 1000000 := by omega
                  have keep0 : ∀ w', Below Z.heap.size Z w' → w'.cell? ⟨w4.heap.size, 0, none⟩ = some (.slice P1 es'.length p1) ∧ w'.cell? ⟨w4.heap.size, 1, none⟩ = some (.int .i64 nx') ∧ w'.cell? ⟨w4.heap.size + 1, 0, none⟩ = some (.slice P2 es'.length p2) ∧ w'.cell? ⟨w4.heap.size + 1, 1, none⟩ = some (.int .i64 nx') ∧ w'.cell? ⟨h, 0, none⟩ = some (.slice P3 es.length p3) ∧ w'.cell? ⟨h, 1, none⟩ = some (.int .i64 nx) ∧ w'.cell? ⟨g, 0, none⟩ = some (.slice P4 es.length p4) ∧ w'.cell? ⟨g, 1, none⟩ = some (.int .i64 nx) := fun w' k => ⟨(k.cell (p := ⟨w4.heap.size, 0, none⟩) hZB0).trans a1, (k.cell (p := ⟨w4.heap.size, 1, none⟩) hZB0).trans a2, (k.cell (p := ⟨w4.heap.size + 1, 0, none⟩) hZB).trans b1, (k.cell (p := ⟨w4.heap.size + 1, 1, none⟩) hZB).trans b2, (k.cell (p := ⟨h, 0, none⟩) hhZ).trans d1, (k.cell (p := ⟨h, 1, none⟩) hhZ).trans d2, (k.cell (p := ⟨g, 0, none⟩) hZg).trans e1, (k.cell (p := ⟨g, 1, none⟩) hZg).trans e2⟩
                  have s1 : ∀ w', Below Z.heap.size Z w' → Sl w' 0 w'.heap.size 19 P1 (es'.map Ent.arr) := fun w' k => ((a4.below k).more k.size).less (Nat.zero_le _)
                  have s2 : ∀ w', Below Z.heap.size Z w' → Sl w' 0 w'.heap.size 19 P2 (es'.map Ent.arr) := fun w' k => ((b4.below k).more k.size).less (Nat.zero_le _)
                  have s3 : ∀ w', Below Z.heap.size Z w' → Sl w' 0 w'.heap.size 19 P3 (es.map Ent.arr) := fun w' k => ((d4.below k).more k.size).less (Nat.zero_le _)
                  have s4 : ∀ w', Below Z.heap.size Z w' → Sl w' 0 w'.heap.size 19 P4 (es.map Ent.arr) := fun w' k => ((e4.below k).more k.size).less (Nat.zero_le _)
                  have hof1 := of_any nx' P1 es'.length p1 Z.drew
                  have bZd : Below Z.heap.size Z Z.drew := (Below.refl _ _).drew
                  replace s1 := hide s1; replace s2 := hide s2; replace s3 := hide s3; replace s4 := hide s4; replace hof1 := hide hof1
                  clear ex1 hgf a1 a2 a3 a4 b1 b2 b3 b4 d1 d2 d4 e1 e2 e4
                  go_upto_region 26 with fail
                  go_region_held3 (fun w' => w'.cell? ⟨w4.heap.size, 0, none⟩ = some (.slice P1 es'.length p1) ∧ w'.cell? ⟨w4.heap.size, 1, none⟩ = some (.int .i64 nx') ∧ w'.cell? ⟨w4.heap.size + 1, 0, none⟩ = some (.slice P2 es'.length p2) ∧ w'.cell? ⟨w4.heap.size + 1, 1, none⟩ = some (.int .i64 nx') ∧ w'.cell? ⟨h, 0, none⟩ = some (.slice P3 es.length p3) ∧ w'.cell? ⟨h, 1, none⟩ = some (.int .i64 nx) ∧ w'.cell? ⟨g, 0, none⟩ = some (.slice P4 es.length p4) ∧ w'.cell? ⟨g, 1, none⟩ = some (.int .i64 nx))
                    (first | with_reducible exact keep0 _ bZd | with_reducible exact keep0 _ k6 | with_reducible exact keep0 _ k7 | with_reducible exact keep0 _ k8 | with_reducible exact keep0 _ k9)
                    (first | (go_at_call 18; (with_reducible refine (unhide hof1).mono ?_); rintro e w6 ⟨rfl, hb6⟩; have k6 : Below Z.heap.size Z w6 := bZd.trans hb6) | (go_at_call 17; (with_reducible refine (same_eq P1 P2 _ p1 p2 nx' w6 es' rfl hel ((unhide s1) _ k6) ((unhide s2) _ k6)).mono ?_); rintro e w7 ⟨rfl, hb7⟩; have k7 : Below Z.heap.size Z w7 := k6.trans (hb7.mono k6.size)) | (go_at_call 18; (with_reducible refine (of_any nx P3 es.length p3 w7).mono ?_); rintro e w8 ⟨rfl, hb8⟩; have k8 : Below Z.heap.size Z w8 := k7.trans (hb8.mono k7.size)) | (go_at_call 17; (with_reducible refine (same_eq P3 P4 _ p3 p4 nx w8 es rfl hel2 ((unhide s3) _ k8) ((unhide s4) _ k8)).mono ?_); rintro e w9 ⟨rfl, hb9⟩; have k9 : Below Z.heap.size Z w9 := k8.trans (hb9.mono k8.size)))
                  have k9z := k9.size
                  have hbF : Below w.heap.size w w9 := (unhide hbZ).trans (k9.mono (unhide hbZ).size)
                  have F1 := hide ((unhide Z1).below hZB0 k9)
                  have F2 := hide ((unhide Z2).below hZB k9)
                  have hz9 : w4.heap.size + 2 ≤ w9.heap.size := by omega
                  clear keep0
                  go_wp2_with fail
                  go_roundw
                  case rel => exact ⟨k + 1, es', nx', by omega, by go_num, he', hn0', by omega, hbF, hz9, unhide F1, unhide F2⟩
                  case measure => simp [intOf]; omega
      · obtain rfl : k = l.length := by omega
        go_wp2_with fail
        go_ret
        exact ⟨rfl, hbr⟩
end Go.Proofs.Ytpblhedmfeddbaa.Base
