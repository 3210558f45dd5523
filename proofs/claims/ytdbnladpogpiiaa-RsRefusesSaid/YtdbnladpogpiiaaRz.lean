/-
  RsRefuses: its walk.
-/
import Derived.Test.YtdbnladpogpiiaaFq
import Derived.Deep.DeepCutAuto
namespace Go.Proofs.Ytdbnladpogpiiaa.Rz
open Go.RowKit Go.Proofs.YtdbnladpogpiiaaW.PrintWords Go.Proofs.YtdbnladpogpiiaaW.PrintLast
open Go.Proofs.Ytdbnladpogpiiaa.Fld Go.Proofs.Ytdbnladpogpiiaa.Pl Go.Proofs.Ytdbnladpogpiiaa.Ot Go.Proofs.Ytdbnladpogpiiaa.Kp Go.Proofs.Ytdbnladpogpiiaa.Fw Go.Proofs.Ytdbnladpogpiiaa.Cw Go.Proofs.Ytdbnladpogpiiaa.Cd Go.Proofs.Ytdbnladpogpiiaa.Pc Go.Proofs.Ytdbnladpogpiiaa.Pe Go.Proofs.Ytdbnladpogpiiaa.Fd
set_option linter.unusedSimpArgs false
set_option linter.unusedVariables false
theorem fix_bytes {L : List (List Int)} {lost : List Int} (hb : ∀ r ∈ L, Bytes r) (hmay : mayB L lost = true) : ∀ r ∈ fixR L lost, Bytes r := by
  obtain ⟨m1, m2, m3, m4, m5, m6⟩ := may_facts hmay
  obtain ⟨d, hd⟩ : ∃ d, L.length = d + 2 := ⟨L.length - 2, by omega⟩
  have hR := own_good hb (kept_len m6)
  have hRl : (ownR L lost (lenR (kept L lost))).length = d + 2 := by rw [own_len]; exact hd
  obtain ⟨s, hs⟩ : ∃ x, lenR (kept L lost) = x := ⟨_, rfl⟩
  rw [hs] at hR hRl
  have hgt := good_take (m := d) hR
  have bt : ∀ r ∈ (ownR L lost s).take d, Bytes r := fun r h => (hgt r h).2
  have hgm := (Tw.good_row hR (i := d) (by omega)).2
  have hgm1 := (Tw.good_row hR (i := d + 1) (by omega)).2
  have hpg : (addR (sumP ((ownR L lost s).take d) s) (row (ownR L lost s) d) 1).length = s ∧ Bytes (addR (sumP ((ownR L lost s).take d) s) (row (ownR L lost s) d) 1) := ⟨by rw [addR_len, sumP_len], bytes_addR (bytes_sumP _ _ bt) hgm ⟨by omega, by omega⟩⟩
  have hqg : (addR (sumQ ((ownR L lost s).take d) s) (row (ownR L lost s) (d + 1)) 1).length = s ∧ Bytes (addR (sumQ ((ownR L lost s).take d) s) (row (ownR L lost s) (d + 1)) 1) := ⟨by rw [addR_len, sumQ_len], bytes_addR (bytes_sumQ _ _ bt) hgm1 ⟨by omega, by omega⟩⟩
  obtain ⟨hD, hDl, _⟩ := data_good hmay hd hR hRl hpg hqg
  have hfix : fixR L lost = parR (dataR (ownR L lost s) ((srt lost).map Int.toNat) d (addR (sumP ((ownR L lost s).take d) s) (row (ownR L lost s) d) 1) (addR (sumQ ((ownR L lost s).take d) s) (row (ownR L lost s) (d + 1)) 1)) ((srt lost).map Int.toNat) d s := by
    unfold fixR
    simp only
    rw [hs, show L.length - 2 = d from by omega]
  rw [hfix, par_cases hmay hd]
  have hDt := good_take (m := d) hD
  have bD : ∀ r ∈ (dataR (ownR L lost s) ((srt lost).map Int.toNat) d (addR (sumP ((ownR L lost s).take d) s) (row (ownR L lost s) d) 1) (addR (sumQ ((ownR L lost s).take d) s) (row (ownR L lost s) (d + 1)) 1)).take d, Bytes r := fun r h => (hDt r h).2
  have g1 := Tw.good_set hD (i := d) ⟨sumP_len _ s, bytes_sumP _ s bD⟩
  have hall : ∀ X : List (List Int), Tw.GoodR s X → ∀ r ∈ X, Bytes r := fun X h r hr => (h r hr).2
  split
  · split
    · exact hall _ (Tw.good_set g1 ⟨sumQ_len _ s, bytes_sumQ _ s bD⟩)
    · exact hall _ (Tw.good_set hD ⟨sumQ_len _ s, bytes_sumQ _ s bD⟩)
  · split
    · exact hall _ g1
    · exact hall _ hD
theorem fix_some {L : List (List Int)} {lost : List Int} (hb : ∀ r ∈ L, Bytes r) (hr : ∀ r ∈ L, r.length ≤ 1000000) (hl : L.length ≤ 1000000) (h1 : lost.length ≤ 1000000) : ∃ r b, fixF L lost = some (r, b) ∧ Sm.BytL r ∧ r.length ≤ 1000000 := by
  rw [Co.fixF_of hb hr h1 hl]
  cases h : mayB L lost with
  | true => exact ⟨_, _, rfl, fun r hr x hx => fix_bytes hb h r hr x hx, by rw [fixR_len]; exact hl⟩
  | false => exact ⟨_, _, rfl, fun r hr => (List.not_mem_nil hr).elim, by simp⟩
theorem known_any (w : World) : Calls Try.prog 11 #[] w fun e w' => e = .returned (.bool true) ∧ Below w.heap.size w w' := by
  obtain ⟨k, hk⟩ := known_ev.rounds
  exact PRq.ramekinlaw5_known.calls k true w hk
theorem within_any (a n : Int) (hn : 1 ≤ n) (hn2 : n ≤ 4611686018427387904) (w : World) : Calls Try.prog 12 #[.int .i64 a, .int .i64 n] w fun e w' => e = .returned (.int .i64 (a % n)) ∧ Drawn0 w w' := PRq.ramekinlaw5_within.calls a n _ w (within_f a n hn hn2)
theorem rows_any (A : Option Addr) (c : Nat) (l0 : List Int) (m s : Nat) (w : World) (hm : m ≤ 1000) (hs : s ≤ 1000) (hl : l0.length ≤ 9223372036854775807) (hr : Kd.C (Kd.int .u8) w A l0.length l0) (hc : l0.length ≤ c) :
    ∃ L : List (List Int), L.length = m ∧ (∀ r ∈ L, r.length = s) ∧ (∀ r ∈ L, Bytes r) ∧ Calls Try.prog 13 #[.slice A l0.length c, .int .i64 (m : Int), .int .i64 (s : Int)] w fun e w' => ∃ v, e = .returned v ∧ Kd.N (Kd.slice 5 (Kd.int .u8)) 22 w' w.heap.size (fun k => w.heap.size ≤ k) v L ∧ Below w.heap.size w w' := by
  obtain ⟨L, h, h1, h2, h3⟩ := rows_ev l0 m s hm hs hl
  obtain ⟨k, hk⟩ := h.rounds
  exact ⟨L, h1, h2, h3, PRq.ramekinlaw5_Rows.calls k A c l0 m s L w hr hc hk⟩
theorem few_any (A : Option Addr) (c : Nat) (L : List (List Int)) (w : World) (hm : L.length ≤ 9223372036854775807) (hr : Kd.C (Kd.slice 5 (Kd.int .u8)) w A L.length L) (hc : L.length ≤ c) :
    Calls Try.prog 17 #[.slice A L.length c] w fun e w' => e = .returned (.bool (fewB L)) ∧ Drawn0 w w' := by
  obtain ⟨k, hk⟩ := (few_ev L hm).rounds
  exact PRq.ramekinlaw5_Few.calls k A c L _ w hr hc hk
theorem below_d0 {w w' : World} (h : Drawn0 w w') : Below w.heap.size w w' := by
  obtain ⟨q, rfl⟩ := h
  exact pw_below_drewN (Below.refl _ _) q
theorem places_all (l3 : List Int) (m lim : Nat) (hm : 1 ≤ m) (hm2 : m ≤ 1000000) (hlim : lim ≤ 1000) (hl : l3.length ≤ 9223372036854775807) :
    ∃ P : List Int, P.length ≤ lim ∧ ∀ (A : Option Addr) (c : Nat) (w : World), Kd.C (Kd.int .i64) w A l3.length l3 → l3.length ≤ c → Calls Try.prog 21 #[.slice A l3.length c, .int .i64 (m : Int), .int .i64 (lim : Int)] w fun e w' => ∃ A' c', e = .returned (.slice A' P.length c') ∧ P.length ≤ c' ∧ Kd.C (Kd.int .i64) w' A' P.length P ∧ Below w.heap.size w w' := by
  obtain ⟨P, h, h2⟩ := places_ev l3 m lim hm hm2 hlim hl
  obtain ⟨k, hk⟩ := h.rounds
  refine ⟨P, h2.1, fun A c w hr hc => (PRq.ramekinlaw4_Places.calls k A c l3 m lim P w hr hc hk).mono ?_⟩
  rintro e w' ⟨v, rfl, hR, hb⟩
  obtain ⟨A', c', rfl, hl', hC⟩ := Kd.R_reads hR
  exact ⟨A', c', rfl, hl', hC, hb⟩
theorem fixb {L : List (List Int)} {lost : List Int} {r : List (List Int)} {b : Bool} (h : fixF L lost = some (r, b)) (A0 : Option Addr) (c0 : Nat) (A1 : Option Addr) (c1 : Nat) (w : World) (hr0 : Kd.C (Kd.slice 5 (Kd.int .u8)) w A0 L.length L) (hc0 : L.length ≤ c0) (hr1 : Kd.C (Kd.int .i64) w A1 lost.length lost) (hc1 : lost.length ≤ c1) :
    Calls Try.prog 22 #[.slice A0 L.length c0, .slice A1 lost.length c1] w fun e w' => ∃ A c, e = .returned (.tuple #[.slice A r.length c, .bool b]) ∧ Kd.C (Kd.slice 5 (Kd.int .u8)) w' A r.length r ∧ Below w.heap.size w w' := by
  refine (fix_any A0 c0 L A1 c1 lost r b w hr0 hc0 hr1 hc1 h).mono ?_
  rintro e w' ⟨v, rfl, hN, hb⟩
  obtain ⟨A, c, rfl⟩ := Kd.N_slice hN
  exact ⟨A, c, rfl, (Kd.N_reads' hN).2.2, hb⟩
theorem docb {L : List (List Int)} {lost : List Int} {r : List (List Int)} {b : Bool} (h : fixF L lost = some (r, b)) (A0 : Option Addr) (c0 : Nat) (A1 : Option Addr) (c1 : Nat) (w : World) (hr0 : Kd.C (Kd.slice 5 (Kd.int .u8)) w A0 L.length L) (hc0 : L.length ≤ c0) (hr1 : Kd.C (Kd.int .i64) w A1 lost.length lost) (hc1 : lost.length ≤ c1) :
    Calls Try.prog 24 #[.slice A0 L.length c0, .slice A1 lost.length c1] w fun e w' => ∃ A c, e = .returned (.tuple #[.slice A r.length c, .bool b]) ∧ Kd.C (Kd.slice 5 (Kd.int .u8)) w' A r.length r ∧ Below w.heap.size w w' := by
  refine (Fr.fix_doc A0 c0 L A1 c1 lost r b w hr0 hc0 hr1 hc1 h).mono ?_
  rintro e w' ⟨v, rfl, hN, hb⟩
  obtain ⟨A, c, rfl⟩ := Kd.N_slice hN
  exact ⟨A, c, rfl, (Kd.N_reads' hN).2.2, hb⟩
set_option maxRecDepth 100000 in
set_option maxHeartbeats 4000000 in
theorem refuses_any (A0 : Option Addr) (c0 : Nat) (l0 : List (List Int)) (A1 : Option Addr) (c1 : Nat) (l1 : List Int) (A2 : Option Addr) (c2 : Nat) (l2 : List Int) (a3 : Int) (w : World) (hr0 : Kd.C (Kd.slice 5 (Kd.int .u8)) w A0 l0.length l0) (hc0 : l0.length ≤ c0) (hr1 : Kd.C (Kd.int .i64) w A1 l1.length l1) (hc1 : l1.length ≤ c1) (hr2 : Kd.C (Kd.int .u8) w A2 l2.length l2) (hc2 : l2.length ≤ c2)
    (n0 : l0.length ≤ 9223372036854775807) (n2 : l2.length ≤ 9223372036854775807) (b0 : ∀ r ∈ l0, Bytes r) :
    Calls Try.prog 7 #[.slice A0 l0.length c0, .slice A1 l1.length c1, .slice A2 l2.length c2, .int .i64 a3] w fun e w' => e = .returned (.bool true) ∧ Below w.heap.size w w' := by
  have HR0 := Lib.hid hr0
  have HR1 := Lib.hid hr1
  have HR2 := Lib.hid hr2
  have N0 := Lib.hid n0
  have N2 := Lib.hid n2
  have HB0 := Lib.hid b0
  clear hr0 hr1 hr2 n0 n2 b0
  obtain ⟨m0, em, hm0⟩ : ∃ m : Nat, a3 % 16 = (m : Int) ∧ m < 16 := ⟨(a3 % 16).toNat, by omega, by omega⟩
  have EM := Lib.hid em
  clear em
  go_enter Try.func7, Try.ntmps7
  go_wp2_with fail
  refine (known_any w).mono ?_
  rintro e w1 ⟨rfl, hb1⟩
  have B1 := Lib.hid hb1
  have hfew := Lib.hid (few_any A0 c0 l0 w1 N0.out (Kd.C_below HR0.out hb1) hc0)
  clear hb1
  go_wp2_with fail
  refine hfew.out.mono ?_
  rintro e w2 ⟨rfl, hd2⟩
  have B2 := Lib.hid (B1.out.trans ((below_d0 hd2).mono B1.out.size))
  clear hd2 hfew B1
  cases hfw : fewB l0 with
  | false =>
    go_wp2_with fail
    go_ret
    exact ⟨rfl, B2.out⟩
  | true =>
  obtain ⟨few1, few2⟩ := few_of hfw
  have FEW2 := Lib.hid few2
  clear hfw few2
  by_cases h5 : 5 < l1.length
  · have h5I : (5 : Int) < (l1.length : Int) := by omega
    go_wp2_with fail
    go_ret
    exact ⟨rfl, B2.out⟩
  have h5I : ¬ (5 : Int) < (l1.length : Int) := by omega
  go_wp2_with fail
  refine (within_any a3 16 (by omega) (by omega) w2).mono ?_
  rintro e w3 ⟨rfl, q3, rfl⟩
  rw [EM.out]
  have B3 := Lib.hid (pw_below_drewN B2.out q3)
  obtain ⟨w3, hw3⟩ : ∃ x, w2.drewN q3 = x := ⟨_, rfl⟩
  rw [hw3] at B3 ⊢
  clear hw3 B2
  obtain ⟨L, L1, L2, L3, hrows⟩ := rows_any A2 c2 l2 (3 + m0) 3 w3 (by omega) (by omega) N2.out (Kd.C_below HR2.out B3.out) hc2
  have HRows := Lib.hid hrows
  have HL1 := Lib.hid L1
  have HL2 := Lib.hid L2
  have HL3 := Lib.hid L3
  have hLl : L.length ≤ 18 := by omega
  clear hrows L1 L2 L3
  go_wp2_with fail
  rw [show (3 : Int) + (m0 : Int) = ((3 + m0 : Nat) : Int) from by omega]
  refine HRows.out.mono ?_
  rintro e w4 ⟨vL, rfl, nL, hb4⟩
  obtain ⟨AL, cL, rfl⟩ := Kd.N_slice nL
  have B4 := Lib.hid (B3.out.trans (hb4.mono B3.out.size))
  have HRd := Lib.hid (Kd.N_reads' nL)
  clear nL hb4 HRows B3
  go_wp2_with fail
  have in0 : (w4.alloc (Obj.cells #[Value.slice A0 l0.length c0, Value.slice AL L.length cL] 25)).cell? ⟨w4.heap.size, 0, none⟩ = some (.slice A0 l0.length c0) := by go_simp
  have in1 : (w4.alloc (Obj.cells #[Value.slice A0 l0.length c0, Value.slice AL L.length cL] 25)).cell? ⟨w4.heap.size, 1, none⟩ = some (.slice AL L.length cL) := by go_simp
  obtain ⟨W6, hW6⟩ : ∃ x, w4.alloc (Obj.cells #[Value.slice A0 l0.length c0, Value.slice AL L.length cL] 25) = x := ⟨_, rfl⟩
  obtain ⟨gi, hgi⟩ : ∃ x, w4.heap.size = x := ⟨_, rfl⟩
  rw [hW6, hgi] at in0 in1
  have b46 : Below w4.heap.size w4 W6 := by rw [← hW6]; exact below_alloc (Below.refl _ _) _
  have B6 := Lib.hid (B4.out.trans (b46.mono B4.out.size))
  have hIn := Lib.hid (show ∀ i : Nat, i < 2 → ∃ (AM : Option Addr) (cM : Nat) (M : List (List Int)), W6.cell? ⟨gi, i, none⟩ = some (.slice AM M.length cM) ∧ M.length ≤ cM ∧ Kd.C (Kd.slice 5 (Kd.int .u8)) W6 AM M.length M ∧ (∀ r ∈ M, Bytes r) ∧ (∀ r ∈ M, r.length ≤ 60) ∧ M.length ≤ 20 from fun i hi => by
    match i, hi with
    | 0, _ => exact ⟨A0, c0, l0, in0, hc0, Kd.C_below HR0.out B6.out, HB0.out, FEW2.out, few1⟩
    | 1, _ => exact ⟨AL, cL, L, in1, HRd.out.2.1, Kd.C_below HRd.out.2.2 b46, HL3.out, fun r h => by rw [HL2.out r h]; omega, by omega⟩)
  rw [hW6, hgi]
  clear in0 in1 b46 hW6 hgi B4 HRd
  go_loopw [11, 12, 13, 14, 15, 16, 17] (fun i s12 s13 s14 s15 s16 s17 wr => ∃ j : Nat, i = .int .i64 j ∧ j ≤ 2 ∧ Hid (Below W6.heap.size W6 wr)) (fun i s12 s13 s14 s15 s16 s17 _ => 2 - (intOf i).toNat)
  case atStart => exact ⟨0, rfl, Nat.zero_le _, Lib.hid (Below.refl _ _)⟩
  case round =>
    obtain ⟨j, rfl, hj2, HB⟩ := hrel
    by_cases hjl : j < 2
    · obtain ⟨AM, cM, M, hx6, hMc, hMC6, hMb, hMr, hM20⟩ := hIn.out j hjl
      have hx := pw_cell_below HB.out hx6
      have HMC := Lib.hid (Kd.C_below hMC6 HB.out)
      have HMb := Lib.hid hMb
      have HMr := Lib.hid hMr
      obtain ⟨P1, q1, hp1⟩ := places_all l1 (M.length + 2) 3 (by omega) (by omega) (by omega) (by omega)
      obtain ⟨P2, q2, hp2⟩ := places_all l1 (M.length + 1) 2 (by omega) (by omega) (by omega) (by omega)
      rw [show ((M.length + 2 : Nat) : Int) = (M.length : Int) + 2 from by omega, show ((3 : Nat) : Int) = 3 from rfl] at hp1
      rw [show ((M.length + 1 : Nat) : Int) = (M.length : Int) + 1 from by omega, show ((2 : Nat) : Int) = 2 from rfl] at hp2
      have hl1w := Lib.hid (Kd.C_below (Kd.C_below HR1.out B6.out) HB.out)
      have hA := Lib.hid (fun (W : World) (hW : Below wr.heap.size wr W) => hp1 A1 c1 W (Kd.C_below hl1w.out hW) hc1)
      have hB := Lib.hid (fun (W : World) (hW : Below wr.heap.size wr W) => hp2 A1 c1 W (Kd.C_below hl1w.out hW) hc1)
      have hw2 : IntKind.i64.wrap ((M.length : Int) + 2) = (M.length : Int) + 2 := IntWalk.i64_in _ (by omega)
      have hw1 : IntKind.i64.wrap ((M.length : Int) + 1) = (M.length : Int) + 1 := IntWalk.i64_in _ (by omega)
      have hjI : (j : Int) < 2 := by omega
      clear hp1 hp2 hx6 hMC6 hMb hMr
      go_upto_region 10 with fail
      go_cut [12] (fun s12 wx => ∃ (g cP1 cP2 : Nat) (AP1 AP2 : Option Addr), s12 = .slice (some ⟨g, 0, none⟩) 3 3 ∧ Below wr.heap.size wr wx ∧ wx.cell? ⟨g, 0, none⟩ = some (.slice A1 l1.length c1) ∧ wx.cell? ⟨g, 1, none⟩ = some (.slice AP1 P1.length cP1) ∧ wx.cell? ⟨g, 2, none⟩ = some (.slice AP2 P2.length cP2) ∧ P1.length ≤ cP1 ∧ P2.length ≤ cP2 ∧ Kd.C (Kd.int .i64) wx AP1 P1.length P1 ∧ Kd.C (Kd.int .i64) wx AP2 P2.length P2)
      case first =>
        have B0d : Below wr.heap.size wr wr.drew := (Below.refl _ _).drew
        go_region_held3 (fun w' => w'.cell? ⟨gi, j, none⟩ = some (.slice AM M.length cM))
          (first | exact hx | exact hxa | exact hxb | exact pw_cell_below (below_alloc (Below.refl wb.heap.size wb) _) hxb | exact pw_cell_below (below_alloc (Below.refl wa.heap.size wa) _) hxa)
          (first
            | (go_at_call 21; (with_reducible refine (hA.out _ (by first | exact hbB | exact B0d)).mono ?_); rintro e wa ⟨Aa, ca, rfl, la, Ca, ba⟩; have hbA : Below wr.heap.size wr wa := (by first | exact hbB.trans (ba.mono hbB.size) | exact B0d.trans ba); have hxa := pw_cell_below hbA hx)
            | (go_at_call 21; (with_reducible refine (hB.out _ (by first | exact hbA | exact B0d)).mono ?_); rintro e wb ⟨Ab, cb, rfl, lb, Cb, bb⟩; have hbB : Below wr.heap.size wr wb := (by first | exact hbA.trans (bb.mono hbA.size) | exact B0d.trans bb); have hxb := pw_cell_below hbB hx))
        all_goals (go_wp2_with fail; go_meet; first
          | exact ⟨wb.heap.size, ca, cb, Aa, Ab, rfl, below_alloc hbB _, by go_simp, by go_simp, by go_simp, la, lb, Kd.C_alloc (Kd.C_below Ca bb) _, Kd.C_alloc Cb _⟩
          | exact ⟨wa.heap.size, ca, cb, Aa, Ab, rfl, below_alloc hbA _, by go_simp, by go_simp, by go_simp, la, lb, Kd.C_alloc Ca _, Kd.C_alloc (Kd.C_below Cb ba) _⟩)
      case rest =>
        obtain ⟨g, cP1, cP2, AP1, AP2, rfl, hbc, y0, y1, y2, lp1, lp2, Cp1, Cp2⟩ := hcut
        have Bc := Lib.hid hbc
        have HMc := Lib.hid (Kd.C_below HMC.out hbc)
        have hxc := pw_cell_below hbc hx
        have hAt := Lib.hid (show ∀ k : Nat, k < 3 → ∃ (AP : Option Addr) (cP : Nat) (P : List Int), wc.cell? ⟨g, k, none⟩ = some (.slice AP P.length cP) ∧ P.length ≤ cP ∧ Kd.C (Kd.int .i64) wc AP P.length P ∧ P.length ≤ 1000000 from fun k hk => by
          match k, hk with
          | 0, _ => exact ⟨A1, c1, l1, y0, hc1, Kd.C_below hl1w.out hbc, by omega⟩
          | 1, _ => exact ⟨AP1, cP1, P1, y1, lp1, Cp1, by omega⟩
          | 2, _ => exact ⟨AP2, cP2, P2, y2, lp2, Cp2, by omega⟩)
        clear hbc y0 y1 y2 Cp1 Cp2 hA hB hx
        go_wp2_with fail
        go_loopw [13, 14, 15, 16, 17] (fun i s14 s15 s16 s17 w2 => ∃ k : Nat, i = .int .i64 k ∧ k ≤ 3 ∧ Hid (Below wc.heap.size wc w2)) (fun i s14 s15 s16 s17 _ => 3 - (intOf i).toNat)
        case atStart => exact ⟨0, rfl, Nat.zero_le _, Lib.hid (Below.refl _ _)⟩
        case round =>
          obtain ⟨k, hk0, hk3, HBz⟩ := hrel
          subst hk0
          by_cases hkl : k < 3
          · obtain ⟨AP, cP, P, hyc, hPc, hPC, hPl⟩ := hAt.out k hkl
            have hxz := pw_cell_below HBz.out hxc
            have hyz := pw_cell_below HBz.out hyc
            have HMz := Lib.hid (Kd.C_below HMc.out HBz.out)
            have HPz := Lib.hid (Kd.C_below hPC HBz.out)
            obtain ⟨r, b, hf, hrB, hrl⟩ := fix_some HMb.out (fun r h => by have := HMr.out r h; omega) (show M.length ≤ 1000000 by omega) hPl
            have HF1 := Lib.hid (fixb hf AM cM AP cP wr.drew (Kd.C_drew HMz.out) hMc (Kd.C_drew HPz.out) hPc)
            have HF := Lib.hid hf
            have HrB := Lib.hid hrB
            have hkI : (k : Int) < 3 := by omega
            have hjI2 : (j : Int) < 2 := by omega
            clear hf hrB hyc hPC
            go_wp2_with fail
            go_region_held3 (fun w' => w'.cell? ⟨gi, j, none⟩ = some (.slice AM M.length cM) ∧ w'.cell? ⟨g, k, none⟩ = some (.slice AP P.length cP))
              (first | exact ⟨hxz, hyz⟩ | exact ⟨hxd, hyd⟩)
              ((go_at_call 22; (with_reducible refine HF1.out.mono ?_); rintro e wd ⟨A5, c5, rfl, hC5, bd⟩; have Bd := Lib.hid (show Below wr.heap.size wr wd from (Below.refl wr.heap.size wr).drew.trans bd); have hxd := pw_cell_below Bd.out hxz; have hyd := pw_cell_below Bd.out hyz; have HC5 := Lib.hid hC5; clear bd hC5))
            have HF2 := Lib.hid (docb HF.out AM cM AP cP wd.drew (Kd.C_drew (Kd.C_below HMz.out Bd.out)) hMc (Kd.C_drew (Kd.C_below HPz.out Bd.out)) hPc)
            clear hxz hyz HF1
            go_wp2_with fail
            go_region_held3 (fun w' => w'.cell? ⟨gi, j, none⟩ = some (.slice AM M.length cM) ∧ w'.cell? ⟨g, k, none⟩ = some (.slice AP P.length cP))
              (first | exact ⟨hxd, hyd⟩ | exact ⟨hxe, hye⟩)
              ((go_at_call 24; (with_reducible refine HF2.out.mono ?_); rintro e we ⟨A7, c7, rfl, hC7, be⟩; have Be := Lib.hid (show Below wd.heap.size wd we from (Below.refl wd.heap.size wd).drew.trans be); have hxe := pw_cell_below Be.out hxd; have hye := pw_cell_below Be.out hyd; clear be))
            have hsm := Sm.same_calls A5 c5 r A7 c7 r we (Kd.C_below HC5.out Be.out) hC7 HrB.out HrB.out hrl hrl
            rw [decide_eq_true (rfl : r = r)] at hsm
            have HSm := Lib.hid hsm
            have hbb : (b != b) = false := by cases b <;> rfl
            have Bz := Lib.hid (HBz.out.trans ((Bd.out.trans (Be.out.mono Bd.out.size)).mono HBz.out.size))
            clear hC7 hsm hxd hyd hxe hye HF2
            go_wp2_with fail
            refine HSm.out.mono ?_
            rintro e wf ⟨rfl, qf, rfl⟩
            go_wp2_with fail
            go_roundw
            case rel => exact ⟨k + 1, by simp, by omega, Lib.hid (pw_below_drewN Bz.out qf)⟩
            case measure => simp [intOf]; omega
          · obtain rfl : k = 3 := by omega
            go_wp2_with fail
            go_roundw
            case rel => exact ⟨j + 1, by simp, by omega, Lib.hid (HB.out.trans ((Bc.out.trans (HBz.out.mono Bc.out.size)).mono HB.out.size))⟩
            case measure => simp [intOf]; omega
    · obtain rfl : j = 2 := by omega
      go_wp2_with fail
      go_ret
      exact ⟨rfl, B6.out.trans (HB.out.mono B6.out.size)⟩
end Go.Proofs.Ytdbnladpogpiiaa.Rz
