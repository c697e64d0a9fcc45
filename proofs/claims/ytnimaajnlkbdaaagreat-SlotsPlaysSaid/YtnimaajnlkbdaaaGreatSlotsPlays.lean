/- Layer 16: the walk of SlotsPlays. (Printed.) -/
import Derived.Test.YtnimaajnlkbdaaaGreatMU
import Derived.Test.YtnimaajnlkbdaaaGreatMT
import Derived.Test.YtnimaajnlkbdaaaGreatMV
import Derived.Test.YtnimaajnlkbdaaaGreatTwo
import Derived.BigQuiet
namespace Go.Proofs.YtnimaajnlkbdaaaGreat
open Go.RowKit
set_option linter.unusedVariables false
set_option linter.unusedSimpArgs false

theorem built_d : Tryz.prog.built 43 [(15, .bool true)] = some dRn.arr := by kernel_rfl
theorem built_2R (a b : Rn) : Tryz.prog.built 44 [(0, .agg a.arr), (1, .agg b.arr)] = some (runsA [a, b]) := by kernel_rfl
/-- a call's cells -/
def UseAt (w : World) (b o : Nat) (u : Use16) : Prop := b < w.heap.size ∧ ∀ (j : Nat) x, (useCells u)[j]? = some x → w.cell? ⟨b, o + j, none⟩ = some x
theorem UseAt.below {w w' : World} {b o : Nat} {u : Use16} (h : UseAt w b o u) (hb : Below w.heap.size w w') : UseAt w' b o u := ⟨Nat.lt_of_lt_of_le h.1 hb.size, fun j x hx => (hb.cell (p := ⟨b, o + j, none⟩) h.1).trans (h.2 j x hx)⟩
theorem UseAt.kept {w w' : World} {b o : Nat} {u : Use16} {S : List Nat} (h : UseAt w b o u) (k : Keep S w w') (hn : b ∉ S) : UseAt w' b o u := ⟨Nat.lt_of_lt_of_le h.1 k.size, fun j x hx => k.cell (h.2 j x hx) hn⟩
theorem UseAt.open {w : World} {b o : Nat} {op n hh vv bq aq : Int} (h : UseAt w b o ⟨op, n, hh, vv, bq, aq⟩) : b < w.heap.size ∧ w.cell? ⟨b, o, none⟩ = some (.int .u8 op) ∧ w.cell? ⟨b, o + 1, none⟩ = some (.int .u8 n) ∧ w.cell? ⟨b, o + 2, none⟩ = some (.int .u8 hh) ∧ w.cell? ⟨b, o + 3, none⟩ = some (.int .u8 vv) ∧ w.cell? ⟨b, o + 4, none⟩ = some (.int .i64 bq) ∧ w.cell? ⟨b, o + 5, none⟩ = some (.int .i64 aq) :=
 ⟨h.1, h.2 0 _ rfl, h.2 1 _ rfl, h.2 2 _ rfl, h.2 3 _ rfl, h.2 4 _ rfl, h.2 5 _ rfl⟩
set_option maxRecDepth 100000 in
set_option maxHeartbeats 16000000 in
theorem slotsPlays_walk (A : Option Addr) (cp : Nat) (L : List Use16) (tn : Int) (w : World) (hc0 : L.length ≤ cp ∧ cp ≤ maxLen ∧ Cells w A (L.flatMap useCells) ∧ ∀ t ∈ L, Use16Ok t) (htn : 0 ≤ tn ∧ tn ≤ 18446744073709551615) :
  Calls Tryz.prog 3 #[.agg #[.slice A L.length cp, .int .u64 tn]] w fun r w' => r = .returned (.bool true) ∧ Below w.heap.size w w' := by
 obtain ⟨hLk, hkm, hL, hq⟩ := hc0
 have hlm : L.length ≤ 9223372036854775807 := by unfold maxLen at hkm; omega
 have HL0 := Lib.hid hL
 have Hq := Lib.hid hq
 obtain ⟨tn0, tn1⟩ := htn
 clear hL hq hkm
 go_enter Tryz.func3, Tryz.ntmps3
 have B := Lib.hid (Below.refl w.heap.size w)
 go_upto_region 1 with fail
 refine one_row w _ _ ?_
 intro w0 hr hb
 have hlB := B.out.size
 have hsz := (hb).size
 replace B := Lib.hid (below_only B.out hb)
 clear hb hsz
 have H_cs := Lib.hid (show w0.heap[w.heap.size]? = some (.cells #[.slice A L.length cp, .int .u64 tn] 25 (0, 0)) from hr)
 clear hr
 obtain ⟨g_cs, hg_cs⟩ : ∃ x, x = w.heap.size := ⟨_, rfl⟩
 rw [← hg_cs] at H_cs ⊢
 have L_cs : Hid (w.heap.size ≤ g_cs) := Lib.hid (by omega)
 clear hg_cs hlB
 go_wp2_with fail
 refine (shown16_any _).mono ?_
 rintro r w1 ⟨rfl, hb⟩
 have hsz := (hb).size
 replace H_cs := Lib.hid (row_below H_cs.out hb)
 replace B := Lib.hid (below_only B.out hb)
 clear hb hsz
 go_wp2_with fail
 refine (plan16_any _).mono ?_
 rintro r w1a ⟨rfl, hb⟩
 have hsz := (hb).size
 replace H_cs := Lib.hid (row_below H_cs.out hb)
 replace B := Lib.hid (below_only B.out hb)
 clear hb hsz
 go_upto_region 3 with fail
 refine one_row w1a _ _ ?_
 intro w2 hr hb
 have hlB := B.out.size
 have hl_cs := lt_of_heap H_cs.out
 have hsz := (hb).size
 replace H_cs := Lib.hid (row_below H_cs.out hb)
 replace B := Lib.hid (below_only B.out hb)
 clear hb hsz
 have H_p := Lib.hid (show w2.heap[w1a.heap.size]? = some (.cells #[.int .i64 4, .int .i64 2, .int .i64 128, .int .i64 512] 28 (0, 0)) from hr)
 clear hr
 obtain ⟨g_p, hg_p⟩ : ∃ x, x = w1a.heap.size := ⟨_, rfl⟩
 rw [← hg_p] at H_p ⊢
 have M_cs_p : Hid (g_cs ≠ g_p) := Lib.hid (by omega)
 have M_p_cs : Hid (g_p ≠ g_cs) := Lib.hid (by omega)
 clear hl_cs
 have L_p : Hid (w.heap.size ≤ g_p) := Lib.hid (by omega)
 clear hg_p hlB
 go_wp2_with fail
 refine (laid_any _).mono ?_
 rintro r w3 ⟨p, b, X, q, d, rfl, hT, hb⟩
 have HT0 := Lib.hid hT
 have HBB := Lib.hid B.out.size
 clear hT
 obtain ⟨wl, hwl⟩ : ∃ x, x = w2.heap.size := ⟨_, rfl⟩
 have hl_cs := lt_of_heap H_cs.out
 have hl_p := lt_of_heap H_p.out
 rw [← hwl] at HT0 HBB hl_cs hl_p
 have hsz := (hb).size
 replace H_cs := Lib.hid (row_below H_cs.out hb)
 replace H_p := Lib.hid (row_below H_p.out hb)
 replace B := Lib.hid (below_only B.out hb)
 clear hb hsz
 have N_cs : Hid (g_cs ∉ [p, b, X, q, d]) := Lib.hid (HT0.out.elder hl_cs)
 clear hl_cs
 have N_p : Hid (g_p ∉ [p, b, X, q, d]) := Lib.hid (HT0.out.elder hl_p)
 clear hl_p
 have HT : Hid (TwoW w.heap.size w3 p b X q d 4 2 128 512 (oW 9) (oW 9)) := Lib.hid { HT0.out with low := by have := HT0.out.low; have := HBB.out; omega }
 clear HT0 hwl HBB
 obtain ⟨WS, HWS⟩ : ∃ x, Hid (oW 9 = x) := ⟨_, Lib.hid rfl⟩
 have HLw : Hid (Lw c16 WS) := Lib.hid (by rw [← HWS.out]; exact laid_lw)
 rw [HWS.out] at HT
 go_upto_region 4 with (first | (refine allocTo16 rfl 32 rfl _ (allocH12 _) ?_; (try simp only [Act.put, List.setIfInBounds_toArray, List.set_cons_succ, List.set_cons_zero])) | (refine wpList_store_row rfl 32 (.tmp 7) (.tmp 26) rfl w3.heap.size (hAt 12) rfl rfl 32 (hAt 0) (row_new _ _ _) infoH12 rfl (hAt_one 12) ?_; (try simp only [Act.put, List.setIfInBounds_toArray, List.set_cons_succ, List.set_cons_zero])))
 refine alloc_set' w3 _ _ _ ?_
 intro w4 hr hb
 have hlB := B.out.size
 have hfr := HT.out.fresh (Nat.le_refl w3.heap.size)
 have hl_cs := lt_of_heap H_cs.out
 have hl_p := lt_of_heap H_p.out
 have hsz := (hb).size
 replace H_cs := Lib.hid (row_below H_cs.out hb)
 replace H_p := Lib.hid (row_below H_p.out hb)
 replace HT := Lib.hid (HT.out.below hb)
 replace B := Lib.hid (below_only B.out hb)
 clear hb hsz
 have H_h := Lib.hid (show w4.heap[w3.heap.size]? = some (.cells (hAt 12) 32 (0, 0)) from hr)
 clear hr
 obtain ⟨g_h, hg_h⟩ : ∃ x, x = w3.heap.size := ⟨_, rfl⟩
 rw [← hg_h] at H_h ⊢
 have N_h : Hid (g_h ∉ [p, b, X, q, d]) := Lib.hid (by rw [hg_h]; exact hfr)
 clear hfr
 have M_cs_h : Hid (g_cs ≠ g_h) := Lib.hid (by omega)
 have M_h_cs : Hid (g_h ≠ g_cs) := Lib.hid (by omega)
 clear hl_cs
 have M_p_h : Hid (g_p ≠ g_h) := Lib.hid (by omega)
 have M_h_p : Hid (g_h ≠ g_p) := Lib.hid (by omega)
 clear hl_p
 have L_h : Hid (w.heap.size ≤ g_h) := Lib.hid (by omega)
 clear hg_h hlB
 go_upto_region 7 with (first | (refine wpList_build_to rfl 43 _ rfl dRn.arr (by simp only [List.map_toArray, List.map_cons, List.map_nil]; exact built_d) ?_; (try simp only [Act.put, List.setIfInBounds_toArray, List.set_cons_succ, List.set_cons_zero])) | (refine wpList_build_to rfl 44 _ rfl (runsA [dRn, dRn]) (by simp only [List.map_toArray, List.map_cons, List.map_nil]; exact built_2R dRn dRn) ?_; (try simp only [Act.put, List.setIfInBounds_toArray, List.set_cons_succ, List.set_cons_zero])) | (refine wpList_alloc_to rfl 44 rfl _ (alloc2R _) ?_; (try simp only [Act.put, List.setIfInBounds_toArray, List.set_cons_succ, List.set_cons_zero])) | (refine wpList_store_row rfl 44 (.tmp 8) (.tmp 35) rfl w4.heap.size (runsA [dRn, dRn]) rfl rfl 44 _ (row_new _ _ _) info2R rfl (runs_one _) ?_; (try simp only [Act.put, List.setIfInBounds_toArray, List.set_cons_succ, List.set_cons_zero])))
 refine alloc_set' w4 _ _ _ ?_
 intro w5 hr hb
 have hlB := B.out.size
 have hfr := HT.out.fresh (Nat.le_refl w4.heap.size)
 have hl_cs := lt_of_heap H_cs.out
 have hl_p := lt_of_heap H_p.out
 have hl_h := lt_of_heap H_h.out
 have hsz := (hb).size
 replace H_cs := Lib.hid (row_below H_cs.out hb)
 replace H_p := Lib.hid (row_below H_p.out hb)
 replace H_h := Lib.hid (row_below H_h.out hb)
 replace HT := Lib.hid (HT.out.below hb)
 replace B := Lib.hid (below_only B.out hb)
 clear hb hsz
 have H_g := Lib.hid (show w5.heap[w4.heap.size]? = some (.cells (runsA [dRn, dRn]) 44 (0, 0)) from hr)
 clear hr
 obtain ⟨g_g, hg_g⟩ : ∃ x, x = w4.heap.size := ⟨_, rfl⟩
 rw [← hg_g] at H_g ⊢
 have N_g : Hid (g_g ∉ [p, b, X, q, d]) := Lib.hid (by rw [hg_g]; exact hfr)
 clear hfr
 have M_cs_g : Hid (g_cs ≠ g_g) := Lib.hid (by omega)
 have M_g_cs : Hid (g_g ≠ g_cs) := Lib.hid (by omega)
 clear hl_cs
 have M_p_g : Hid (g_p ≠ g_g) := Lib.hid (by omega)
 have M_g_p : Hid (g_g ≠ g_p) := Lib.hid (by omega)
 clear hl_p
 have M_h_g : Hid (g_h ≠ g_g) := Lib.hid (by omega)
 have M_g_h : Hid (g_g ≠ g_h) := Lib.hid (by omega)
 clear hl_h
 have L_g : Hid (w.heap.size ≤ g_g) := Lib.hid (by omega)
 clear hg_g hlB
 go_upto_region 8 with (first | (refine wpList_load_row rfl 44 (.tmp 8) rfl g_g rfl 44 (runsA [dRn, dRn]) (0, 0) _ H_g.out und2R rfl info2R ?_; (try simp only [Act.put, List.setIfInBounds_toArray, List.set_cons_succ, List.set_cons_zero])) | (refine wpList_alloc_to rfl 44 rfl _ (alloc2R _) ?_; (try simp only [Act.put, List.setIfInBounds_toArray, List.set_cons_succ, List.set_cons_zero])) | (refine wpList_store_row rfl 44 (.tmp 9) (.tmp 36) rfl w5.heap.size (runsA [dRn, dRn]) rfl rfl 44 _ (row_new _ _ _) info2R rfl (runs_one _) ?_; (try simp only [Act.put, List.setIfInBounds_toArray, List.set_cons_succ, List.set_cons_zero])))
 refine alloc_set' w5 _ _ _ ?_
 intro w6 hr hb
 have hlB := B.out.size
 have hfr := HT.out.fresh (Nat.le_refl w5.heap.size)
 have hl_cs := lt_of_heap H_cs.out
 have hl_p := lt_of_heap H_p.out
 have hl_h := lt_of_heap H_h.out
 have hl_g := lt_of_heap H_g.out
 have hsz := (hb).size
 replace H_cs := Lib.hid (row_below H_cs.out hb)
 replace H_p := Lib.hid (row_below H_p.out hb)
 replace H_h := Lib.hid (row_below H_h.out hb)
 replace H_g := Lib.hid (row_below H_g.out hb)
 replace HT := Lib.hid (HT.out.below hb)
 replace B := Lib.hid (below_only B.out hb)
 clear hb hsz
 have H_k := Lib.hid (show w6.heap[w5.heap.size]? = some (.cells (runsA [dRn, dRn]) 44 (0, 0)) from hr)
 clear hr
 obtain ⟨g_k, hg_k⟩ : ∃ x, x = w5.heap.size := ⟨_, rfl⟩
 rw [← hg_k] at H_k ⊢
 have N_k : Hid (g_k ∉ [p, b, X, q, d]) := Lib.hid (by rw [hg_k]; exact hfr)
 clear hfr
 have M_cs_k : Hid (g_cs ≠ g_k) := Lib.hid (by omega)
 have M_k_cs : Hid (g_k ≠ g_cs) := Lib.hid (by omega)
 clear hl_cs
 have M_p_k : Hid (g_p ≠ g_k) := Lib.hid (by omega)
 have M_k_p : Hid (g_k ≠ g_p) := Lib.hid (by omega)
 clear hl_p
 have M_h_k : Hid (g_h ≠ g_k) := Lib.hid (by omega)
 have M_k_h : Hid (g_k ≠ g_h) := Lib.hid (by omega)
 clear hl_h
 have M_g_k : Hid (g_g ≠ g_k) := Lib.hid (by omega)
 have M_k_g : Hid (g_k ≠ g_g) := Lib.hid (by omega)
 clear hl_g
 have L_k : Hid (w.heap.size ≤ g_k) := Lib.hid (by omega)
 clear hg_k hlB
 obtain ⟨FF, HFF⟩ : ∃ x, Hid (x = [b, d, g_g, g_k]) := ⟨_, Lib.hid rfl⟩
 have HAll : Hid (AllX 2 w6 FF [dRn, dRn] [dRn, dRn]) := Lib.hid (AllX.start _ _)
 try simp only [Act.put]
 go_upto_block 0 with fail
 try simp only [Act.put]
 go_cut [] from 11 to 118 (fun wx => ∃ ws, ws.length = 112 ∧ TwoW w.heap.size wx p b X q d 4 2 128 512 ws ws ∧ Below w.heap.size w wx)
 case first =>
  go_wp2_with fail
  go_loopw [10, 11] (fun t10 t11 wr => ∃ (i nx : Nat) (ws : List Int) (l l' : List Rn), i ≤ 300 ∧ nx ≤ L.length ∧ nx ≤ 30 ∧ t10 = .int .i64 nx ∧ t11 = .int .i64 i ∧ Lw c16 ws ∧ AllX 2 wr FF l l' ∧ TwoW w.heap.size wr p b X q d 4 2 128 512 ws ws ∧ wr.heap[g_p]? = some (.cells #[.int .i64 4, .int .i64 2, .int .i64 128, .int .i64 512] 28 (0, 0)) ∧ wr.heap[g_cs]? = some (.cells #[.slice A L.length cp, .int .u64 tn] 25 (0, 0)) ∧ wr.heap[g_h]? = some (.cells (hAt 12) 32 (0, 0)) ∧ wr.heap[g_g]? = some (.cells (runsA l) 44 (0, 0)) ∧ wr.heap[g_k]? = some (.cells (runsA l') 44 (0, 0)) ∧ Below w.heap.size w wr) (fun _ t _ => (300 - intOf t).toNat)
  case atStart => exact ⟨0, 0, WS, _, _, by omega, by omega, by omega, rfl, rfl, HLw.out, HAll.out, HT.out, H_p.out, H_cs.out, H_h.out, H_g.out, H_k.out, B.out⟩
  case round =>
   clear HT H_p H_cs H_h H_g H_k B HLw HAll
   obtain ⟨i, nx, ws, l, l', hi, hn1, hn2, rfl, rfl, hlw, hall, hT, hp, hcs, hh, hg, hk, hB⟩ := hrel
   have HLw := Lib.hid hlw
   clear hlw
   have HAll := Lib.hid hall
   have HT := Lib.hid hT
   have H_p := Lib.hid hp
   have H_cs := Lib.hid hcs
   have H_h := Lib.hid hh
   have H_g := Lib.hid hg
   have H_k := Lib.hid hk
   have B := Lib.hid hB
   clear hall hT hp hcs hh hg hk hB
   by_cases hlt : i < 300
   ·skip
    have hltI : (i : Int) < 300 := by omega
    have hltB : decide ((i : Int) < 300) = true := decide_eq_true hltI
    have cs_0 : wr.cell? ⟨g_cs, 0, none⟩ = some (.slice A L.length cp) := by rw [row_cell H_cs.out]; rfl
    have cs_1 : wr.cell? ⟨g_cs, 1, none⟩ = some (.int .u64 tn) := by rw [row_cell H_cs.out]; rfl
    have z_cs := lt_of_heap H_cs.out
    go_upto_region 12 with fail
    try simp only [Act.put]
    go_cut [12] from 41 to 47 (fun v wx => ∃ kn : Nat, kn < 2 ∧ v = .int .i64 kn ∧ wr = wx)
    case first =>
     have m1 : bits .and .i64 (i : Int) 63 = (i : Int) % 64 := mask6 _
     go_wp2_with fail
     go_meet
     exact (bit_ex _).imp fun kn h => ⟨h.1, h.2, rfl⟩
    case rest =>
     clear cs_0 cs_1 z_cs
     obtain ⟨kn, hkn2, rfl, hwx⟩ := hcut
     subst hwx
     have Hkn := Lib.hid hkn2
     have hkI : (kn : Int) < 2 := by omega
     have hkI0 : (0 : Int) ≤ (kn : Int) := by omega
     have hkB : decide ((2 : Int) ≤ (kn : Int)) = false := decide_eq_false (by omega)
     obtain ⟨rk, rk', hrk, hrk', hrp⟩ := HAll.out.get hkn2
     have HRk := Lib.hid hrk
     have HRk' := Lib.hid hrk'
     have HRp := Lib.hid hrp
     clear hrk hrk' hrp hkn2
     obtain ⟨dn, Hdn⟩ : ∃ x, Hid (rk.done = x) := ⟨_, Lib.hid rfl⟩
     by_cases hbr : dn = true ∧ ¬ (nx < L.length ∧ nx < 30)
     ·skip
      obtain ⟨hdn, hnn⟩ := hbr
      subst hdn
      have d8 : wr.cell? ⟨g_g, kn * 26 + 21, none⟩ = some (.bool true) := runs_cell H_g.out HRk.out (by rw [← Hdn.out]; rfl)
      have z_g := lt_of_heap H_g.out
      have cs_0 : wr.cell? ⟨g_cs, 0, none⟩ = some (.slice A L.length cp) := by rw [row_cell H_cs.out]; rfl
      have cs_1 : wr.cell? ⟨g_cs, 1, none⟩ = some (.int .u64 tn) := by rw [row_cell H_cs.out]; rfl
      have z_cs := lt_of_heap H_cs.out
      by_cases hl : nx < L.length
      ·have hl2 : ¬ nx < 30 := fun h => hnn ⟨hl, h⟩
       have hI : (30 : Int) ≤ (nx : Int) := by omega
       have hB2 : decide ((L.length : Int) ≤ (nx : Int)) = false := decide_eq_false (by omega)
       have hB3 : decide ((30 : Int) ≤ (nx : Int)) = true := decide_eq_true hI
       go_wp2_with fail
       go_meet
       exact ⟨ws, HLw.out.len, HT.out, B.out⟩
      ·have hI : (L.length : Int) ≤ (nx : Int) := by omega
       have hB2 : decide (L.length ≤ nx) = true := decide_eq_true (by omega)
       go_wp2_with fail
       go_meet
       exact ⟨ws, HLw.out.len, HT.out, B.out⟩
     ·skip
      have d8 : wr.cell? ⟨g_g, kn * 26 + 21, none⟩ = some (.bool dn) := runs_cell H_g.out HRk.out (by rw [← Hdn.out]; rfl)
      have z_g := lt_of_heap H_g.out
      have cs_0 : wr.cell? ⟨g_cs, 0, none⟩ = some (.slice A L.length cp) := by rw [row_cell H_cs.out]; rfl
      have cs_1 : wr.cell? ⟨g_cs, 1, none⟩ = some (.int .u64 tn) := by rw [row_cell H_cs.out]; rfl
      have z_cs := lt_of_heap H_cs.out
      go_upto_if 51 with fail
      clear d8 z_g cs_0 cs_1 z_cs
      try simp only [Act.put]
      go_cut [10] from 51 to 77 (fun va wx => ∃ (n2 : Nat) (l2 l2' : List Rn) (r2 : Rn) (m j v : Nat), n2 ≤ L.length ∧ n2 ≤ 30 ∧ va = .int .i64 n2 ∧ l2[kn]? = some r2 ∧ l2'[kn]? = some r2 ∧ m < 3 ∧ ChM m wx FF r2.chain ∧ (SlIn c16 (chE16 m) j v r2 ∨ (r2.done = false ∧ r2.pc = 0)) ∧ AllX kn wx FF l2 l2' ∧ TwoW w.heap.size wx p b X q d 4 2 128 512 ws ws ∧ wx.heap[g_p]? = some (.cells #[.int .i64 4, .int .i64 2, .int .i64 128, .int .i64 512] 28 (0, 0)) ∧ wx.heap[g_cs]? = some (.cells #[.slice A L.length cp, .int .u64 tn] 25 (0, 0)) ∧ wx.heap[g_h]? = some (.cells (hAt 12) 32 (0, 0)) ∧ wx.heap[g_g]? = some (.cells (runsA l2) 44 (0, 0)) ∧ wx.heap[g_k]? = some (.cells (runsA l2') 44 (0, 0)) ∧ Below w.heap.size w wx)
      case first =>
       cases dn with
       | false =>
        go_wp2_with fail
        go_meet
        rcases HRp.out with h | ⟨rfl, m, j, v, h1, h2, h3⟩
        ·rw [Hdn.out] at h; cases h
        ·exact ⟨nx, l, l', _, m, j, v, hn1, hn2, rfl, HRk.out, HRk'.out, h1, h2, .inl h3, HAll.out.but kn, HT.out, H_p.out, H_cs.out, H_h.out, H_g.out, H_k.out, B.out⟩
       | true =>
        have hnx : nx < L.length ∧ nx < 30 := Decidable.not_not.1 (fun h => hbr ⟨rfl, h⟩)
        obtain ⟨hnx1, hnx2⟩ := hnx
        have hI1 : (nx : Int) < (L.length : Int) := by omega
        have hI2 : (nx : Int) < 30 := by omega
        have hI0 : (0 : Int) ≤ (nx : Int) := by omega
        have hB1 : decide (L.length ≤ nx) = false := decide_eq_false (by omega)
        have hB1' : decide ((L.length : Int) ≤ (nx : Int)) = false := decide_eq_false (by omega)
        have hB3 : decide ((30 : Int) ≤ (nx : Int)) = false := decide_eq_false (by omega)
        obtain ⟨bA, off, rfl, hbA, hcA⟩ := uses_at HL0.out (by omega)
        obtain ⟨⟨uo, un, uh, uv, ub, ua⟩, hop⟩ : ∃ o, L[nx]? = some o := ⟨_, List.getElem?_eq_getElem hnx1⟩
        have Hxyz : Hid (Use16Ok ⟨uo, un, uh, uv, ub, ua⟩) := Lib.hid (Hq.out _ (List.mem_of_getElem? hop))
        have HU0 : UseAt w bA (off + nx * 6) ⟨uo, un, uh, uv, ub, ua⟩ := ⟨hbA, hcA nx _ hop⟩
        have HU := Lib.hid (HU0.below B.out)
        have Hbg : Hid (bA ≠ g_k) := Lib.hid (by have := L_k.out; omega)
        obtain ⟨kk, Hkk⟩ : ∃ s : Nat, Hid (uo % 4 = (s : Int) ∧ s < 4) := ⟨(uo % 4).toNat, Lib.hid (by omega)⟩
        obtain ⟨m, Hm⟩ : ∃ s : Nat, Hid (un % 3 = (s : Int) ∧ s < 3) := ⟨(un % 3).toNat, Lib.hid (by omega)⟩
        obtain ⟨j, Hj⟩ : ∃ s : Nat, Hid (uh % 12 = (s : Int) ∧ s < 12) := ⟨(uh % 12).toNat, Lib.hid (by omega)⟩
        obtain ⟨v, Hv⟩ : ∃ s : Nat, Hid (uv % 12 = (s : Int) ∧ s < 12) := ⟨(uv % 12).toNat, Lib.hid (by omega)⟩
        have HlG : Hid (kn < l.length) := Lib.hid (by rw [HAll.out.1]; exact Hkn.out)
        have HlK : Hid (kn < l'.length) := Lib.hid (by rw [HAll.out.2.1]; exact Hkn.out)
        have HFl : Hid (∀ z ∈ FF, z < wr.heap.size) := Lib.hid (fun z hz => by
         have h1 := HT.out.lt b (by simp)
         have h2 := HT.out.lt d (by simp)
         have h3 := lt_of_heap H_g.out
         have h4 := lt_of_heap H_k.out
         rw [HFF.out] at hz
         simp at hz
         omega)
        clear hcA hop HU0 hbA
        have cs_0 : wr.cell? ⟨g_cs, 0, none⟩ = some (.slice (some ⟨bA, off, none⟩) L.length cp) := by rw [row_cell H_cs.out]; rfl
        have z_cs := lt_of_heap H_cs.out
        go_upto_region 15 with fail
        clear cs_0 z_cs
        try simp only [Act.put]
        go_cut [] from 61 to 70 (fun wx => ∃ R : Rn, ChM m wx FF R.chain ∧ (SlIn c16 (chE16 m) j v R ∨ (R.done = false ∧ R.pc = 0)) ∧ wx.heap[g_k]? = some (.cells (runsA (l'.set kn R)) 44 (0, 0)) ∧ Keep [g_k] wr wx)
        case first =>
         as_aux_lemma =>
          refine wp_region_held_drew (S := fun W' => W'.heap[g_p]? = some (.cells #[.int .i64 4, .int .i64 2, .int .i64 128, .int .i64 512] 28 (0, 0)) ∧ W'.heap[g_h]? = some (.cells (hAt 12) 32 (0, 0)) ∧ W'.heap[g_cs]? = some (.cells #[.slice (some ⟨bA, off, none⟩) L.length cp, .int .u64 tn] 25 (0, 0)) ∧ UseAt W' bA (off + nx * 6) ⟨uo, un, uh, uv, ub, ua⟩) (by kernel_rfl) (show wr.drew.heap[g_p]? = _ ∧ wr.drew.heap[g_h]? = _ ∧ wr.drew.heap[g_cs]? = _ ∧ UseAt wr.drew _ _ _ from ⟨H_p.out, H_h.out, H_cs.out, HU.out.below (Below.drew (Below.refl _ _))⟩) ?_
          intro hS
          have hG0 : wr.drew.heap[g_k]? = some (.cells (runsA l') 44 (0, 0)) := H_k.out
          have hK0 : Keep [g_k] wr wr.drew := (Keep.refl _ _).drew
          generalize wr.drew = y0 at hS hG0 hK0 ⊢
          refine tk (i := 0) (v := ?v0x1) (some 61) rfl rfl (Or.inl ⟨by kernel_rfl, ?h0x1⟩) ?r0x1
          case h0x1 => (intro w' hSw; obtain ⟨s1, s2, s3, s4⟩ := hSw; obtain ⟨p0, p1, p2, p3, _⟩ := box4 s1; have zp := lt_of_heap s1; obtain ⟨x0, x1, _⟩ := box2 s3; have zc := lt_of_heap s3; obtain ⟨zA, u0, u1, u2, u3, u4, u5⟩ := s4.open; go_simp; first | done | (with_reducible rfl))
          try simp only [Act.put, List.setIfInBounds_toArray, List.set_cons_succ, List.set_cons_zero]
          refine tk (i := 1) (v := ?v1x2) (some 62) rfl rfl (Or.inl ⟨by kernel_rfl, ?h1x2⟩) ?r1x2
          case h1x2 => (intro w' hSw; obtain ⟨s1, s2, s3, s4⟩ := hSw; obtain ⟨p0, p1, p2, p3, _⟩ := box4 s1; have zp := lt_of_heap s1; obtain ⟨x0, x1, _⟩ := box2 s3; have zc := lt_of_heap s3; obtain ⟨zA, u0, u1, u2, u3, u4, u5⟩ := s4.open; go_simp; first | done | (with_reducible rfl))
          try simp only [Act.put, List.setIfInBounds_toArray, List.set_cons_succ, List.set_cons_zero]
          refine tk (i := 2) (v := .agg (hAt 12)) (some 63) rfl rfl (yieldsIf_row16 (by kernel_rfl) 32 (.tmp 7) rfl g_h rfl (hAt 12) (fun W' hW' => hW'.2.1) undH12 rfl infoH12) ?_
          try simp only [Act.put, List.setIfInBounds_toArray, List.set_cons_succ, List.set_cons_zero]
          refine tk (i := 3) (v := ?v3x3) (some 64) rfl rfl (Or.inl ⟨by kernel_rfl, ?h3x3⟩) ?r3x3
          case h3x3 => (intro w' hSw; obtain ⟨s1, s2, s3, s4⟩ := hSw; obtain ⟨p0, p1, p2, p3, _⟩ := box4 s1; have zp := lt_of_heap s1; obtain ⟨x0, x1, _⟩ := box2 s3; have zc := lt_of_heap s3; obtain ⟨zA, u0, u1, u2, u3, u4, u5⟩ := s4.open; go_simp; first | done | (with_reducible rfl))
          try simp only [Act.put, List.setIfInBounds_toArray, List.set_cons_succ, List.set_cons_zero]
          refine tk (i := 4) (v := ?v4x4) (some 65) rfl rfl (Or.inl ⟨by kernel_rfl, ?h4x4⟩) ?r4x4
          case h4x4 => (intro w' hSw; obtain ⟨s1, s2, s3, s4⟩ := hSw; obtain ⟨p0, p1, p2, p3, _⟩ := box4 s1; have zp := lt_of_heap s1; obtain ⟨x0, x1, _⟩ := box2 s3; have zc := lt_of_heap s3; obtain ⟨zA, u0, u1, u2, u3, u4, u5⟩ := s4.open; go_simp; first | done | (with_reducible rfl))
          try simp only [Act.put, List.setIfInBounds_toArray, List.set_cons_succ, List.set_cons_zero]
          refine tk (i := 5) (v := ?v5x5) (some 66) rfl rfl (Or.inl ⟨by kernel_rfl, ?h5x5⟩) ?r5x5
          case h5x5 => (intro w' hSw; obtain ⟨s1, s2, s3, s4⟩ := hSw; obtain ⟨p0, p1, p2, p3, _⟩ := box4 s1; have zp := lt_of_heap s1; obtain ⟨x0, x1, _⟩ := box2 s3; have zc := lt_of_heap s3; obtain ⟨zA, u0, u1, u2, u3, u4, u5⟩ := s4.open; go_simp; first | done | (with_reducible rfl))
          try simp only [Act.put, List.setIfInBounds_toArray, List.set_cons_succ, List.set_cons_zero]
          refine tk (i := 6) (v := ?v6x6) (some 67) rfl rfl (Or.inl ⟨by kernel_rfl, ?h6x6⟩) ?r6x6
          case h6x6 => (intro w' hSw; obtain ⟨s1, s2, s3, s4⟩ := hSw; obtain ⟨p0, p1, p2, p3, _⟩ := box4 s1; have zp := lt_of_heap s1; obtain ⟨x0, x1, _⟩ := box2 s3; have zc := lt_of_heap s3; obtain ⟨zA, u0, u1, u2, u3, u4, u5⟩ := s4.open; go_simp; first | done | (with_reducible rfl))
          try simp only [Act.put, List.setIfInBounds_toArray, List.set_cons_succ, List.set_cons_zero]
          refine tk (i := 7) (v := ?v7x7) (some 68) rfl rfl (Or.inl ⟨by kernel_rfl, ?h7x7⟩) ?r7x7
          case h7x7 => (intro w' hSw; obtain ⟨s1, s2, s3, s4⟩ := hSw; obtain ⟨p0, p1, p2, p3, _⟩ := box4 s1; have zp := lt_of_heap s1; obtain ⟨x0, x1, _⟩ := box2 s3; have zc := lt_of_heap s3; obtain ⟨zA, u0, u1, u2, u3, u4, u5⟩ := s4.open; go_simp; first | done | (with_reducible rfl))
          try simp only [Act.put, List.setIfInBounds_toArray, List.set_cons_succ, List.set_cons_zero]
          refine wpAnyH_ready (rs := [8]) (by kernel_rfl) (by simp) ?_
          refine AllReadyH.cons rfl (fun K hK => ?_) AllReadyH.nil
          go_simp
          refine (call16_any uo un uh uv ub ua kk m j v _ Hxyz.out.op Hxyz.out.who Hxyz.out.h Hxyz.out.v Hxyz.out.a Hxyz.out.b Hkk.out.1 Hm.out.1 Hj.out.1 Hv.out.1).mono ?_
          rintro e' y1 ⟨kc, cA, hkc, rfl, hE, hEn, hb⟩
          obtain ⟨R, HRq⟩ : ∃ R, Hid (R = beg16k m j v kk ua ub ⟨cA, m, kc⟩) := ⟨_, Lib.hid rfl⟩
          rw [← HRq.out]
          go_simp
          have hlen := chE16_len Hm.out.2
          have hFz : ∀ z, 0 < (chE16 m).length → cA = some z → z.block ∉ FF := fun z h0 hz hm => by
           have h1 := hEn z (by omega) hz
           have h2 := HFl.out _ hm
           have h3 := hK0.size
           omega
          replace hG0 := row_below hG0 hb
          replace hK0 := hK0.call hb
          refine hK.out _ _ (⟨row_below hS.1 hb, row_below hS.2.1 hb, row_below hS.2.2.1 hb, hS.2.2.2.below hb⟩) (fun hS => ?_)
          clear hK K
          try simp only [Act.put, List.setIfInBounds_toArray, List.set_cons_succ, List.set_cons_zero]
          clear hb
          refine tk (i := 9) (v := ?v9x8) (some 70) rfl rfl (Or.inl ⟨by kernel_rfl, ?h9x8⟩) ?r9x8
          case h9x8 => (intro w' hSw; obtain ⟨s1, s2, s3, s4⟩ := hSw; obtain ⟨p0, p1, p2, p3, _⟩ := box4 s1; have zp := lt_of_heap s1; obtain ⟨x0, x1, _⟩ := box2 s3; have zc := lt_of_heap s3; obtain ⟨zA, u0, u1, u2, u3, u4, u5⟩ := s4.open; go_simp; first | done | (with_reducible rfl))
          try simp only [Act.put, List.setIfInBounds_toArray, List.set_cons_succ, List.set_cons_zero]
          refine wpAnyH_ready (rs := [10]) (by kernel_rfl) (by simp) ?_
          refine AllReadyH.cons rfl (fun K hK => ?_) AllReadyH.nil
          refine step_store_sub none rfl rfl 43 (.tmp 70) (.tmp 69) rfl g_k (kn * 26) R.arr (by first | rfl | (simp)) rfl 44 _ hG0 infoRun (by rw [runs_size]; have h3 := HlK.out; have h2 : R.arr.size = 26 := rfl; omega) (Rn.one _) ?_
          rw [runs_set HlK.out R]
          have hks := (Keep.refl [g_k] y1).setRow (g := g_k) (.inl (by simp)) (runsA (l'.set kn R))
          refine hK.out _ _ (⟨hks.row hS.1 (by simpa using M_p_k.out), hks.row hS.2.1 (by simpa using M_h_k.out), hks.row hS.2.2.1 (by simpa using M_cs_k.out), hS.2.2.2.kept hks (by simpa using Hbg.out)⟩) (fun hS => ?_)
          clear hK K
          try simp only [Act.put, List.setIfInBounds_toArray, List.set_cons_succ, List.set_cons_zero]
          refine wpAnyH_done (by kernel_rfl) ?_ _
          clear hks
          refine set_row' y1 g_k _ _ _ hG0 ?_
          intro x1 hg hK1
          have hK := hK0.trans hK1
          have hCh : ChM m x1 FF R.chain := by
           rw [HRq.out]
           exact ⟨hlen.symm, by rw [hlen]; exact hkc, ents_kept hE hK1 (fun z h0 hz hm => hFz z h0 hz (by rw [HFF.out]; simp at hm; simp [hm])), hFz⟩
          have hOr : SlIn c16 (chE16 m) j v R ∨ (R.done = false ∧ R.pc = 0) := by
           rw [HRq.out]
           exact beg16_or Hm.out.2 Hj.out.2 Hv.out.2 Hkk.out.2
          go_wp2_with fail
          go_meet
          exact ⟨R, hCh, hOr, hg, hK⟩
        case rest =>
         obtain ⟨R, hCh, hOr, hr, hK⟩ := hcut
         obtain ⟨x2, hwx⟩ : ∃ x, x = wc := ⟨_, rfl⟩
         subst hwx
         have HOr := Lib.hid hOr
         have HCh := Lib.hid hCh
         clear hOr hCh
         replace HAll := Lib.hid (HAll.out.kept hK (by rw [HFF.out]; simp))
         have hszK := hK.size
         replace H_p := Lib.hid (hK.row H_p.out (by simpa using M_p_k.out))
         replace H_cs := Lib.hid (hK.row H_cs.out (by simpa using M_cs_k.out))
         replace H_h := Lib.hid (hK.row H_h.out (by simpa using M_h_k.out))
         replace H_g := Lib.hid (hK.row H_g.out (by simpa using M_g_k.out))
         replace HT := Lib.hid (HT.out.kept hK (fun j hj => by simp only [List.mem_singleton] at hj; subst hj; exact N_k.out))
         replace B := Lib.hid (Keep.under B.out hK (by have := B.out.size; omega) (by simp; exact L_k.out))
         replace H_k := Lib.hid hr
         clear hr hK hszK HU HFl Hxyz
         have Hk0 : Hid ((l'.set kn R)[kn]? = some R) := Lib.hid (by rw [List.getElem?_set, if_pos rfl, if_pos HlK.out])
         have Hk1 : Hid ((l.set kn R)[kn]? = some R) := Lib.hid (by rw [List.getElem?_set, if_pos rfl, if_pos HlG.out])
         go_wp2_with (first | (refine wpList_load_sub rfl 43 (.tmp 73) rfl g_k (kn * 26) rfl 44 (runsA (l'.set kn R)) (Rn.arr R) (0, 0) _ H_k.out (fun j v hv => runs_get Hk0.out hv) undRun rfl infoRun ?_; (try simp only [Act.put, List.setIfInBounds_toArray, List.set_cons_succ, List.set_cons_zero])) | (refine wpList_store_sub rfl 43 (.tmp 75) (.tmp 74) rfl g_g (kn * 26) (Rn.arr R) rfl rfl 44 _ H_g.out infoRun (by rw [runs_size]; have h1 := HlG.out; have h2 : (Rn.arr R).size = 26 := rfl; (try rw [List.length_set]); omega) (Rn.one _) ?_; (try simp only [Act.put, List.setIfInBounds_toArray, List.set_cons_succ, List.set_cons_zero])))
         rw [runs_set HlG.out R]
         refine set_row' x2 g_g _ _ _ H_g.out ?_
         intro x3 hr hK
         go_meet
         exact ⟨nx + 1, _, _, R, m, j, v, by omega, by omega, by go_num, Hk1.out, Hk0.out, Hm.out.2, HCh.out.kept hK (by rw [HFF.out]; simp), HOr.out, (((HAll.out.but kn).kept hK (by rw [HFF.out]; simp)).setA R).setB R, HT.out.kept hK (fun j hj => by simp only [List.mem_singleton] at hj; subst hj; exact N_g.out), hK.row H_p.out (by simpa using M_p_g.out), hK.row H_cs.out (by simpa using M_cs_g.out), hK.row H_h.out (by simpa using M_h_g.out), hr, hK.row H_k.out (by simpa using M_k_g.out), Keep.under B.out hK (by have := B.out.size; omega) (by simp; exact L_g.out)⟩
      case rest =>
       obtain ⟨n2, l2, l2', r2, m, j, v, hn1, hn2, rfl, hka, hkb, hm3, hch, hor, hall, hT, hp, hcs, hh, hg, hk, hB⟩ := hcut
       obtain ⟨x4, hwx⟩ : ∃ x, x = wc := ⟨_, rfl⟩
       subst hwx
       clear HT H_p H_cs H_h H_g H_k B HAll HRk HRk' HRp Hdn hbr
       have HAll := Lib.hid hall
       have HT := Lib.hid hT
       have H_p := Lib.hid hp
       have H_cs := Lib.hid hcs
       have H_h := Lib.hid hh
       have H_g := Lib.hid hg
       have H_k := Lib.hid hk
       have B := Lib.hid hB
       clear hall hT hp hcs hh hg hk hB
       have HkA := Lib.hid hka
       have HkB := Lib.hid hkb
       have Hm3 := Lib.hid hm3
       have HCh := Lib.hid hch
       have HlG : Hid (kn < l2.length) := Lib.hid (by rw [HAll.out.1]; exact Hkn.out)
       have HlK : Hid (kn < l2'.length) := Lib.hid (by rw [HAll.out.2.1]; exact Hkn.out)
       have HLn : Hid ((chE16 m).length ≤ 1048576) := Lib.hid (by rw [chE16_len hm3]; omega)
       clear hka hkb hm3 hch
       rcases hor with hin | ⟨hd0, hp0⟩
       ·skip
        have HIn := Lib.hid hin
        clear hin
        have Hpc := Lib.hid HIn.out.pc
        have Hd0 := Lib.hid HIn.out.done
        obtain ⟨R3, HR3⟩ : ∃ x, Hid (slR c16 (chE16 m) ws j v r2 = x) := ⟨_, Lib.hid rfl⟩
        obtain ⟨W3, HW3⟩ : ∃ x, Hid (slW ws r2 = x) := ⟨_, Lib.hid rfl⟩
        have HSt := Lib.hid (sl_stays (ws := ws) HIn.out)
        have HNx := Lib.hid (sl_in HLw.out HIn.out)
        have HLw3 := Lib.hid (slW_lw HLw.out HIn.out)
        rw [HR3.out] at HSt HNx
        rw [HW3.out] at HLw3
        go_wp2_with (refine wpList_load_sub rfl 43 (.tmp 79) rfl g_g (kn * 26) rfl 44 (runsA l2) (Rn.arr r2) (0, 0) _ H_g.out (fun j v hv => runs_get HkA.out hv) undRun rfl infoRun ?_; (try simp only [Act.put, List.setIfInBounds_toArray, List.set_cons_succ, List.set_cons_zero]))
        refine (rIs_yes r2 _ Hd0.out Hpc.out).mono ?_
        rintro r x5 ⟨rfl, hb⟩
        replace HAll := Lib.hid (HAll.out.below hb)
        replace HCh := Lib.hid (HCh.out.below hb)
        have hsz := (hb).size
        replace H_cs := Lib.hid (row_below H_cs.out hb)
        replace H_p := Lib.hid (row_below H_p.out hb)
        replace H_h := Lib.hid (row_below H_h.out hb)
        replace H_g := Lib.hid (row_below H_g.out hb)
        replace H_k := Lib.hid (row_below H_k.out hb)
        replace HT := Lib.hid (HT.out.below hb)
        replace B := Lib.hid (below_only B.out hb)
        clear hb hsz
        go_upto_region 19 with fail
        try simp only [Act.put]
        go_cut [14, 15] from 82 to 90 (fun vd ve wx => ∃ gZ, vd = .pointer (some ⟨gZ, 0, none⟩) ∧ ve = .int .i64 0 ∧ x5.heap.size ≤ gZ ∧ wx.heap[gZ]? = some (.cells R3.arr 43 (0, 0)) ∧ Arn wx p b W3 ∧ Keep [b] x5 wx)
        case first =>
         as_aux_lemma =>
          refine wp_region_held_drew (S := fun W' => W'.heap[g_p]? = some (.cells #[.int .i64 4, .int .i64 2, .int .i64 128, .int .i64 512] 28 (0, 0)) ∧ W'.heap[g_g]? = some (.cells (runsA l2) 44 (0, 0))) (by kernel_rfl) (show x5.drew.heap[g_p]? = _ ∧ x5.drew.heap[g_g]? = _ from ⟨H_p.out, H_g.out⟩) ?_
          intro hS
          have hA : Arn x5.drew p b ws := HT.out.a.drew
          have hK0 : Keep [b] x5 x5.drew := (Keep.refl _ _).drew
          have hC0 := HCh.out.below (show Below x5.heap.size x5 x5.drew from Below.drew (Below.refl _ _))
          generalize x5.drew = y0 at hS hA hK0 hC0 ⊢
          refine tk (i := 0) (v := ?v0x9) (some 83) rfl rfl (Or.inl ⟨by kernel_rfl, ?h0x9⟩) ?r0x9
          case h0x9 => (intro w' hSw; obtain ⟨s1, s2⟩ := hSw; obtain ⟨p0, p1, p2, p3, _⟩ := box4 s1; have zp := lt_of_heap s1; have zg := lt_of_heap s2; go_simp; first | done | (with_reducible rfl))
          try simp only [Act.put, List.setIfInBounds_toArray, List.set_cons_succ, List.set_cons_zero]
          refine tk (i := 1) (v := ?v1x10) (some 84) rfl rfl (Or.inl ⟨by kernel_rfl, ?h1x10⟩) ?r1x10
          case h1x10 => (intro w' hSw; obtain ⟨s1, s2⟩ := hSw; obtain ⟨p0, p1, p2, p3, _⟩ := box4 s1; have zp := lt_of_heap s1; have zg := lt_of_heap s2; go_simp; first | done | (with_reducible rfl))
          try simp only [Act.put, List.setIfInBounds_toArray, List.set_cons_succ, List.set_cons_zero]
          refine tk (i := 2) (v := ?v2x11) (some 85) rfl rfl (Or.inl ⟨by kernel_rfl, ?h2x11⟩) ?r2x11
          case h2x11 => (intro w' hSw; obtain ⟨s1, s2⟩ := hSw; obtain ⟨p0, p1, p2, p3, _⟩ := box4 s1; have zp := lt_of_heap s1; have zg := lt_of_heap s2; go_simp; first | done | (with_reducible rfl))
          try simp only [Act.put, List.setIfInBounds_toArray, List.set_cons_succ, List.set_cons_zero]
          refine tk (i := 3) (v := ?v3x12) (some 86) rfl rfl (Or.inl ⟨by kernel_rfl, ?h3x12⟩) ?r3x12
          case h3x12 => (intro w' hSw; obtain ⟨s1, s2⟩ := hSw; obtain ⟨p0, p1, p2, p3, _⟩ := box4 s1; have zp := lt_of_heap s1; have zg := lt_of_heap s2; go_simp; first | done | (with_reducible rfl))
          try simp only [Act.put, List.setIfInBounds_toArray, List.set_cons_succ, List.set_cons_zero]
          refine tk (i := 4) (v := .agg (Rn.arr r2)) (some 87) rfl rfl (yieldsIf_load_sub (by kernel_rfl) 43 (.tmp 86) rfl g_g (kn * 26) rfl (runsA l2) (Rn.arr r2) (fun W' hW' => hW'.2) (fun j v hv => runs_get HkA.out hv) undRun rfl infoRun) ?_
          try simp only [Act.put, List.setIfInBounds_toArray, List.set_cons_succ, List.set_cons_zero]
          refine wpAnyH_ready (rs := [5, 9]) (by kernel_rfl) (by simp) ?_
          refine AllReadyH.cons rfl (fun K hK => ?_) (AllReadyH.cons rfl (fun K hK => ?_) AllReadyH.nil)
          ·skip
           go_simp
           refine (slStep_any c16 (chE16 m) j v p b ws r2 _ hA HLw.out HIn.out HLn.out hC0.n hC0.c hC0.e).mono ?_
           rintro e' yS ⟨h9, hA1, hK1⟩
           rw [HR3.out] at h9
           rw [HW3.out] at hA1
           subst h9
           go_simp
           replace hK0 := hK0.trans hK1
           clear hA hC0
           have hA := hA1
           clear hA1
           refine hK.out _ _ (⟨hK1.row hS.1 (by simpa using (HT.out.nb N_p.out).1), hK1.row hS.2 (by simpa using (HT.out.nb N_g.out).1)⟩) (fun hS => ?_)
           clear hK K
           try simp only [Act.put, List.setIfInBounds_toArray, List.set_cons_succ, List.set_cons_zero]
           refine tk (i := 6) (v := ?v6x13) (some 82) rfl rfl (Or.inl ⟨by kernel_rfl, ?h6x13⟩) ?r6x13
           case h6x13 => (intro w' hSw; obtain ⟨s1, s2⟩ := hSw; obtain ⟨p0, p1, p2, p3, _⟩ := box4 s1; have zp := lt_of_heap s1; have zg := lt_of_heap s2; go_simp; first | done | (with_reducible rfl))
           try simp only [Act.put, List.setIfInBounds_toArray, List.set_cons_succ, List.set_cons_zero]
           refine tk (i := 7) (v := ?v7x14) (some 89) rfl rfl (Or.inl ⟨by kernel_rfl, ?h7x14⟩) ?r7x14
           case h7x14 => (intro w' hSw; obtain ⟨s1, s2⟩ := hSw; obtain ⟨p0, p1, p2, p3, _⟩ := box4 s1; have zp := lt_of_heap s1; have zg := lt_of_heap s2; go_simp; first | done | (with_reducible rfl))
           try simp only [Act.put, List.setIfInBounds_toArray, List.set_cons_succ, List.set_cons_zero]
           refine tk (i := 8) (v := ?v8x15) (some 90) rfl rfl (Or.inl ⟨by kernel_rfl, ?h8x15⟩) ?r8x15
           case h8x15 => (intro w' hSw; obtain ⟨s1, s2⟩ := hSw; obtain ⟨p0, p1, p2, p3, _⟩ := box4 s1; have zp := lt_of_heap s1; have zg := lt_of_heap s2; go_simp; first | done | (with_reducible rfl))
           try simp only [Act.put, List.setIfInBounds_toArray, List.set_cons_succ, List.set_cons_zero]
           refine wpAnyH_ready (rs := [9]) (by kernel_rfl) (by simp) ?_
           refine AllReadyH.cons rfl (fun K hK => ?_) AllReadyH.nil
           refine step_alloc_run (some 14) rfl rfl rfl ?_
           refine k_alloc (fun yZ hZ hb => ?_)
           have hz1 := lt_of_heap hA.box
           have hz2 := lt_of_heap hA.row
           have hz3 := lt_of_heap hS.1
           have hz5 := lt_of_heap hS.2
           have hz4 := hK0.size
           obtain ⟨gZ, HgZ⟩ : ∃ x, x = yS.heap.size := ⟨_, rfl⟩
           rw [← HgZ] at hZ hz1 hz2 hz3 hz4 hz5 ⊢
           clear HgZ
           have hq1 : p ≠ gZ := by omega
           have hq2 : gZ ≠ b := by omega
           have hq3 : g_p ≠ gZ := by omega
           have hq4 : g_g ≠ gZ := by omega
           clear hz1 hz2 hz3 hz5
           replace hA := hA.below hb
           replace hK0 := hK0.call hb
           refine hK.out _ _ (⟨row_below hS.1 hb, row_below hS.2 hb⟩) (fun hS => ?_)
           clear hK K
           try simp only [Act.put, List.setIfInBounds_toArray, List.set_cons_succ, List.set_cons_zero]
           refine wpAnyH_ready (rs := [10]) (by kernel_rfl) (by simp) ?_
           refine AllReadyH.cons rfl (fun K hK => ?_) AllReadyH.nil
           refine step_store_row none rfl rfl 43 (.tmp 14) (.tmp 89) rfl gZ R3.arr rfl rfl 43 ZRun hZ infoRun rfl (Rn.one _) ?_
           refine hK.out _ _ (⟨(setRow_other _ _ _ _ hq3).trans hS.1, (setRow_other _ _ _ _ hq4).trans hS.2⟩) (fun hS => ?_)
           clear hK K
           try simp only [Act.put, List.setIfInBounds_toArray, List.set_cons_succ, List.set_cons_zero]
           refine tk (i := 11) (v := ?v11x16) (some 15) rfl rfl (Or.inl ⟨by kernel_rfl, ?h11x16⟩) ?r11x16
           case h11x16 => (intro w' hSw; obtain ⟨s1, s2⟩ := hSw; obtain ⟨p0, p1, p2, p3, _⟩ := box4 s1; have zp := lt_of_heap s1; have zg := lt_of_heap s2; go_simp; first | done | (with_reducible rfl))
           try simp only [Act.put, List.setIfInBounds_toArray, List.set_cons_succ, List.set_cons_zero]
           refine wpAnyH_done (by kernel_rfl) ?_ _
           go_wp2_with fail
           go_meet
           have hks := (Keep.refl [gZ] yZ).setRow (g := gZ) (.inl (by simp)) R3.arr
           exact ⟨gZ, rfl, rfl, hz4, setRow_heap _ _ _ _ _ _ hZ, hA.kept hks (by simpa using hq1) (by simpa using fun e => hq2 e.symm), hK0.setRow (.inr hz4) _⟩
          ·skip
           refine step_alloc_run (some 14) rfl rfl rfl ?_
           refine k_alloc (fun yZ hZ hb => ?_)
           have hz1 := lt_of_heap hA.box
           have hz2 := lt_of_heap hA.row
           have hz3 := lt_of_heap hS.1
           have hz5 := lt_of_heap hS.2
           have hz4 := hK0.size
           obtain ⟨gZ, HgZ⟩ : ∃ x, x = y0.heap.size := ⟨_, rfl⟩
           rw [← HgZ] at hZ hz1 hz2 hz3 hz4 hz5 ⊢
           clear HgZ
           have hq1 : p ≠ gZ := by omega
           have hq2 : gZ ≠ b := by omega
           have hq3 : g_p ≠ gZ := by omega
           have hq4 : g_g ≠ gZ := by omega
           clear hz1 hz2 hz3 hz5
           replace hA := hA.below hb
           replace hK0 := hK0.call hb
           replace hC0 := hC0.below hb
           refine hK.out _ _ (⟨row_below hS.1 hb, row_below hS.2 hb⟩) (fun hS => ?_)
           clear hK K
           try simp only [Act.put, List.setIfInBounds_toArray, List.set_cons_succ, List.set_cons_zero]
           refine wpAnyH_ready (rs := [5]) (by kernel_rfl) (by simp) ?_
           refine AllReadyH.cons rfl (fun K hK => ?_) AllReadyH.nil
           go_simp
           refine (slStep_any c16 (chE16 m) j v p b ws r2 _ hA HLw.out HIn.out HLn.out hC0.n hC0.c hC0.e).mono ?_
           rintro e' yS ⟨h9, hA1, hK1⟩
           rw [HR3.out] at h9
           rw [HW3.out] at hA1
           subst h9
           go_simp
           replace hK0 := hK0.trans hK1
           replace hZ := hK1.row hZ (by simpa using hq2)
           clear hA hC0
           have hA := hA1
           clear hA1
           refine hK.out _ _ (⟨hK1.row hS.1 (by simpa using (HT.out.nb N_p.out).1), hK1.row hS.2 (by simpa using (HT.out.nb N_g.out).1)⟩) (fun hS => ?_)
           clear hK K
           try simp only [Act.put, List.setIfInBounds_toArray, List.set_cons_succ, List.set_cons_zero]
           refine tk (i := 6) (v := ?v6x17) (some 82) rfl rfl (Or.inl ⟨by kernel_rfl, ?h6x17⟩) ?r6x17
           case h6x17 => (intro w' hSw; obtain ⟨s1, s2⟩ := hSw; obtain ⟨p0, p1, p2, p3, _⟩ := box4 s1; have zp := lt_of_heap s1; have zg := lt_of_heap s2; go_simp; first | done | (with_reducible rfl))
           try simp only [Act.put, List.setIfInBounds_toArray, List.set_cons_succ, List.set_cons_zero]
           refine tk (i := 7) (v := ?v7x18) (some 89) rfl rfl (Or.inl ⟨by kernel_rfl, ?h7x18⟩) ?r7x18
           case h7x18 => (intro w' hSw; obtain ⟨s1, s2⟩ := hSw; obtain ⟨p0, p1, p2, p3, _⟩ := box4 s1; have zp := lt_of_heap s1; have zg := lt_of_heap s2; go_simp; first | done | (with_reducible rfl))
           try simp only [Act.put, List.setIfInBounds_toArray, List.set_cons_succ, List.set_cons_zero]
           refine tk (i := 8) (v := ?v8x19) (some 90) rfl rfl (Or.inl ⟨by kernel_rfl, ?h8x19⟩) ?r8x19
           case h8x19 => (intro w' hSw; obtain ⟨s1, s2⟩ := hSw; obtain ⟨p0, p1, p2, p3, _⟩ := box4 s1; have zp := lt_of_heap s1; have zg := lt_of_heap s2; go_simp; first | done | (with_reducible rfl))
           try simp only [Act.put, List.setIfInBounds_toArray, List.set_cons_succ, List.set_cons_zero]
           refine wpAnyH_ready (rs := [10]) (by kernel_rfl) (by simp) ?_
           refine AllReadyH.cons rfl (fun K hK => ?_) AllReadyH.nil
           refine step_store_row none rfl rfl 43 (.tmp 14) (.tmp 89) rfl gZ R3.arr rfl rfl 43 ZRun hZ infoRun rfl (Rn.one _) ?_
           refine hK.out _ _ (⟨(setRow_other _ _ _ _ hq3).trans hS.1, (setRow_other _ _ _ _ hq4).trans hS.2⟩) (fun hS => ?_)
           clear hK K
           try simp only [Act.put, List.setIfInBounds_toArray, List.set_cons_succ, List.set_cons_zero]
           refine tk (i := 11) (v := ?v11x20) (some 15) rfl rfl (Or.inl ⟨by kernel_rfl, ?h11x20⟩) ?r11x20
           case h11x20 => (intro w' hSw; obtain ⟨s1, s2⟩ := hSw; obtain ⟨p0, p1, p2, p3, _⟩ := box4 s1; have zp := lt_of_heap s1; have zg := lt_of_heap s2; go_simp; first | done | (with_reducible rfl))
           try simp only [Act.put, List.setIfInBounds_toArray, List.set_cons_succ, List.set_cons_zero]
           refine wpAnyH_done (by kernel_rfl) ?_ _
           go_wp2_with fail
           go_meet
           have hks := (Keep.refl [gZ] yS).setRow (g := gZ) (.inl (by simp)) R3.arr
           exact ⟨gZ, rfl, rfl, hz4, setRow_heap _ _ _ _ _ _ hZ, hA.kept hks (by simpa using hq1) (by simpa using fun e => hq2 e.symm), hK0.setRow (.inr hz4) _⟩
        case rest =>
         obtain ⟨g_o, rfl, rfl, hgo, hro, hA, hK⟩ := hcut
         obtain ⟨x6, hwx⟩ : ∃ x, x = wc := ⟨_, rfl⟩
         subst hwx
         have N_o : Hid (g_o ∉ [p, b, X, q, d]) := Lib.hid (HT.out.fresh hgo)
         have M_o_g : Hid (g_o ≠ g_g) := Lib.hid (by have := lt_of_heap H_g.out; omega)
         have M_o_k : Hid (g_o ≠ g_k) := Lib.hid (by have := lt_of_heap H_k.out; omega)
         clear hgo
         replace HAll := Lib.hid (HAll.out.kept hK (by rw [HFF.out]; simp))
         replace HCh := Lib.hid (HCh.out.kept hK (by rw [HFF.out]; simp))
         have hszK := hK.size
         replace H_cs := Lib.hid (hK.row H_cs.out (by simpa using (HT.out.nb N_cs.out).1))
         replace H_p := Lib.hid (hK.row H_p.out (by simpa using (HT.out.nb N_p.out).1))
         replace H_h := Lib.hid (hK.row H_h.out (by simpa using (HT.out.nb N_h.out).1))
         replace H_g := Lib.hid (hK.row H_g.out (by simpa using (HT.out.nb N_g.out).1))
         replace H_k := Lib.hid (hK.row H_k.out (by simpa using (HT.out.nb N_k.out).1))
         replace B := Lib.hid (HT.out.under B.out hK (by simp))
         replace HT := Lib.hid (HT.out.onA hA hK)
         clear hA hK hszK
         have H_o := Lib.hid (show x6.heap[g_o]? = some (.cells R3.arr 43 (0, 0)) from hro)
         clear hro
         go_wp2_with (first | (refine wpList_load_sub rfl 43 (.tmp 101) rfl g_k (kn * 26) rfl 44 (runsA l2') (Rn.arr r2) (0, 0) _ H_k.out (fun j v hv => runs_get HkB.out hv) undRun rfl infoRun ?_; (try simp only [Act.put, List.setIfInBounds_toArray, List.set_cons_succ, List.set_cons_zero])))
         refine (rslStep_any c16 (chE16 m) j v X q d ws r2 _ HT.out.x HLw.out HIn.out HLn.out HCh.out.n HCh.out.c HCh.out.e).mono ?_
         rintro r x7 ⟨h9, hX, hK⟩
         rw [HR3.out] at h9
         rw [HW3.out] at hX
         subst h9
         replace HAll := Lib.hid (HAll.out.kept hK (by rw [HFF.out]; simp))
         replace HCh := Lib.hid (HCh.out.kept hK (by rw [HFF.out]; simp))
         have hszK := hK.size
         replace H_cs := Lib.hid (hK.row H_cs.out (by simpa using (HT.out.nb N_cs.out).2))
         replace H_p := Lib.hid (hK.row H_p.out (by simpa using (HT.out.nb N_p.out).2))
         replace H_h := Lib.hid (hK.row H_h.out (by simpa using (HT.out.nb N_h.out).2))
         replace H_g := Lib.hid (hK.row H_g.out (by simpa using (HT.out.nb N_g.out).2))
         replace H_k := Lib.hid (hK.row H_k.out (by simpa using (HT.out.nb N_k.out).2))
         replace H_o := Lib.hid (hK.row H_o.out (by simpa using (HT.out.nb N_o.out).2))
         replace B := Lib.hid (HT.out.under B.out hK (by simp))
         replace HT := Lib.hid (HT.out.onX hX hK)
         clear hX hK hszK
         go_upto_region 25 with (first | (refine wpList_store_sub rfl 43 (.tmp 104) (.tmp 103) rfl g_k (kn * 26) (Rn.arr R3) rfl rfl 44 _ H_k.out infoRun (by rw [runs_size]; have h1 := HlK.out; have h2 : (Rn.arr R3).size = 26 := rfl; (try rw [List.length_set]); omega) (Rn.one _) ?_; (try simp only [Act.put, List.setIfInBounds_toArray, List.set_cons_succ, List.set_cons_zero])))
         rw [runs_set HlK.out R3]
         refine set_row' x7 g_k _ _ _ H_k.out ?_
         intro x8 hr hK
         have hszK := hK.size
         replace HAll := Lib.hid (HAll.out.kept hK (by rw [HFF.out]; simp))
         replace HCh := Lib.hid (HCh.out.kept hK (by rw [HFF.out]; simp))
         replace H_cs := Lib.hid (hK.row H_cs.out (by simpa using M_cs_k.out))
         replace H_p := Lib.hid (hK.row H_p.out (by simpa using M_p_k.out))
         replace H_h := Lib.hid (hK.row H_h.out (by simpa using M_h_k.out))
         replace H_g := Lib.hid (hK.row H_g.out (by simpa using M_g_k.out))
         replace H_o := Lib.hid (hK.row H_o.out (by simpa using M_o_k.out))
         replace HT := Lib.hid (HT.out.kept hK (fun j hj => by simp only [List.mem_singleton] at hj; subst hj; exact N_k.out))
         replace B := Lib.hid (Keep.under B.out hK (by have := B.out.size; omega) (by simp; exact L_k.out))
         replace H_k := Lib.hid hr
         clear hr hK hszK
         have HkC : Hid ((l2'.set kn R3)[kn]? = some R3) := Lib.hid (by rw [List.getElem?_set, if_pos rfl, if_pos HlK.out])
         try simp only [Act.put]
         go_cut [16] from 105 to 109 (fun vd wx => vd = .bool true ∧ Below x8.heap.size x8 wx)
         case first =>
          as_aux_lemma =>
           refine wp_region_held_drew (S := fun W' => W'.heap[g_o]? = some (.cells R3.arr 43 (0, 0)) ∧ W'.heap[g_k]? = some (.cells (runsA (l2'.set kn R3)) 44 (0, 0))) (by kernel_rfl) (show x8.drew.heap[g_o]? = _ ∧ x8.drew.heap[g_k]? = _ from ⟨H_o.out, H_k.out⟩) ?_
           intro hS
           have hb0 : Below x8.heap.size x8 x8.drew := Below.drew (Below.refl _ _)
           generalize x8.drew = y0 at hS hb0 ⊢
           refine tk (i := 0) (v := .agg R3.arr) (some 105) rfl rfl (yieldsIf_load_row (by kernel_rfl) 43 (.tmp 14) rfl g_o rfl R3.arr (fun W' hW' => hW'.1) undRun rfl infoRun) ?_
           try simp only [Act.put, List.setIfInBounds_toArray, List.set_cons_succ, List.set_cons_zero]
           refine tk (i := 1) (v := ?v1x21) (some 106) rfl rfl (Or.inl ⟨by kernel_rfl, ?h1x21⟩) ?r1x21
           case h1x21 => (intro w' hSw; obtain ⟨s1, s2⟩ := hSw; have zo := lt_of_heap s1; have zg := lt_of_heap s2; go_simp; first | done | (with_reducible rfl))
           try simp only [Act.put, List.setIfInBounds_toArray, List.set_cons_succ, List.set_cons_zero]
           refine tk (i := 2) (v := ?v2x22) (some 107) rfl rfl (Or.inl ⟨by kernel_rfl, ?h2x22⟩) ?r2x22
           case h2x22 => (intro w' hSw; obtain ⟨s1, s2⟩ := hSw; have zo := lt_of_heap s1; have zg := lt_of_heap s2; go_simp; first | done | (with_reducible rfl))
           try simp only [Act.put, List.setIfInBounds_toArray, List.set_cons_succ, List.set_cons_zero]
           refine tk (i := 3) (v := .agg (Rn.arr R3)) (some 108) rfl rfl (yieldsIf_load_sub (by kernel_rfl) 43 (.tmp 107) rfl g_k (kn * 26) rfl (runsA (l2'.set kn R3)) (Rn.arr R3) (fun W' hW' => hW'.2) (fun j v hv => runs_get HkC.out hv) undRun rfl infoRun) ?_
           try simp only [Act.put, List.setIfInBounds_toArray, List.set_cons_succ, List.set_cons_zero]
           refine wpAnyH_ready (rs := [4]) (by kernel_rfl) (by simp) ?_
           refine AllReadyH.cons rfl (fun K hK => ?_) AllReadyH.nil
           go_simp
           have hC1 := HCh.out.below hb0
           refine (same_self R3 r2.chain.a r2.chain.c (chE16 m) _ (by rw [HSt.out.1, ← hC1.n]) HLn.out hC1.e HSt.out.2.2.1 HSt.out.2.1 HSt.out.2.2.2.1).mono ?_
           clear hC1
           rintro e' yS ⟨rfl, hb⟩
           go_simp
           replace hb0 := below_only hb0 hb
           refine hK.out _ _ (⟨row_below hS.1 hb, row_below hS.2 hb⟩) (fun hS => ?_)
           clear hK K
           try simp only [Act.put, List.setIfInBounds_toArray, List.set_cons_succ, List.set_cons_zero]
           refine tk (i := 5) (v := ?v5x23) (some 16) rfl rfl (Or.inl ⟨by kernel_rfl, ?h5x23⟩) ?r5x23
           case h5x23 => (intro w' hSw; obtain ⟨s1, s2⟩ := hSw; have zo := lt_of_heap s1; have zg := lt_of_heap s2; go_simp; first | done | (with_reducible rfl))
           try simp only [Act.put, List.setIfInBounds_toArray, List.set_cons_succ, List.set_cons_zero]
           refine wpAnyH_done (by kernel_rfl) ?_ _
           go_wp2_with fail
           go_meet
           exact ⟨rfl, hb0⟩
         case rest =>
          obtain ⟨rfl, hb⟩ := hcut
          obtain ⟨x9, hwx⟩ : ∃ x, x = wc := ⟨_, rfl⟩
          subst hwx
          replace HAll := Lib.hid (HAll.out.below hb)
          replace HCh := Lib.hid (HCh.out.below hb)
          have hsz := (hb).size
          replace H_cs := Lib.hid (row_below H_cs.out hb)
          replace H_p := Lib.hid (row_below H_p.out hb)
          replace H_h := Lib.hid (row_below H_h.out hb)
          replace H_g := Lib.hid (row_below H_g.out hb)
          replace H_k := Lib.hid (row_below H_k.out hb)
          replace H_o := Lib.hid (row_below H_o.out hb)
          replace HT := Lib.hid (HT.out.below hb)
          replace B := Lib.hid (below_only B.out hb)
          clear hb hsz
          go_upto_region 11 with (first | (refine wpList_load_row rfl 43 (.tmp 14) rfl g_o rfl 43 R3.arr (0, 0) _ H_o.out undRun rfl infoRun ?_; (try simp only [Act.put, List.setIfInBounds_toArray, List.set_cons_succ, List.set_cons_zero])) | (refine wpList_store_sub rfl 43 (.tmp 118) (.tmp 117) rfl g_g (kn * 26) (Rn.arr R3) rfl rfl 44 _ H_g.out infoRun (by rw [runs_size]; have h1 := HlG.out; have h2 : (Rn.arr R3).size = 26 := rfl; (try rw [List.length_set]); omega) (Rn.one _) ?_; (try simp only [Act.put, List.setIfInBounds_toArray, List.set_cons_succ, List.set_cons_zero])))
          rw [runs_set HlG.out R3]
          refine set_row' x9 g_g _ _ _ H_g.out ?_
          intro x10 hr hK
          have hszK := hK.size
          replace HAll := Lib.hid (HAll.out.kept hK (by rw [HFF.out]; simp))
          replace HCh := Lib.hid (HCh.out.kept hK (by rw [HFF.out]; simp))
          replace H_cs := Lib.hid (hK.row H_cs.out (by simpa using M_cs_g.out))
          replace H_p := Lib.hid (hK.row H_p.out (by simpa using M_p_g.out))
          replace H_h := Lib.hid (hK.row H_h.out (by simpa using M_h_g.out))
          replace H_k := Lib.hid (hK.row H_k.out (by simpa using M_k_g.out))
          replace H_o := Lib.hid (hK.row H_o.out (by simpa using M_o_g.out))
          replace HT := Lib.hid (HT.out.kept hK (fun j hj => by simp only [List.mem_singleton] at hj; subst hj; exact N_g.out))
          replace B := Lib.hid (Keep.under B.out hK (by have := B.out.size; omega) (by simp; exact L_g.out))
          replace H_g := Lib.hid hr
          clear hr hK hszK
          have HkE : Hid ((l2.set kn R3)[kn]? = some R3) := Lib.hid (by rw [List.getElem?_set, if_pos rfl, if_pos HlG.out])
          go_wp2_with fail
          go_roundw
          case rel => exact ⟨i + 1, n2, W3, _, _, by omega, hn1, hn2, rfl, by go_num, HLw3.out, ((HAll.out.setA R3).setB R3).all HkE.out HkC.out (by
            rcases HNx.out with h | h
            ·exact .inl h
            ·exact .inr ⟨rfl, m, j, v, Hm3.out, by rw [HSt.out.1]; exact HCh.out, h⟩), HT.out, H_p.out, H_cs.out, H_h.out, H_g.out, H_k.out, B.out⟩
          case measure => simp [intOf]; omega
       ·skip
        have Hd0 := Lib.hid hd0
        have Hp0 := Lib.hid hp0
        clear hd0 hp0
        have Hnp : Hid (inB r2.pc 5 12 = false) := Lib.hid (by rw [Hp0.out]; decide)
        go_wp2_with (refine wpList_load_sub rfl 43 (.tmp 79) rfl g_g (kn * 26) rfl 44 (runsA l2) (Rn.arr r2) (0, 0) _ H_g.out (fun j v hv => runs_get HkA.out hv) undRun rfl infoRun ?_; (try simp only [Act.put, List.setIfInBounds_toArray, List.set_cons_succ, List.set_cons_zero]))
        refine (rIs_no r2 _ Hd0.out Hp0.out).mono ?_
        rintro r x5 ⟨rfl, hb⟩
        replace HAll := Lib.hid (HAll.out.below hb)
        replace HCh := Lib.hid (HCh.out.below hb)
        have hsz := (hb).size
        replace H_cs := Lib.hid (row_below H_cs.out hb)
        replace H_p := Lib.hid (row_below H_p.out hb)
        replace H_h := Lib.hid (row_below H_h.out hb)
        replace H_g := Lib.hid (row_below H_g.out hb)
        replace H_k := Lib.hid (row_below H_k.out hb)
        replace HT := Lib.hid (HT.out.below hb)
        replace B := Lib.hid (below_only B.out hb)
        clear hb hsz
        go_upto_region 19 with fail
        try simp only [Act.put]
        go_cut [14, 15] from 82 to 90 (fun vd ve wx => ∃ gZ, vd = .pointer (some ⟨gZ, 0, none⟩) ∧ ve = .int .i64 1 ∧ x5.heap.size ≤ gZ ∧ wx.heap[gZ]? = some (.cells ZRun 43 (0, 0)) ∧ Arn wx p b ws ∧ Keep [b] x5 wx)
        case first =>
         as_aux_lemma =>
          refine wp_region_held_drew (S := fun W' => W'.heap[g_p]? = some (.cells #[.int .i64 4, .int .i64 2, .int .i64 128, .int .i64 512] 28 (0, 0)) ∧ W'.heap[g_g]? = some (.cells (runsA l2) 44 (0, 0))) (by kernel_rfl) (show x5.drew.heap[g_p]? = _ ∧ x5.drew.heap[g_g]? = _ from ⟨H_p.out, H_g.out⟩) ?_
          intro hS
          have hA : Arn x5.drew p b ws := HT.out.a.drew
          have hK0 : Keep [b] x5 x5.drew := (Keep.refl _ _).drew
          generalize x5.drew = y0 at hS hA hK0 ⊢
          refine tk (i := 0) (v := ?v0x24) (some 83) rfl rfl (Or.inl ⟨by kernel_rfl, ?h0x24⟩) ?r0x24
          case h0x24 => (intro w' hSw; obtain ⟨s1, s2⟩ := hSw; obtain ⟨p0, p1, p2, p3, _⟩ := box4 s1; have zp := lt_of_heap s1; have zg := lt_of_heap s2; go_simp; first | done | (with_reducible rfl))
          try simp only [Act.put, List.setIfInBounds_toArray, List.set_cons_succ, List.set_cons_zero]
          refine tk (i := 1) (v := ?v1x25) (some 84) rfl rfl (Or.inl ⟨by kernel_rfl, ?h1x25⟩) ?r1x25
          case h1x25 => (intro w' hSw; obtain ⟨s1, s2⟩ := hSw; obtain ⟨p0, p1, p2, p3, _⟩ := box4 s1; have zp := lt_of_heap s1; have zg := lt_of_heap s2; go_simp; first | done | (with_reducible rfl))
          try simp only [Act.put, List.setIfInBounds_toArray, List.set_cons_succ, List.set_cons_zero]
          refine tk (i := 2) (v := ?v2x26) (some 85) rfl rfl (Or.inl ⟨by kernel_rfl, ?h2x26⟩) ?r2x26
          case h2x26 => (intro w' hSw; obtain ⟨s1, s2⟩ := hSw; obtain ⟨p0, p1, p2, p3, _⟩ := box4 s1; have zp := lt_of_heap s1; have zg := lt_of_heap s2; go_simp; first | done | (with_reducible rfl))
          try simp only [Act.put, List.setIfInBounds_toArray, List.set_cons_succ, List.set_cons_zero]
          refine tk (i := 3) (v := ?v3x27) (some 86) rfl rfl (Or.inl ⟨by kernel_rfl, ?h3x27⟩) ?r3x27
          case h3x27 => (intro w' hSw; obtain ⟨s1, s2⟩ := hSw; obtain ⟨p0, p1, p2, p3, _⟩ := box4 s1; have zp := lt_of_heap s1; have zg := lt_of_heap s2; go_simp; first | done | (with_reducible rfl))
          try simp only [Act.put, List.setIfInBounds_toArray, List.set_cons_succ, List.set_cons_zero]
          refine tk (i := 4) (v := .agg (Rn.arr r2)) (some 87) rfl rfl (yieldsIf_load_sub (by kernel_rfl) 43 (.tmp 86) rfl g_g (kn * 26) rfl (runsA l2) (Rn.arr r2) (fun W' hW' => hW'.2) (fun j v hv => runs_get HkA.out hv) undRun rfl infoRun) ?_
          try simp only [Act.put, List.setIfInBounds_toArray, List.set_cons_succ, List.set_cons_zero]
          refine wpAnyH_ready (rs := [5, 9]) (by kernel_rfl) (by simp) ?_
          refine AllReadyH.cons rfl (fun K hK => ?_) (AllReadyH.cons rfl (fun K hK => ?_) AllReadyH.nil)
          ·skip
           go_simp
           refine (slNo_any p b 4 2 128 512 ws r2 _ hA Hd0.out Hnp.out).mono ?_
           rintro e' yS ⟨rfl, hb⟩
           go_simp
           replace hK0 := hK0.call hb
           replace hA := hA.below hb
           refine hK.out _ _ (⟨row_below hS.1 hb, row_below hS.2 hb⟩) (fun hS => ?_)
           clear hK K
           try simp only [Act.put, List.setIfInBounds_toArray, List.set_cons_succ, List.set_cons_zero]
           refine tk (i := 6) (v := ?v6x28) (some 82) rfl rfl (Or.inl ⟨by kernel_rfl, ?h6x28⟩) ?r6x28
           case h6x28 => (intro w' hSw; obtain ⟨s1, s2⟩ := hSw; obtain ⟨p0, p1, p2, p3, _⟩ := box4 s1; have zp := lt_of_heap s1; have zg := lt_of_heap s2; go_simp; first | done | (with_reducible rfl))
           try simp only [Act.put, List.setIfInBounds_toArray, List.set_cons_succ, List.set_cons_zero]
           refine tk (i := 7) (v := ?v7x29) (some 89) rfl rfl (Or.inl ⟨by kernel_rfl, ?h7x29⟩) ?r7x29
           case h7x29 => (intro w' hSw; obtain ⟨s1, s2⟩ := hSw; obtain ⟨p0, p1, p2, p3, _⟩ := box4 s1; have zp := lt_of_heap s1; have zg := lt_of_heap s2; go_simp; first | done | (with_reducible rfl))
           try simp only [Act.put, List.setIfInBounds_toArray, List.set_cons_succ, List.set_cons_zero]
           refine tk (i := 8) (v := ?v8x30) (some 90) rfl rfl (Or.inl ⟨by kernel_rfl, ?h8x30⟩) ?r8x30
           case h8x30 => (intro w' hSw; obtain ⟨s1, s2⟩ := hSw; obtain ⟨p0, p1, p2, p3, _⟩ := box4 s1; have zp := lt_of_heap s1; have zg := lt_of_heap s2; go_simp; first | done | (with_reducible rfl))
           try simp only [Act.put, List.setIfInBounds_toArray, List.set_cons_succ, List.set_cons_zero]
           refine wpAnyH_ready (rs := [9]) (by kernel_rfl) (by simp) ?_
           refine AllReadyH.cons rfl (fun K hK => ?_) AllReadyH.nil
           refine step_alloc_run (some 14) rfl rfl rfl ?_
           refine k_alloc (fun yZ hZ hb => ?_)
           have hz1 := lt_of_heap hA.box
           have hz2 := lt_of_heap hA.row
           have hz3 := lt_of_heap hS.1
           have hz5 := lt_of_heap hS.2
           have hz4 := hK0.size
           obtain ⟨gZ, HgZ⟩ : ∃ x, x = yS.heap.size := ⟨_, rfl⟩
           rw [← HgZ] at hZ hz1 hz2 hz3 hz4 hz5 ⊢
           clear HgZ
           have hq1 : p ≠ gZ := by omega
           have hq2 : gZ ≠ b := by omega
           have hq3 : g_p ≠ gZ := by omega
           have hq4 : g_g ≠ gZ := by omega
           clear hz1 hz2 hz3 hz5
           replace hA := hA.below hb
           replace hK0 := hK0.call hb
           refine hK.out _ _ (⟨row_below hS.1 hb, row_below hS.2 hb⟩) (fun hS => ?_)
           clear hK K
           try simp only [Act.put, List.setIfInBounds_toArray, List.set_cons_succ, List.set_cons_zero]
           refine wpAnyH_ready (rs := [10]) (by kernel_rfl) (by simp) ?_
           refine AllReadyH.cons rfl (fun K hK => ?_) AllReadyH.nil
           refine step_store_row none rfl rfl 43 (.tmp 14) (.tmp 89) rfl gZ ZRun rfl rfl 43 ZRun hZ infoRun rfl (by kernel_rfl) ?_
           refine hK.out _ _ (⟨(setRow_other _ _ _ _ hq3).trans hS.1, (setRow_other _ _ _ _ hq4).trans hS.2⟩) (fun hS => ?_)
           clear hK K
           try simp only [Act.put, List.setIfInBounds_toArray, List.set_cons_succ, List.set_cons_zero]
           refine tk (i := 11) (v := ?v11x31) (some 15) rfl rfl (Or.inl ⟨by kernel_rfl, ?h11x31⟩) ?r11x31
           case h11x31 => (intro w' hSw; obtain ⟨s1, s2⟩ := hSw; obtain ⟨p0, p1, p2, p3, _⟩ := box4 s1; have zp := lt_of_heap s1; have zg := lt_of_heap s2; go_simp; first | done | (with_reducible rfl))
           try simp only [Act.put, List.setIfInBounds_toArray, List.set_cons_succ, List.set_cons_zero]
           refine wpAnyH_done (by kernel_rfl) ?_ _
           go_wp2_with fail
           go_meet
           have hks := (Keep.refl [gZ] yZ).setRow (g := gZ) (.inl (by simp)) ZRun
           exact ⟨gZ, rfl, rfl, hz4, setRow_heap _ _ _ _ _ _ hZ, hA.kept hks (by simpa using hq1) (by simpa using fun e => hq2 e.symm), hK0.setRow (.inr hz4) _⟩
          ·skip
           refine step_alloc_run (some 14) rfl rfl rfl ?_
           refine k_alloc (fun yZ hZ hb => ?_)
           have hz1 := lt_of_heap hA.box
           have hz2 := lt_of_heap hA.row
           have hz3 := lt_of_heap hS.1
           have hz5 := lt_of_heap hS.2
           have hz4 := hK0.size
           obtain ⟨gZ, HgZ⟩ : ∃ x, x = y0.heap.size := ⟨_, rfl⟩
           rw [← HgZ] at hZ hz1 hz2 hz3 hz4 hz5 ⊢
           clear HgZ
           have hq1 : p ≠ gZ := by omega
           have hq2 : gZ ≠ b := by omega
           have hq3 : g_p ≠ gZ := by omega
           have hq4 : g_g ≠ gZ := by omega
           clear hz1 hz2 hz3 hz5
           replace hA := hA.below hb
           replace hK0 := hK0.call hb
           refine hK.out _ _ (⟨row_below hS.1 hb, row_below hS.2 hb⟩) (fun hS => ?_)
           clear hK K
           try simp only [Act.put, List.setIfInBounds_toArray, List.set_cons_succ, List.set_cons_zero]
           refine wpAnyH_ready (rs := [5]) (by kernel_rfl) (by simp) ?_
           refine AllReadyH.cons rfl (fun K hK => ?_) AllReadyH.nil
           go_simp
           refine (slNo_any p b 4 2 128 512 ws r2 _ hA Hd0.out Hnp.out).mono ?_
           rintro e' yS ⟨rfl, hb⟩
           go_simp
           replace hK0 := hK0.call hb
           replace hA := hA.below hb
           replace hZ := row_below hZ hb
           refine hK.out _ _ (⟨row_below hS.1 hb, row_below hS.2 hb⟩) (fun hS => ?_)
           clear hK K
           try simp only [Act.put, List.setIfInBounds_toArray, List.set_cons_succ, List.set_cons_zero]
           refine tk (i := 6) (v := ?v6x32) (some 82) rfl rfl (Or.inl ⟨by kernel_rfl, ?h6x32⟩) ?r6x32
           case h6x32 => (intro w' hSw; obtain ⟨s1, s2⟩ := hSw; obtain ⟨p0, p1, p2, p3, _⟩ := box4 s1; have zp := lt_of_heap s1; have zg := lt_of_heap s2; go_simp; first | done | (with_reducible rfl))
           try simp only [Act.put, List.setIfInBounds_toArray, List.set_cons_succ, List.set_cons_zero]
           refine tk (i := 7) (v := ?v7x33) (some 89) rfl rfl (Or.inl ⟨by kernel_rfl, ?h7x33⟩) ?r7x33
           case h7x33 => (intro w' hSw; obtain ⟨s1, s2⟩ := hSw; obtain ⟨p0, p1, p2, p3, _⟩ := box4 s1; have zp := lt_of_heap s1; have zg := lt_of_heap s2; go_simp; first | done | (with_reducible rfl))
           try simp only [Act.put, List.setIfInBounds_toArray, List.set_cons_succ, List.set_cons_zero]
           refine tk (i := 8) (v := ?v8x34) (some 90) rfl rfl (Or.inl ⟨by kernel_rfl, ?h8x34⟩) ?r8x34
           case h8x34 => (intro w' hSw; obtain ⟨s1, s2⟩ := hSw; obtain ⟨p0, p1, p2, p3, _⟩ := box4 s1; have zp := lt_of_heap s1; have zg := lt_of_heap s2; go_simp; first | done | (with_reducible rfl))
           try simp only [Act.put, List.setIfInBounds_toArray, List.set_cons_succ, List.set_cons_zero]
           refine wpAnyH_ready (rs := [10]) (by kernel_rfl) (by simp) ?_
           refine AllReadyH.cons rfl (fun K hK => ?_) AllReadyH.nil
           refine step_store_row none rfl rfl 43 (.tmp 14) (.tmp 89) rfl gZ ZRun rfl rfl 43 ZRun hZ infoRun rfl (by kernel_rfl) ?_
           refine hK.out _ _ (⟨(setRow_other _ _ _ _ hq3).trans hS.1, (setRow_other _ _ _ _ hq4).trans hS.2⟩) (fun hS => ?_)
           clear hK K
           try simp only [Act.put, List.setIfInBounds_toArray, List.set_cons_succ, List.set_cons_zero]
           refine tk (i := 11) (v := ?v11x35) (some 15) rfl rfl (Or.inl ⟨by kernel_rfl, ?h11x35⟩) ?r11x35
           case h11x35 => (intro w' hSw; obtain ⟨s1, s2⟩ := hSw; obtain ⟨p0, p1, p2, p3, _⟩ := box4 s1; have zp := lt_of_heap s1; have zg := lt_of_heap s2; go_simp; first | done | (with_reducible rfl))
           try simp only [Act.put, List.setIfInBounds_toArray, List.set_cons_succ, List.set_cons_zero]
           refine wpAnyH_done (by kernel_rfl) ?_ _
           go_wp2_with fail
           go_meet
           have hks := (Keep.refl [gZ] yS).setRow (g := gZ) (.inl (by simp)) ZRun
           exact ⟨gZ, rfl, rfl, hz4, setRow_heap _ _ _ _ _ _ hZ, hA.kept hks (by simpa using hq1) (by simpa using fun e => hq2 e.symm), hK0.setRow (.inr hz4) _⟩
        case rest =>
         obtain ⟨g_o, rfl, rfl, hgo, hro, hA, hK⟩ := hcut
         obtain ⟨x6, hwx⟩ : ∃ x, x = wc := ⟨_, rfl⟩
         subst hwx
         have N_o : Hid (g_o ∉ [p, b, X, q, d]) := Lib.hid (HT.out.fresh hgo)
         have M_o_g : Hid (g_o ≠ g_g) := Lib.hid (by have := lt_of_heap H_g.out; omega)
         have M_o_k : Hid (g_o ≠ g_k) := Lib.hid (by have := lt_of_heap H_k.out; omega)
         clear hgo
         replace HAll := Lib.hid (HAll.out.kept hK (by rw [HFF.out]; simp))
         replace HCh := Lib.hid (HCh.out.kept hK (by rw [HFF.out]; simp))
         have hszK := hK.size
         replace H_cs := Lib.hid (hK.row H_cs.out (by simpa using (HT.out.nb N_cs.out).1))
         replace H_p := Lib.hid (hK.row H_p.out (by simpa using (HT.out.nb N_p.out).1))
         replace H_h := Lib.hid (hK.row H_h.out (by simpa using (HT.out.nb N_h.out).1))
         replace H_g := Lib.hid (hK.row H_g.out (by simpa using (HT.out.nb N_g.out).1))
         replace H_k := Lib.hid (hK.row H_k.out (by simpa using (HT.out.nb N_k.out).1))
         replace B := Lib.hid (HT.out.under B.out hK (by simp))
         replace HT := Lib.hid (HT.out.onA hA hK)
         clear hA hK hszK
         clear hro
         go_upto_region 11 with (first | (refine wpList_build_to rfl 43 _ rfl dRn.arr (by simp only [List.map_toArray, List.map_cons, List.map_nil]; exact built_d) ?_; (try simp only [Act.put, List.setIfInBounds_toArray, List.set_cons_succ, List.set_cons_zero])) | (refine wpList_store_sub rfl 43 (.tmp 97) (.tmp 96) rfl g_g (kn * 26) (Rn.arr dRn) rfl rfl 44 _ H_g.out infoRun (by rw [runs_size]; have h1 := HlG.out; have h2 : (Rn.arr dRn).size = 26 := rfl; (try rw [List.length_set]); omega) (Rn.one _) ?_; (try simp only [Act.put, List.setIfInBounds_toArray, List.set_cons_succ, List.set_cons_zero])))
         rw [runs_set HlG.out dRn]
         clear M_o_g M_o_k N_o
         refine set_row' x6 g_g _ _ _ H_g.out ?_
         intro x10 hr hK
         have hszK := hK.size
         replace HAll := Lib.hid (HAll.out.kept hK (by rw [HFF.out]; simp))
         replace HCh := Lib.hid (HCh.out.kept hK (by rw [HFF.out]; simp))
         replace H_cs := Lib.hid (hK.row H_cs.out (by simpa using M_cs_g.out))
         replace H_p := Lib.hid (hK.row H_p.out (by simpa using M_p_g.out))
         replace H_h := Lib.hid (hK.row H_h.out (by simpa using M_h_g.out))
         replace H_k := Lib.hid (hK.row H_k.out (by simpa using M_k_g.out))
         replace HT := Lib.hid (HT.out.kept hK (fun j hj => by simp only [List.mem_singleton] at hj; subst hj; exact N_g.out))
         replace B := Lib.hid (Keep.under B.out hK (by have := B.out.size; omega) (by simp; exact L_g.out))
         replace H_g := Lib.hid hr
         clear hr hK hszK
         have HkE : Hid ((l2.set kn dRn)[kn]? = some dRn) := Lib.hid (by rw [List.getElem?_set, if_pos rfl, if_pos HlG.out])
         go_wp2_with fail
         go_roundw
         case rel => exact ⟨i + 1, n2, ws, _, _, by omega, hn1, hn2, rfl, by go_num, HLw.out, (HAll.out.setA dRn).all HkE.out HkB.out (.inl rfl), HT.out, H_p.out, H_cs.out, H_h.out, H_g.out, H_k.out, B.out⟩
         case measure => simp [intOf]; omega
   ·have h300 : i = 300 := by omega
    subst h300
    clear hlt
    go_wp2_with fail
    go_meet
    exact ⟨ws, HLw.out.len, HT.out, B.out⟩
 case rest =>
  obtain ⟨ws, hlen, hT, hB⟩ := hcut
  obtain ⟨z0, hwx⟩ : ∃ x, x = wc := ⟨_, rfl⟩
  subst hwx
  clear HT B HAll H_p H_cs H_h H_g H_k HLw
  have HT := Lib.hid hT
  have B := Lib.hid hB
  have Hln := Lib.hid hlen
  clear hT hB hlen
  go_wp2_with fail
  go_loopw [17] (fun tt wr => ∃ n : Nat, n ≤ 112 ∧ tt = .int .i64 n ∧ z0 = wr) (fun t _ => (112 - intOf t).toNat)
  case atStart => exact ⟨0, by omega, rfl, rfl⟩
  case round =>
   obtain ⟨n, hn, rfl, hwr⟩ := hrel
   subst hwr
   have X_5 := HT.out.x.cell
   obtain ⟨q_0, _⟩ := box1 HT.out.x.arn.box
   rw [Hln.out] at q_0
   by_cases hn4 : n < 112
   ·obtain ⟨e, he⟩ : ∃ x, ws[n]? = some x := ⟨_, List.getElem?_eq_getElem (by rw [Hln.out]; exact hn4)⟩
    have cd := HT.out.x.arn.cell n e he
    have HWn : Hid (Calls Tryz.prog 17 #[.pointer (some ⟨p, 0, none⟩), .int .i64 (8 * (n : Int))] z0 fun r w' => r = .returned (.tuple #[.int .u64 e, .int .i64 0]) ∧ w' = z0) := Lib.hid (by
     have h9 := arnWord_any p b ws n e z0 HT.out.a he
     rwa [show ((n * 8 : Nat) : Int) = 8 * (n : Int) by omega] at h9)
    have hnI : (n : Int) < 112 := by omega
    have hnI0 : (0 : Int) ≤ (n : Int) := by omega
    have h8n : IntKind.i64.wrap (8 * (n : Int)) = 8 * (n : Int) := IntWalk.i64_in _ (by omega)
    clear he
    go_wp2_with fail
    refine HWn.out.mono ?_
    rintro r za ⟨rfl, e2⟩
    rw [e2]
    clear e2 za
    go_wp2_with fail
    go_roundw
    case rel => exact ⟨n + 1, by omega, by go_num, by first | rfl | trivial⟩
    case measure => simp [intOf]; omega
   ·obtain rfl : n = 112 := by omega
    have B2 := B.out
    clear B hn4
    go_wp2_with fail
    go_ret
    exact ⟨rfl, B2⟩
end Go.Proofs.YtnimaajnlkbdaaaGreat
