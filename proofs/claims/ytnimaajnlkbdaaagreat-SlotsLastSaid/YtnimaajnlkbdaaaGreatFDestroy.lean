/- Layer 14: the walk of found.destroy. -/
import Derived.Test.YtnimaajnlkbdaaaGreatMK
import Derived.Test.YtnimaajnlkbdaaaGreatMH
import Derived.Test.YtnimaajnlkbdaaaGreatTree
namespace Go.Proofs.YtnimaajnlkbdaaaGreat
open Go.RowKit
set_option linter.unusedVariables false
set_option linter.unusedSimpArgs false

set_option maxRecDepth 100000 in
set_option maxHeartbeats 4000000 in
theorem fdestroy_any (B p b g : Nat) (q : Option Nat) (f e : Int) (S : Sco) (ws : List Int) (s t i h : Int) (k : Nat) (w : World) (H : PlanOk s t i h) (hF : Fs B w p b g q f e S ws) (hn : (S.l.length : Int) = s) (hk : inS k 1 S = true) :
    Calls Tryz.prog 70 #[.agg (blkV p s t i h k), .pointer (some ⟨g, 0, none⟩)] w fun r w' => r = .returned (.int .i64 (destroyS f e k S).1) ∧ (∃ q', Fs B w' p b g q' f e (destroyS f e k S).2 (destroyW k S ws) ∧ NewQ w q q') ∧ Keep (FsT b g q) w w' := by
  obtain ⟨k', x, hkk, hlt, hx⟩ := inS_yes hk (by decide)
  have e' : k = k' := by omega
  subst e'
  have hok := hF.ok x (List.mem_of_getElem? hx)
  obtain ⟨hw0, hw1, hw2⟩ := hF.s.blk k x hx
  have hsz := hF.sz x (List.mem_of_getElem? hx)
  obtain ⟨⟨c1, c2, c3, c4⟩, ⟨x1, x2⟩⟩ := x
  have Hx2 : Hid (0 ≤ x2 ∧ x2 ≤ 131072) := Lib.hid hsz
  clear hsz
  have hds := destroyS_at (f := f) (e := e) hk hx
  simp only at hds
  have HDS := Lib.hid hds
  have HW : Hid (destroyW k S ws = if c1 = 1 then goneWs ws k ⟨0, 0, -1, (c4 + 1) % 16777216⟩ else ws) := Lib.hid (by unfold destroyW; rw [Int.toNat_natCast, hx])
  clear hds
  have HF := Lib.hid hF
  have HH := Lib.hid H
  have Hr := Lib.hid hok.r
  have HX : Hid (0 ≤ x1 ∧ x1 ≤ 131072) := Lib.hid ⟨hok.x0, hok.x1⟩
  have Hx := Lib.hid hx
  have H0 := Lib.hid hw0
  have H1 := Lib.hid hw1
  have H2 := Lib.hid hw2
  have Hlt := Lib.hid hlt
  have Hsc : Hid ((0 ≤ (k : Int) ∧ (k : Int) ≤ s - 1) ∧ (k : Int) ≤ 7) := Lib.hid (by have := hF.n8; omega)
  have Hk1 : Hid (1 ≤ k) := Lib.hid (by have := inS_low hk; omega)
  clear hF H hok hx hw0 hw1 hw2 hlt hn hk hkk
  go_enter Tryz.func70, Tryz.ntmps70
  go_upto_region 1 with fail
  refine one_row w _ _ ?_
  intro W hR hB
  obtain ⟨x0', x1', x2', x3', x4', x5'⟩ := box6 hR
  have HR := Lib.hid (show W.heap[w.heap.size]? = some (.cells (blkV p s t i h k) 127 (0, 0)) from hR)
  have HB := Lib.hid hB
  clear hR hB
  go_wp2_with fail
  refine (foundCtl_any p b s t i h ws (8 * k) k ⟨c1, c2, c3, c4⟩ _ HH.out (HF.out.a.below HB.out) Hr.out H0.out (by omega) Hsc.out.1).mono ?_
  rintro r w1 ⟨rfl, hb⟩
  replace HR := Lib.hid (row_below HR.out hb)
  replace HB := Lib.hid (below_only HB.out hb)
  clear hb x0' x1' x2' x3' x4' x5'
  go_upto_region 2 with fail
  refine one_row w1 _ _ ?_
  intro w2 hC hb
  obtain ⟨gc, hgc⟩ : ∃ x, x = w1.heap.size := ⟨_, rfl⟩
  rw [← hgc] at hC ⊢
  have Hne : Hid (gc ∉ FsT b g q ∧ w.heap.size ∉ FsT b g q ∧ w.heap.size ≤ gc) := Lib.hid ⟨(HF.out.below HB.out).fresh (by omega), HF.out.fresh (Nat.le_refl _), by have := HB.out.size; omega⟩
  replace HR := Lib.hid (row_below HR.out hb)
  replace HB := Lib.hid (below_only HB.out hb)
  have HC := Lib.hid hC
  have HF2 := Lib.hid (HF.out.below HB.out)
  have c0 := (box4 hC).1
  have zc := lt_of_heap hC
  clear hC hb hgc
  by_cases h0 : c1 = 0
  · subst h0
    have HD0 : Hid (destroyS f e k S = (11, S) ∧ destroyW k S ws = ws) := Lib.hid ⟨by rw [HDS.out]; simp, by rw [HW.out]; simp⟩
    go_wp2_with fail
    go_ret
    rw [HD0.out.1, HD0.out.2]
    exact ⟨rfl, ⟨q, HF2.out, NewQ.refl⟩, keep_below HB.out _⟩
  · have q0 : (c1 == 0) = false := by simpa using h0
    have Hn0 := Lib.hid h0
    by_cases h1 : c1 = 1
    · subst h1
      have HD1 : Hid (destroyS f e k S = (0, ⟨S.l.set k ⟨⟨0, 0, -1, (c4 + 1) % 16777216⟩, (0, 0)⟩, (giveF f e x1 x2 S.F).2⟩) ∧ destroyW k S ws = goneWs ws k ⟨0, 0, -1, (c4 + 1) % 16777216⟩) := Lib.hid ⟨by rw [HDS.out]; simp, by rw [HW.out]; simp⟩
      clear h0 q0
      go_upto_region 6 with fail
      clear c0 zc
      try simp only [Act.put]
      have hx2w : IntKind.i64.wrap x2 = x2 := IntWalk.i64_in _ (by have := Hx2.out; omega)
      have hx1w : IntKind.i64.wrap x1 = x1 := IntWalk.i64_in _ (by have := HX.out; omega)
      go_cut [] from 23 to 30 (fun wx => ∃ q', wx.heap[w.heap.size]? = some (.cells (blkV p s t i h k) 127 (0, 0)) ∧ wx.heap[gc]? = some (.cells #[.int .i64 1, .int .i64 c2, .int .i64 c3, .int .i64 c4] 78 (0, 0)) ∧ Arn wx p b ws ∧ Gr B wx g f e (giveF f e x1 x2 S.F).2 q' ∧ NewQ w q q' ∧ Keep (FsT b g q) w wx)
      case first =>
        refine wp_region_held_drew (S := fun W' => W'.heap[w.heap.size]? = some (.cells (blkV p s t i h k) 127 (0, 0))) (by kernel_rfl) (show w2.drew.heap[w.heap.size]? = _ from HR.out) ?_
        intro hS
        have hG : Fs B w2.drew p b g q f e S ws := HF2.out.below (Below.drew (Below.refl _ _))
        have hC : w2.drew.heap[gc]? = some (.cells #[.int .i64 1, .int .i64 c2, .int .i64 c3, .int .i64 c4] 78 (0, 0)) := HC.out
        have hB0 : Below w.heap.size w w2.drew := Below.drew HB.out
        generalize w2.drew = y0 at hS hG hC hB0 ⊢
        refine wpAnyH_take_at (i := 0) (v := ?v0x1) (some 23) rfl rfl (by kernel_rfl) (by kernel_rfl) (by kernel_rfl) (fun _ _ _ h => h) (Or.inl ⟨by kernel_rfl, ?h0x1⟩) (by assumption) ?r0x1
        case h0x1 => (intro w hSw; (try dsimp only at hSw); go_simp; first | done | (with_reducible rfl))
        try simp only [Act.put]
        try simp only [List.setIfInBounds_toArray]
        try simp only [List.set_cons_succ]
        try simp only [List.set_cons_zero]
        refine wpAnyH_take_at (i := 1) (v := .agg (blkV p s t i h k)) (some 24) rfl rfl (by kernel_rfl) (by kernel_rfl) (by kernel_rfl) (fun _ _ _ h => h) (yieldsIf_load_row (by kernel_rfl) 127 (.tmp 2) rfl w.heap.size rfl (blkV p s t i h k) (fun W' hW' => hW') undBlk rfl infoBlk) (by assumption) ?_
        try simp only [Act.put]
        try simp only [List.setIfInBounds_toArray]
        try simp only [List.set_cons_succ]
        try simp only [List.set_cons_zero]
        refine wpAnyH_take_at (i := 4) (v := .agg (blkV p s t i h k)) (some 27) rfl rfl (by kernel_rfl) (by kernel_rfl) (by kernel_rfl) (fun _ _ _ h => h) (yieldsIf_load_row (by kernel_rfl) 127 (.tmp 2) rfl w.heap.size rfl (blkV p s t i h k) (fun W' hW' => hW') undBlk rfl infoBlk) (by assumption) ?_
        try simp only [Act.put]
        try simp only [List.setIfInBounds_toArray]
        try simp only [List.set_cons_succ]
        try simp only [List.set_cons_zero]
        refine wpAnyH_ready (rs := [2]) (by kernel_rfl) (by simp) ?_
        refine AllReadyH.cons rfl (fun K hK => ?_) AllReadyH.nil
        go_simp
        refine (blkGet_any p b s t i h ws (8 * k + 1) x1 1 k _ HH.out hG.a H1.out (by omega) (by decide) Hsc.out.1).mono ?_
        rintro e' y1 ⟨rfl, hb⟩
        go_simp
        replace hG := hG.below hb
        replace hC := row_below hC hb
        replace hB0 := below_only hB0 hb
        refine hK.out _ _ (row_below hS hb) (fun hS => ?_)
        clear hK K
        try simp only [Act.put]
        try simp only [List.setIfInBounds_toArray]
        try simp only [List.set_cons_succ]
        try simp only [List.set_cons_zero]
        refine wpAnyH_take_at (i := 3) (v := ?v3x2) (some 26) rfl rfl (by kernel_rfl) (by kernel_rfl) (by kernel_rfl) (fun _ _ _ h => h) (Or.inl ⟨by kernel_rfl, ?h3x2⟩) (by assumption) ?r3x2
        case h3x2 => (intro w' hSw; (try dsimp only at hSw); go_simp; first | done | (with_reducible rfl) | (simp only [hx1w]; done))
        try simp only [Act.put]
        try simp only [List.setIfInBounds_toArray]
        try simp only [List.set_cons_succ]
        try simp only [List.set_cons_zero]
        refine wpAnyH_ready (rs := [5]) (by kernel_rfl) (by simp) ?_
        refine AllReadyH.cons rfl (fun K hK => ?_) AllReadyH.nil
        go_simp
        refine (blkGet_any p b s t i h ws (8 * k + 2) x2 2 k _ HH.out hG.a H2.out (by omega) (by decide) Hsc.out.1).mono ?_
        rintro e' y2 ⟨rfl, hb⟩
        go_simp
        replace hG := hG.below hb
        replace hC := row_below hC hb
        replace hB0 := below_only hB0 hb
        refine hK.out _ _ (row_below hS hb) (fun hS => ?_)
        clear hK K
        try simp only [Act.put]
        try simp only [List.setIfInBounds_toArray]
        try simp only [List.set_cons_succ]
        try simp only [List.set_cons_zero]
        refine wpAnyH_take_at (i := 6) (v := ?v6x3) (some 29) rfl rfl (by kernel_rfl) (by kernel_rfl) (by kernel_rfl) (fun _ _ _ h => h) (Or.inl ⟨by kernel_rfl, ?h6x3⟩) (by assumption) ?r6x3
        case h6x3 => (intro w' hSw; (try dsimp only at hSw); go_simp; first | done | (with_reducible rfl) | (simp only [hx2w]; done))
        try simp only [Act.put]
        try simp only [List.setIfInBounds_toArray]
        try simp only [List.set_cons_succ]
        try simp only [List.set_cons_zero]
        refine wpAnyH_ready (rs := [7]) (by kernel_rfl) (by simp) ?_
        refine AllReadyH.cons rfl (fun K hK => ?_) AllReadyH.nil
        go_simp
        have hA9 := hG.a
        refine (give_any B g f e S.F q x1 x2 _ hG.gr (by have := HX.out; omega)).mono ?_
        rintro e' y4 ⟨rfl, ⟨q', hg4, hq4⟩, hk4⟩
        go_simp
        refine hK.out _ _ (hk4.row hS (by simpa using fun h => Hne.out.2.1 (by simp [h]))) (fun hS => ?_)
        clear hK K
        try simp only [Act.put]
        try simp only [List.setIfInBounds_toArray]
        try simp only [List.set_cons_succ]
        try simp only [List.set_cons_zero]
        refine wpAnyH_done (by kernel_rfl) ?_ _
        go_wp2_with fail
        go_meet
        refine ⟨q', hS, hk4.row hC (by simpa using fun h => Hne.out.1 (by simp [h])), hA9.kept hk4 (by simpa using fun h => HF.out.ne.1 h.symm) (by simpa using fun h => HF.out.ne.2.1 h.symm), hg4, fun i hi => (hq4 i hi).imp id (fun h => Nat.le_trans hB0.size h), (keep_below hB0 _).trans (hk4.sub (by simp))⟩
      case rest =>
        obtain ⟨q', hR, hC, hA, hGr, hq, hK0⟩ := hcut
        obtain ⟨w3, hwx⟩ : ∃ x, x = wc := ⟨_, rfl⟩
        subst hwx
        have hS : True := trivial
        have hG : Arn w3 p b ws ∧ Gr B w3 g f e (giveF f e x1 x2 S.F).2 q' ∧ (g ≠ p ∧ g ≠ b ∧ ∀ i, q' = some i → i ≠ p ∧ i ≠ b) := ⟨hA, hGr, HF.out.ne.1, HF.out.ne.2.1, fun i hi => by
          rcases hq i hi with h9 | h9
          · exact HF.out.ne.2.2 i h9
          · have := HF.out.lt; omega⟩
        clear hS
        replace HR := Lib.hid hR
        replace HC := Lib.hid hC
        have HF3 := Lib.hid hG
        have HQ := Lib.hid hq
        have HK := Lib.hid hK0
        clear hR hC hG hq hK0
        obtain ⟨x0', x1', x2', x3', x4', x5'⟩ := box6 HR.out
        have c3' := (box4 HC.out).2.2.2.1
        have zc := lt_of_heap HC.out
        have he : bits .and .i64 (c4 + 1) 16777215 = (c4 + 1) % 16777216 := mask24 _
        have He := Lib.hid he
        have hc4 : 0 ≤ c4 ∧ c4 ≤ 16777215 := ⟨Hr.out.1, Hr.out.2.1⟩
        obtain ⟨hc40, hc41⟩ := hc4
        have hw4 : IntKind.i64.wrap (c4 + 1) = c4 + 1 := IntWalk.i64_in _ (by omega)
        clear he
        go_wp2_with fail
        rw [He.out]
        refine (blkIs_any p b s t i h ws (8 * k) _ k ⟨0, 0, -1, (c4 + 1) % 16777216⟩ _ HH.out HF3.out.1 H0.out (by omega) Hsc.out.1 ⟨Int.emod_nonneg _ (by decide), by show (c4 + 1) % 16777216 ≤ 16777215; omega, .inl ⟨.inl rfl, rfl, rfl⟩⟩).mono ?_
        rintro r w4 ⟨rfl, hA4, hK4⟩
        have HA4 := Lib.hid hA4
        replace HK := Lib.hid (HK.out.trans (hK4.sub (by simp)))
        have HG4 := Lib.hid (HF3.out.2.1.kept hK4 (by simpa using HF3.out.2.2.2.1) (fun i hi => by simpa using (HF3.out.2.2.2.2 i hi).2))
        replace HR := Lib.hid (hK4.row HR.out (by simpa using fun h => Hne.out.2.1 (by simp [h])))
        clear hA4 hK4 x0' x1' x2' x3' x4' x5' c3' zc hw4 hc40 hc41
        obtain ⟨x0', x1', x2', x3', x4', x5'⟩ := box6 HR.out
        go_wp2_with fail
        refine (blkPut_any p b s t i h _ (8 * k + 1) x1 0 1 k _ HH.out HA4.out (by rw [List.getElem?_set, if_neg (by omega)]; exact H1.out) (by omega) (by decide) Hsc.out.1 (by decide)).mono ?_
        rintro r w5 ⟨rfl, hA4, hK4⟩
        replace HA4 := Lib.hid hA4
        replace HK := Lib.hid (HK.out.trans (hK4.sub (by simp)))
        replace HG4 := Lib.hid (HG4.out.kept hK4 (by simpa using HF3.out.2.2.2.1) (fun i hi => by simpa using (HF3.out.2.2.2.2 i hi).2))
        replace HR := Lib.hid (hK4.row HR.out (by simpa using fun h => Hne.out.2.1 (by simp [h])))
        clear hA4 hK4 x0' x1' x2' x3' x4' x5'
        obtain ⟨x0', x1', x2', x3', x4', x5'⟩ := box6 HR.out
        go_wp2_with fail
        refine (blkPut_any p b s t i h _ (8 * k + 2) x2 0 2 k _ HH.out HA4.out (by rw [List.getElem?_set, if_neg (by omega), List.getElem?_set, if_neg (by omega)]; exact H2.out) (by omega) (by decide) Hsc.out.1 (by decide)).mono ?_
        rintro r w6 ⟨rfl, hA4, hK4⟩
        replace HA4 := Lib.hid hA4
        replace HK := Lib.hid (HK.out.trans (hK4.sub (by simp)))
        replace HG4 := Lib.hid (HG4.out.kept hK4 (by simpa using HF3.out.2.2.2.1) (fun i hi => by simpa using (HF3.out.2.2.2.2 i hi).2))
        clear hA4 hK4 x0' x1' x2' x3' x4' x5'
        go_wp2_with fail
        go_ret
        rw [HD1.out.1, HD1.out.2]
        refine ⟨rfl, ⟨q', ⟨HA4.out, HG4.out, HF.out.s.gone Hlt.out _ _, ?_, ?_, by simpa using HF.out.n1, by simpa using HF.out.n8, HF.out.low, HF3.out.2.2⟩, HQ.out⟩, HK.out⟩
        · have h9 := sco_fineD (f := f) (e := e) (i := k) HF.out.ok
          rw [destroyS_at (by simp only [inS, inB, decide_eq_true_eq]; have := Hlt.out; have := Hk1.out; omega) Hx.out, if_neg (by simp), if_pos rfl] at h9
          exact h9
        · have h9 := sco_sizeD (f := f) (e := e) (i := k) HF.out.sz
          rw [destroyS_at (by simp only [inS, inB, decide_eq_true_eq]; have := Hlt.out; have := Hk1.out; omega) Hx.out, if_neg (by simp), if_pos rfl] at h9
          exact h9
    · have q1 : (c1 == 1) = false := by simpa using h1
      have HD2 : Hid (destroyS f e k S = (12, S) ∧ destroyW k S ws = ws) := Lib.hid ⟨by rw [HDS.out, if_neg h0, if_neg h1], by rw [HW.out, if_neg h1]⟩
      clear h0 h1
      go_wp2_with fail
      go_ret
      rw [HD2.out.1, HD2.out.2]
      exact ⟨rfl, ⟨q, HF2.out, NewQ.refl⟩, keep_below HB.out _⟩

end Go.Proofs.YtnimaajnlkbdaaaGreat
