/- Layer 16: the walk of slots.use.head. (Printed by gen_useh.py.) -/
import Derived.Test.YtnimaajnlkbdaaaGreatUse
namespace Go.Proofs.YtnimaajnlkbdaaaGreat
open Go.RowKit
set_option linter.unusedVariables false
set_option linter.unusedSimpArgs false

set_option maxRecDepth 100000 in
set_option maxHeartbeats 4000000 in
theorem useHead_any (g p b : Nat) (s t i h : Int) (ws : List Int) (k : Nat) (r : Rn) (sc ep at_ : Int) (w : World) (sz sl tg : Int) (H : HeadOk sz sl tg sc ep) (h1 : ws[k]? = some (head1 sz sl tg)) (h2 : ws[k + 1]? = some (head2 sc ep)) (hT : Use w g p s t i h r 0) (hA : Arn w p b ws) (ha : at_ = 8 * (k : Int)) :
  Calls Tryz.prog 81 #[.pointer (some ⟨g, 0, none⟩), .agg #[.int .i64 sc, .int .i64 ep, .int .i64 at_]] w fun e w' => e = .returned (.agg (hdCells sz sl tg false sc ep)) ∧ Use w' g p s t i h r 0 ∧ Below w.heap.size w w' := by
 have HC := fun w' (h' : Arn w' p b ws) => Lib.hid (thingAt_any p b ws k at_ sz sl tg sc ep w' h' H h1 h2 ha)
 have HT := Lib.hid hT
 have HA := Lib.hid hA
 clear hT hA h1 h2 ha H
 go_enter Tryz.func81, Tryz.ntmps81
 go_upto_region 1 with fail
 refine two_rows' w _ _ _ _ ?_
 intro w2 hr hr2 hb
 have hg := lt_of_heap HT.out
 replace HT := Lib.hid (row_below HT.out hb)
 replace HA := Lib.hid (HA.out.below hb)
 have HB := Lib.hid hb
 have HR := Lib.hid hr
 have HQ := Lib.hid hr2
 have Mg : Hid (g ≠ w.heap.size ∧ g ≠ w.heap.size + 1) := Lib.hid (by omega)
 clear hr hr2 hb hg
 try simp only [Act.put]
 go_cut [5, 6] from 5 to 16 (fun v8 v9 wx => ∃ gZ, v8 = .pointer (some ⟨gZ, 0, none⟩) ∧ v9 = .int .i64 0 ∧ w2.heap.size ≤ gZ ∧ wx.heap[gZ]? = some (.cells (hdCells sz sl tg false sc ep) 148 (0, 0)) ∧ Below w2.heap.size w2 wx)
 case first =>
  refine wp_region_held_drew (S := fun W => Use W g p s t i h r 0 ∧ W.heap[w.heap.size]? = some (.cells #[.int .i64 sc, .int .i64 ep, .int .i64 at_] 70 (0, 0))) (by kernel_rfl) (show Use w2.drew g p s t i h r 0 ∧ w2.drew.heap[w.heap.size]? = _ from ⟨HT.out, HR.out⟩) ?_
  intro hS
  have hA0 : Arn w2.drew p b ws := HA.out.drew
  have hB0 : Below w2.heap.size w2 w2.drew := by go_grown
  generalize w2.drew = y0 at hS hA0 hB0 ⊢
  refine tk (i := 0) (v := ?v0x19) (some 8) rfl rfl (Or.inl ⟨by kernel_rfl, ?h0x19⟩) ?r0x19
  case h0x19 => (intro w hSw; obtain ⟨s1, s2⟩ := hSw; obtain ⟨b0, b1, b2, b3, b4, b5, b9, b10, b12, b14, b15, b16, b19, b31, bf12, bf19, bf31, bz⟩ := use_box s1; obtain ⟨f0, f1, f2, _, _, _⟩ := box3 s2; have zf := lt_of_heap s2; go_simp; first | done | (with_reducible rfl))
  try simp only [Act.put, List.setIfInBounds_toArray, List.set_cons_succ, List.set_cons_zero]
  refine tk (i := 1) (v := ?v1x20) (some 9) rfl rfl (Or.inl ⟨by kernel_rfl, ?h1x20⟩) ?r1x20
  case h1x20 => (intro w hSw; obtain ⟨s1, s2⟩ := hSw; obtain ⟨b0, b1, b2, b3, b4, b5, b9, b10, b12, b14, b15, b16, b19, b31, bf12, bf19, bf31, bz⟩ := use_box s1; obtain ⟨f0, f1, f2, _, _, _⟩ := box3 s2; have zf := lt_of_heap s2; go_simp; first | done | (with_reducible rfl))
  try simp only [Act.put, List.setIfInBounds_toArray, List.set_cons_succ, List.set_cons_zero]
  refine tk (i := 2) (v := ?v2x21) (some 10) rfl rfl (Or.inl ⟨by kernel_rfl, ?h2x21⟩) ?r2x21
  case h2x21 => (intro w hSw; obtain ⟨s1, s2⟩ := hSw; obtain ⟨b0, b1, b2, b3, b4, b5, b9, b10, b12, b14, b15, b16, b19, b31, bf12, bf19, bf31, bz⟩ := use_box s1; obtain ⟨f0, f1, f2, _, _, _⟩ := box3 s2; have zf := lt_of_heap s2; go_simp; first | done | (with_reducible rfl))
  try simp only [Act.put, List.setIfInBounds_toArray, List.set_cons_succ, List.set_cons_zero]
  refine tk (i := 3) (v := ?v3x22) (some 11) rfl rfl (Or.inl ⟨by kernel_rfl, ?h3x22⟩) ?r3x22
  case h3x22 => (intro w hSw; obtain ⟨s1, s2⟩ := hSw; obtain ⟨b0, b1, b2, b3, b4, b5, b9, b10, b12, b14, b15, b16, b19, b31, bf12, bf19, bf31, bz⟩ := use_box s1; obtain ⟨f0, f1, f2, _, _, _⟩ := box3 s2; have zf := lt_of_heap s2; go_simp; first | done | (with_reducible rfl))
  try simp only [Act.put, List.setIfInBounds_toArray, List.set_cons_succ, List.set_cons_zero]
  refine tk (i := 4) (v := ?v4x23) (some 12) rfl rfl (Or.inl ⟨by kernel_rfl, ?h4x23⟩) ?r4x23
  case h4x23 => (intro w hSw; obtain ⟨s1, s2⟩ := hSw; obtain ⟨b0, b1, b2, b3, b4, b5, b9, b10, b12, b14, b15, b16, b19, b31, bf12, bf19, bf31, bz⟩ := use_box s1; obtain ⟨f0, f1, f2, _, _, _⟩ := box3 s2; have zf := lt_of_heap s2; go_simp; first | done | (with_reducible rfl))
  try simp only [Act.put, List.setIfInBounds_toArray, List.set_cons_succ, List.set_cons_zero]
  refine tk (i := 5) (v := ?v5x24) (some 13) rfl rfl (Or.inl ⟨by kernel_rfl, ?h5x24⟩) ?r5x24
  case h5x24 => (intro w hSw; obtain ⟨s1, s2⟩ := hSw; obtain ⟨b0, b1, b2, b3, b4, b5, b9, b10, b12, b14, b15, b16, b19, b31, bf12, bf19, bf31, bz⟩ := use_box s1; obtain ⟨f0, f1, f2, _, _, _⟩ := box3 s2; have zf := lt_of_heap s2; go_simp; first | done | (with_reducible rfl))
  try simp only [Act.put, List.setIfInBounds_toArray, List.set_cons_succ, List.set_cons_zero]
  refine wpAnyH_ready (rs := [6, 10]) (by kernel_rfl) (by simp) ?_
  refine AllReadyH.cons rfl (fun K hK => ?_) (AllReadyH.cons rfl (fun K hK => ?_) AllReadyH.nil)
  ·skip
   go_simp
   refine (HC _ hA0).out.mono ?_
   rintro e' yE ⟨rfl, hb⟩
   go_simp
   replace hA0 := hA0.below hb
   replace hB0 := below_only hB0 hb
   refine hK.out _ _ (⟨row_below hS.1 hb, row_below hS.2 hb⟩) (fun hS => ?_)
   clear hK K
   try simp only [Act.put, List.setIfInBounds_toArray, List.set_cons_succ, List.set_cons_zero]
   refine tk (i := 7) (v := ?v7x25) (some 7) rfl rfl (Or.inl ⟨by kernel_rfl, ?h7x25⟩) ?r7x25
   case h7x25 => (intro w hSw; obtain ⟨s1, s2⟩ := hSw; obtain ⟨b0, b1, b2, b3, b4, b5, b9, b10, b12, b14, b15, b16, b19, b31, bf12, bf19, bf31, bz⟩ := use_box s1; obtain ⟨f0, f1, f2, _, _, _⟩ := box3 s2; have zf := lt_of_heap s2; go_simp; first | done | (with_reducible rfl))
   try simp only [Act.put, List.setIfInBounds_toArray, List.set_cons_succ, List.set_cons_zero]
   refine tk (i := 8) (v := ?v8x26) (some 15) rfl rfl (Or.inl ⟨by kernel_rfl, ?h8x26⟩) ?r8x26
   case h8x26 => (intro w hSw; obtain ⟨s1, s2⟩ := hSw; obtain ⟨b0, b1, b2, b3, b4, b5, b9, b10, b12, b14, b15, b16, b19, b31, bf12, bf19, bf31, bz⟩ := use_box s1; obtain ⟨f0, f1, f2, _, _, _⟩ := box3 s2; have zf := lt_of_heap s2; go_simp; first | done | (with_reducible rfl))
   try simp only [Act.put, List.setIfInBounds_toArray, List.set_cons_succ, List.set_cons_zero]
   refine tk (i := 9) (v := ?v9x27) (some 16) rfl rfl (Or.inl ⟨by kernel_rfl, ?h9x27⟩) ?r9x27
   case h9x27 => (intro w hSw; obtain ⟨s1, s2⟩ := hSw; obtain ⟨b0, b1, b2, b3, b4, b5, b9, b10, b12, b14, b15, b16, b19, b31, bf12, bf19, bf31, bz⟩ := use_box s1; obtain ⟨f0, f1, f2, _, _, _⟩ := box3 s2; have zf := lt_of_heap s2; go_simp; first | done | (with_reducible rfl))
   try simp only [Act.put, List.setIfInBounds_toArray, List.set_cons_succ, List.set_cons_zero]
   refine wpAnyH_ready (rs := [10]) (by kernel_rfl) (by simp) ?_
   refine AllReadyH.cons rfl (fun K hK => ?_) AllReadyH.nil
   go_simp
   refine k_alloc (fun yZ hZ hb => ?_)
   have hgZ : w2.heap.size ≤ yE.heap.size := hB0.size
   replace hA0 := hA0.below hb
   replace hB0 := below_only hB0 hb
   obtain ⟨gZ, HgZ⟩ : ∃ x, x = yE.heap.size := ⟨_, rfl⟩
   have hS1 := row_below hS.1 hb
   have hS2 := row_below hS.2 hb
   have hgg : g ≠ gZ := by have := lt_of_heap hS.1; omega
   have hgg2 : w.heap.size ≠ gZ := by have := lt_of_heap hS.2; omega
   rw [← HgZ] at hZ hgZ ⊢
   clear HgZ hb
   refine hK.out _ _ (⟨hS1, hS2⟩) (fun hS => ?_)
   clear hK K
   try simp only [Act.put, List.setIfInBounds_toArray, List.set_cons_succ, List.set_cons_zero]
   clear hS1 hS2
   refine wpAnyH_ready (rs := [11]) (by kernel_rfl) (by simp) ?_
   refine AllReadyH.cons rfl (fun K hK => ?_) AllReadyH.nil
   refine step_store_row none rfl rfl 148 (.tmp 5) (.tmp 15) rfl gZ (hdCells sz sl tg false sc ep) rfl rfl 148 (hdCells 0 0 0 false 0 0) hZ infoHd rfl (hd_one _ _ _ _ _ _) ?_
   refine hK.out _ _ (⟨(setRow_other _ _ _ _ hgg).trans hS.1, (setRow_other _ _ _ _ hgg2).trans hS.2⟩) (fun hS => ?_)
   clear hK K
   try simp only [Act.put, List.setIfInBounds_toArray, List.set_cons_succ, List.set_cons_zero]
   refine tk (i := 12) (v := ?v12x28) (some 6) rfl rfl (Or.inl ⟨by kernel_rfl, ?h12x28⟩) ?r12x28
   case h12x28 => (intro w hSw; obtain ⟨s1, s2⟩ := hSw; obtain ⟨b0, b1, b2, b3, b4, b5, b9, b10, b12, b14, b15, b16, b19, b31, bf12, bf19, bf31, bz⟩ := use_box s1; obtain ⟨f0, f1, f2, _, _, _⟩ := box3 s2; have zf := lt_of_heap s2; go_simp; first | done | (with_reducible rfl))
   try simp only [Act.put, List.setIfInBounds_toArray, List.set_cons_succ, List.set_cons_zero]
   refine wpAnyH_done (by kernel_rfl) ?_ _
   go_wp2_with fail
   go_meet
   exact ⟨gZ, rfl, rfl, hgZ, setRow_heap _ _ _ _ _ _ hZ, below_setRow hB0 hgZ _⟩
  ·skip
   go_simp
   refine k_alloc (fun yZ hZ hb => ?_)
   have hgZ : w2.heap.size ≤ y0.heap.size := hB0.size
   replace hA0 := hA0.below hb
   replace hB0 := below_only hB0 hb
   obtain ⟨gZ, HgZ⟩ : ∃ x, x = y0.heap.size := ⟨_, rfl⟩
   have hS1 := row_below hS.1 hb
   have hS2 := row_below hS.2 hb
   have hgg : g ≠ gZ := by have := lt_of_heap hS.1; omega
   have hgg2 : w.heap.size ≠ gZ := by have := lt_of_heap hS.2; omega
   rw [← HgZ] at hZ hgZ ⊢
   clear HgZ hb
   refine hK.out _ _ (⟨hS1, hS2⟩) (fun hS => ?_)
   clear hK K
   try simp only [Act.put, List.setIfInBounds_toArray, List.set_cons_succ, List.set_cons_zero]
   clear hS1 hS2
   refine wpAnyH_ready (rs := [6]) (by kernel_rfl) (by simp) ?_
   refine AllReadyH.cons rfl (fun K hK => ?_) AllReadyH.nil
   go_simp
   refine (HC _ hA0).out.mono ?_
   rintro e' yE ⟨rfl, hb⟩
   go_simp
   replace hA0 := hA0.below hb
   replace hB0 := below_only hB0 hb
   replace hZ := row_below hZ hb
   refine hK.out _ _ (⟨row_below hS.1 hb, row_below hS.2 hb⟩) (fun hS => ?_)
   clear hK K
   try simp only [Act.put, List.setIfInBounds_toArray, List.set_cons_succ, List.set_cons_zero]
   refine tk (i := 7) (v := ?v7x29) (some 7) rfl rfl (Or.inl ⟨by kernel_rfl, ?h7x29⟩) ?r7x29
   case h7x29 => (intro w hSw; obtain ⟨s1, s2⟩ := hSw; obtain ⟨b0, b1, b2, b3, b4, b5, b9, b10, b12, b14, b15, b16, b19, b31, bf12, bf19, bf31, bz⟩ := use_box s1; obtain ⟨f0, f1, f2, _, _, _⟩ := box3 s2; have zf := lt_of_heap s2; go_simp; first | done | (with_reducible rfl))
   try simp only [Act.put, List.setIfInBounds_toArray, List.set_cons_succ, List.set_cons_zero]
   refine tk (i := 8) (v := ?v8x30) (some 15) rfl rfl (Or.inl ⟨by kernel_rfl, ?h8x30⟩) ?r8x30
   case h8x30 => (intro w hSw; obtain ⟨s1, s2⟩ := hSw; obtain ⟨b0, b1, b2, b3, b4, b5, b9, b10, b12, b14, b15, b16, b19, b31, bf12, bf19, bf31, bz⟩ := use_box s1; obtain ⟨f0, f1, f2, _, _, _⟩ := box3 s2; have zf := lt_of_heap s2; go_simp; first | done | (with_reducible rfl))
   try simp only [Act.put, List.setIfInBounds_toArray, List.set_cons_succ, List.set_cons_zero]
   refine tk (i := 9) (v := ?v9x31) (some 16) rfl rfl (Or.inl ⟨by kernel_rfl, ?h9x31⟩) ?r9x31
   case h9x31 => (intro w hSw; obtain ⟨s1, s2⟩ := hSw; obtain ⟨b0, b1, b2, b3, b4, b5, b9, b10, b12, b14, b15, b16, b19, b31, bf12, bf19, bf31, bz⟩ := use_box s1; obtain ⟨f0, f1, f2, _, _, _⟩ := box3 s2; have zf := lt_of_heap s2; go_simp; first | done | (with_reducible rfl))
   try simp only [Act.put, List.setIfInBounds_toArray, List.set_cons_succ, List.set_cons_zero]
   refine wpAnyH_ready (rs := [11]) (by kernel_rfl) (by simp) ?_
   refine AllReadyH.cons rfl (fun K hK => ?_) AllReadyH.nil
   refine step_store_row none rfl rfl 148 (.tmp 5) (.tmp 15) rfl gZ (hdCells sz sl tg false sc ep) rfl rfl 148 (hdCells 0 0 0 false 0 0) hZ infoHd rfl (hd_one _ _ _ _ _ _) ?_
   refine hK.out _ _ (⟨(setRow_other _ _ _ _ hgg).trans hS.1, (setRow_other _ _ _ _ hgg2).trans hS.2⟩) (fun hS => ?_)
   clear hK K
   try simp only [Act.put, List.setIfInBounds_toArray, List.set_cons_succ, List.set_cons_zero]
   refine tk (i := 12) (v := ?v12x32) (some 6) rfl rfl (Or.inl ⟨by kernel_rfl, ?h12x32⟩) ?r12x32
   case h12x32 => (intro w hSw; obtain ⟨s1, s2⟩ := hSw; obtain ⟨b0, b1, b2, b3, b4, b5, b9, b10, b12, b14, b15, b16, b19, b31, bf12, bf19, bf31, bz⟩ := use_box s1; obtain ⟨f0, f1, f2, _, _, _⟩ := box3 s2; have zf := lt_of_heap s2; go_simp; first | done | (with_reducible rfl))
   try simp only [Act.put, List.setIfInBounds_toArray, List.set_cons_succ, List.set_cons_zero]
   refine wpAnyH_done (by kernel_rfl) ?_ _
   go_wp2_with fail
   go_meet
   exact ⟨gZ, rfl, rfl, hgZ, setRow_heap _ _ _ _ _ _ hZ, below_setRow hB0 hgZ _⟩
 case rest =>
  obtain ⟨gZ, rfl, rfl, hgZ, hR, hb⟩ := hcut
  obtain ⟨w5, hwx⟩ : ∃ x, x = wc := ⟨_, rfl⟩
  subst hwx
  have hgl := lt_of_heap HQ.out
  have HT5 : Hid (Use w5 g p s t i h r 0) := Lib.hid (row_below HT.out hb)
  have HR5 := Lib.hid (row_below HR.out hb)
  have HQ5 := Lib.hid (row_below HQ.out hb)
  have HB5 := Lib.hid (below_only HB.out hb)
  have HZ := Lib.hid hR
  have MZ : Hid (w.heap.size + 1 ≠ gZ) := Lib.hid (by omega)
  have MgZ : Hid (gZ ≠ g) := Lib.hid (by have := lt_of_heap HT.out; omega)
  obtain ⟨x0, x1, x2, x3, x4, x5⟩ := box6 hR
  obtain ⟨f0, f1, f2, _, _, _⟩ := box3 HR5.out
  have zf := lt_of_heap HR5.out
  have zZ := lt_of_heap hR
  clear hb hR hgZ hgl
  obtain ⟨v0, v1, v2, v3, v4, v5, v9, v10, v12, v14, v15, v16, v19, v31, vf12, vf19, vf31, vz⟩ := use_box HT5.out
  go_wp2_with (first | (refine wpList_load_row rfl 148 (.tmp 5) rfl gZ rfl 148 (hdCells sz sl tg false sc ep) (0, 0) _ (show _ = _ from HZ.out) undHd rfl infoHd ?_) | refine wpList_store_row rfl 148 (.tmp 4) (.tmp 36) rfl (w.heap.size + 1) (hdCells sz sl tg false sc ep) rfl rfl 148 _ HQ5.out infoHd rfl (hd_one _ _ _ _ _ _) ?_)
  refine bodyPost_ret (results_cell_row (fn := Tryz.f81) rfl _ _ (w.heap.size + 1) 148 (hdCells sz sl tg false sc ep) (0, 0) _ rfl (setRow_heap w5 _ _ _ _ (0, 0) HQ5.out) undHd rfl infoHd) rfl ?_
  exact ⟨rfl, (setRow_other _ _ _ _ Mg.out.2).trans HT5.out, below_setRow HB5.out (by omega) _⟩
set_option maxRecDepth 100000 in
set_option maxHeartbeats 4000000 in
theorem useHead_bad (g p b : Nat) (s t i h : Int) (ws : List Int) (k : Nat) (r : Rn) (sc ep at_ : Int) (w : World) (y : Int) (h1 : ws[k]? = some 1281) (h2 : ws[k + 1]? = some y) (hT : Use w g p s t i h r 0) (hA : Arn w p b ws) (ha : at_ = 8 * (k : Int)) :
  Calls Tryz.prog 81 #[.pointer (some ⟨g, 0, none⟩), .agg #[.int .i64 sc, .int .i64 ep, .int .i64 at_]] w fun e w' => e = .returned (.agg (hdCells 0 0 0 false 0 0)) ∧ Use w' g p s t i h r 18 ∧ Keep [g] w w' := by
 have HC := fun w' (h' : Arn w' p b ws) => Lib.hid (thingAt_bad p b ws k at_ y w' h' h1 h2 ha)
 have HT := Lib.hid hT
 have HA := Lib.hid hA
 clear hT hA h1 h2 ha
 go_enter Tryz.func81, Tryz.ntmps81
 go_upto_region 1 with fail
 refine two_rows' w _ _ _ _ ?_
 intro w2 hr hr2 hb
 have hg := lt_of_heap HT.out
 replace HT := Lib.hid (row_below HT.out hb)
 replace HA := Lib.hid (HA.out.below hb)
 have HB := Lib.hid hb
 have HR := Lib.hid hr
 have HQ := Lib.hid hr2
 have Mg : Hid (g ≠ w.heap.size ∧ g ≠ w.heap.size + 1) := Lib.hid (by omega)
 clear hr hr2 hb hg
 try simp only [Act.put]
 go_cut [5, 6] from 5 to 16 (fun v8 v9 wx => ∃ gZ, v8 = .pointer (some ⟨gZ, 0, none⟩) ∧ v9 = .int .i64 18 ∧ w2.heap.size ≤ gZ ∧ wx.heap[gZ]? = some (.cells (hdCells 0 0 0 false 0 0) 148 (0, 0)) ∧ Below w2.heap.size w2 wx)
 case first =>
  refine wp_region_held_drew (S := fun W => Use W g p s t i h r 0 ∧ W.heap[w.heap.size]? = some (.cells #[.int .i64 sc, .int .i64 ep, .int .i64 at_] 70 (0, 0))) (by kernel_rfl) (show Use w2.drew g p s t i h r 0 ∧ w2.drew.heap[w.heap.size]? = _ from ⟨HT.out, HR.out⟩) ?_
  intro hS
  have hA0 : Arn w2.drew p b ws := HA.out.drew
  have hB0 : Below w2.heap.size w2 w2.drew := by go_grown
  generalize w2.drew = y0 at hS hA0 hB0 ⊢
  refine tk (i := 0) (v := ?v0x33) (some 8) rfl rfl (Or.inl ⟨by kernel_rfl, ?h0x33⟩) ?r0x33
  case h0x33 => (intro w hSw; obtain ⟨s1, s2⟩ := hSw; obtain ⟨b0, b1, b2, b3, b4, b5, b9, b10, b12, b14, b15, b16, b19, b31, bf12, bf19, bf31, bz⟩ := use_box s1; obtain ⟨f0, f1, f2, _, _, _⟩ := box3 s2; have zf := lt_of_heap s2; go_simp; first | done | (with_reducible rfl))
  try simp only [Act.put, List.setIfInBounds_toArray, List.set_cons_succ, List.set_cons_zero]
  refine tk (i := 1) (v := ?v1x34) (some 9) rfl rfl (Or.inl ⟨by kernel_rfl, ?h1x34⟩) ?r1x34
  case h1x34 => (intro w hSw; obtain ⟨s1, s2⟩ := hSw; obtain ⟨b0, b1, b2, b3, b4, b5, b9, b10, b12, b14, b15, b16, b19, b31, bf12, bf19, bf31, bz⟩ := use_box s1; obtain ⟨f0, f1, f2, _, _, _⟩ := box3 s2; have zf := lt_of_heap s2; go_simp; first | done | (with_reducible rfl))
  try simp only [Act.put, List.setIfInBounds_toArray, List.set_cons_succ, List.set_cons_zero]
  refine tk (i := 2) (v := ?v2x35) (some 10) rfl rfl (Or.inl ⟨by kernel_rfl, ?h2x35⟩) ?r2x35
  case h2x35 => (intro w hSw; obtain ⟨s1, s2⟩ := hSw; obtain ⟨b0, b1, b2, b3, b4, b5, b9, b10, b12, b14, b15, b16, b19, b31, bf12, bf19, bf31, bz⟩ := use_box s1; obtain ⟨f0, f1, f2, _, _, _⟩ := box3 s2; have zf := lt_of_heap s2; go_simp; first | done | (with_reducible rfl))
  try simp only [Act.put, List.setIfInBounds_toArray, List.set_cons_succ, List.set_cons_zero]
  refine tk (i := 3) (v := ?v3x36) (some 11) rfl rfl (Or.inl ⟨by kernel_rfl, ?h3x36⟩) ?r3x36
  case h3x36 => (intro w hSw; obtain ⟨s1, s2⟩ := hSw; obtain ⟨b0, b1, b2, b3, b4, b5, b9, b10, b12, b14, b15, b16, b19, b31, bf12, bf19, bf31, bz⟩ := use_box s1; obtain ⟨f0, f1, f2, _, _, _⟩ := box3 s2; have zf := lt_of_heap s2; go_simp; first | done | (with_reducible rfl))
  try simp only [Act.put, List.setIfInBounds_toArray, List.set_cons_succ, List.set_cons_zero]
  refine tk (i := 4) (v := ?v4x37) (some 12) rfl rfl (Or.inl ⟨by kernel_rfl, ?h4x37⟩) ?r4x37
  case h4x37 => (intro w hSw; obtain ⟨s1, s2⟩ := hSw; obtain ⟨b0, b1, b2, b3, b4, b5, b9, b10, b12, b14, b15, b16, b19, b31, bf12, bf19, bf31, bz⟩ := use_box s1; obtain ⟨f0, f1, f2, _, _, _⟩ := box3 s2; have zf := lt_of_heap s2; go_simp; first | done | (with_reducible rfl))
  try simp only [Act.put, List.setIfInBounds_toArray, List.set_cons_succ, List.set_cons_zero]
  refine tk (i := 5) (v := ?v5x38) (some 13) rfl rfl (Or.inl ⟨by kernel_rfl, ?h5x38⟩) ?r5x38
  case h5x38 => (intro w hSw; obtain ⟨s1, s2⟩ := hSw; obtain ⟨b0, b1, b2, b3, b4, b5, b9, b10, b12, b14, b15, b16, b19, b31, bf12, bf19, bf31, bz⟩ := use_box s1; obtain ⟨f0, f1, f2, _, _, _⟩ := box3 s2; have zf := lt_of_heap s2; go_simp; first | done | (with_reducible rfl))
  try simp only [Act.put, List.setIfInBounds_toArray, List.set_cons_succ, List.set_cons_zero]
  refine wpAnyH_ready (rs := [6, 10]) (by kernel_rfl) (by simp) ?_
  refine AllReadyH.cons rfl (fun K hK => ?_) (AllReadyH.cons rfl (fun K hK => ?_) AllReadyH.nil)
  ·skip
   go_simp
   refine (HC _ hA0).out.mono ?_
   rintro e' yE ⟨rfl, hb⟩
   go_simp
   replace hA0 := hA0.below hb
   replace hB0 := below_only hB0 hb
   refine hK.out _ _ (⟨row_below hS.1 hb, row_below hS.2 hb⟩) (fun hS => ?_)
   clear hK K
   try simp only [Act.put, List.setIfInBounds_toArray, List.set_cons_succ, List.set_cons_zero]
   refine tk (i := 7) (v := ?v7x39) (some 7) rfl rfl (Or.inl ⟨by kernel_rfl, ?h7x39⟩) ?r7x39
   case h7x39 => (intro w hSw; obtain ⟨s1, s2⟩ := hSw; obtain ⟨b0, b1, b2, b3, b4, b5, b9, b10, b12, b14, b15, b16, b19, b31, bf12, bf19, bf31, bz⟩ := use_box s1; obtain ⟨f0, f1, f2, _, _, _⟩ := box3 s2; have zf := lt_of_heap s2; go_simp; first | done | (with_reducible rfl))
   try simp only [Act.put, List.setIfInBounds_toArray, List.set_cons_succ, List.set_cons_zero]
   refine tk (i := 8) (v := ?v8x40) (some 15) rfl rfl (Or.inl ⟨by kernel_rfl, ?h8x40⟩) ?r8x40
   case h8x40 => (intro w hSw; obtain ⟨s1, s2⟩ := hSw; obtain ⟨b0, b1, b2, b3, b4, b5, b9, b10, b12, b14, b15, b16, b19, b31, bf12, bf19, bf31, bz⟩ := use_box s1; obtain ⟨f0, f1, f2, _, _, _⟩ := box3 s2; have zf := lt_of_heap s2; go_simp; first | done | (with_reducible rfl))
   try simp only [Act.put, List.setIfInBounds_toArray, List.set_cons_succ, List.set_cons_zero]
   refine tk (i := 9) (v := ?v9x41) (some 16) rfl rfl (Or.inl ⟨by kernel_rfl, ?h9x41⟩) ?r9x41
   case h9x41 => (intro w hSw; obtain ⟨s1, s2⟩ := hSw; obtain ⟨b0, b1, b2, b3, b4, b5, b9, b10, b12, b14, b15, b16, b19, b31, bf12, bf19, bf31, bz⟩ := use_box s1; obtain ⟨f0, f1, f2, _, _, _⟩ := box3 s2; have zf := lt_of_heap s2; go_simp; first | done | (with_reducible rfl))
   try simp only [Act.put, List.setIfInBounds_toArray, List.set_cons_succ, List.set_cons_zero]
   refine wpAnyH_ready (rs := [10]) (by kernel_rfl) (by simp) ?_
   refine AllReadyH.cons rfl (fun K hK => ?_) AllReadyH.nil
   go_simp
   refine k_alloc (fun yZ hZ hb => ?_)
   have hgZ : w2.heap.size ≤ yE.heap.size := hB0.size
   replace hA0 := hA0.below hb
   replace hB0 := below_only hB0 hb
   obtain ⟨gZ, HgZ⟩ : ∃ x, x = yE.heap.size := ⟨_, rfl⟩
   have hS1 := row_below hS.1 hb
   have hS2 := row_below hS.2 hb
   have hgg : g ≠ gZ := by have := lt_of_heap hS.1; omega
   have hgg2 : w.heap.size ≠ gZ := by have := lt_of_heap hS.2; omega
   rw [← HgZ] at hZ hgZ ⊢
   clear HgZ hb
   refine hK.out _ _ (⟨hS1, hS2⟩) (fun hS => ?_)
   clear hK K
   try simp only [Act.put, List.setIfInBounds_toArray, List.set_cons_succ, List.set_cons_zero]
   clear hS1 hS2
   refine wpAnyH_ready (rs := [11]) (by kernel_rfl) (by simp) ?_
   refine AllReadyH.cons rfl (fun K hK => ?_) AllReadyH.nil
   refine step_store_row none rfl rfl 148 (.tmp 5) (.tmp 15) rfl gZ (hdCells 0 0 0 false 0 0) rfl rfl 148 (hdCells 0 0 0 false 0 0) hZ infoHd rfl (hd_one _ _ _ _ _ _) ?_
   refine hK.out _ _ (⟨(setRow_other _ _ _ _ hgg).trans hS.1, (setRow_other _ _ _ _ hgg2).trans hS.2⟩) (fun hS => ?_)
   clear hK K
   try simp only [Act.put, List.setIfInBounds_toArray, List.set_cons_succ, List.set_cons_zero]
   refine tk (i := 12) (v := ?v12x42) (some 6) rfl rfl (Or.inl ⟨by kernel_rfl, ?h12x42⟩) ?r12x42
   case h12x42 => (intro w hSw; obtain ⟨s1, s2⟩ := hSw; obtain ⟨b0, b1, b2, b3, b4, b5, b9, b10, b12, b14, b15, b16, b19, b31, bf12, bf19, bf31, bz⟩ := use_box s1; obtain ⟨f0, f1, f2, _, _, _⟩ := box3 s2; have zf := lt_of_heap s2; go_simp; first | done | (with_reducible rfl))
   try simp only [Act.put, List.setIfInBounds_toArray, List.set_cons_succ, List.set_cons_zero]
   refine wpAnyH_done (by kernel_rfl) ?_ _
   go_wp2_with fail
   go_meet
   exact ⟨gZ, rfl, rfl, hgZ, setRow_heap _ _ _ _ _ _ hZ, below_setRow hB0 hgZ _⟩
  ·skip
   go_simp
   refine k_alloc (fun yZ hZ hb => ?_)
   have hgZ : w2.heap.size ≤ y0.heap.size := hB0.size
   replace hA0 := hA0.below hb
   replace hB0 := below_only hB0 hb
   obtain ⟨gZ, HgZ⟩ : ∃ x, x = y0.heap.size := ⟨_, rfl⟩
   have hS1 := row_below hS.1 hb
   have hS2 := row_below hS.2 hb
   have hgg : g ≠ gZ := by have := lt_of_heap hS.1; omega
   have hgg2 : w.heap.size ≠ gZ := by have := lt_of_heap hS.2; omega
   rw [← HgZ] at hZ hgZ ⊢
   clear HgZ hb
   refine hK.out _ _ (⟨hS1, hS2⟩) (fun hS => ?_)
   clear hK K
   try simp only [Act.put, List.setIfInBounds_toArray, List.set_cons_succ, List.set_cons_zero]
   clear hS1 hS2
   refine wpAnyH_ready (rs := [6]) (by kernel_rfl) (by simp) ?_
   refine AllReadyH.cons rfl (fun K hK => ?_) AllReadyH.nil
   go_simp
   refine (HC _ hA0).out.mono ?_
   rintro e' yE ⟨rfl, hb⟩
   go_simp
   replace hA0 := hA0.below hb
   replace hB0 := below_only hB0 hb
   replace hZ := row_below hZ hb
   refine hK.out _ _ (⟨row_below hS.1 hb, row_below hS.2 hb⟩) (fun hS => ?_)
   clear hK K
   try simp only [Act.put, List.setIfInBounds_toArray, List.set_cons_succ, List.set_cons_zero]
   refine tk (i := 7) (v := ?v7x43) (some 7) rfl rfl (Or.inl ⟨by kernel_rfl, ?h7x43⟩) ?r7x43
   case h7x43 => (intro w hSw; obtain ⟨s1, s2⟩ := hSw; obtain ⟨b0, b1, b2, b3, b4, b5, b9, b10, b12, b14, b15, b16, b19, b31, bf12, bf19, bf31, bz⟩ := use_box s1; obtain ⟨f0, f1, f2, _, _, _⟩ := box3 s2; have zf := lt_of_heap s2; go_simp; first | done | (with_reducible rfl))
   try simp only [Act.put, List.setIfInBounds_toArray, List.set_cons_succ, List.set_cons_zero]
   refine tk (i := 8) (v := ?v8x44) (some 15) rfl rfl (Or.inl ⟨by kernel_rfl, ?h8x44⟩) ?r8x44
   case h8x44 => (intro w hSw; obtain ⟨s1, s2⟩ := hSw; obtain ⟨b0, b1, b2, b3, b4, b5, b9, b10, b12, b14, b15, b16, b19, b31, bf12, bf19, bf31, bz⟩ := use_box s1; obtain ⟨f0, f1, f2, _, _, _⟩ := box3 s2; have zf := lt_of_heap s2; go_simp; first | done | (with_reducible rfl))
   try simp only [Act.put, List.setIfInBounds_toArray, List.set_cons_succ, List.set_cons_zero]
   refine tk (i := 9) (v := ?v9x45) (some 16) rfl rfl (Or.inl ⟨by kernel_rfl, ?h9x45⟩) ?r9x45
   case h9x45 => (intro w hSw; obtain ⟨s1, s2⟩ := hSw; obtain ⟨b0, b1, b2, b3, b4, b5, b9, b10, b12, b14, b15, b16, b19, b31, bf12, bf19, bf31, bz⟩ := use_box s1; obtain ⟨f0, f1, f2, _, _, _⟩ := box3 s2; have zf := lt_of_heap s2; go_simp; first | done | (with_reducible rfl))
   try simp only [Act.put, List.setIfInBounds_toArray, List.set_cons_succ, List.set_cons_zero]
   refine wpAnyH_ready (rs := [11]) (by kernel_rfl) (by simp) ?_
   refine AllReadyH.cons rfl (fun K hK => ?_) AllReadyH.nil
   refine step_store_row none rfl rfl 148 (.tmp 5) (.tmp 15) rfl gZ (hdCells 0 0 0 false 0 0) rfl rfl 148 (hdCells 0 0 0 false 0 0) hZ infoHd rfl (hd_one _ _ _ _ _ _) ?_
   refine hK.out _ _ (⟨(setRow_other _ _ _ _ hgg).trans hS.1, (setRow_other _ _ _ _ hgg2).trans hS.2⟩) (fun hS => ?_)
   clear hK K
   try simp only [Act.put, List.setIfInBounds_toArray, List.set_cons_succ, List.set_cons_zero]
   refine tk (i := 12) (v := ?v12x46) (some 6) rfl rfl (Or.inl ⟨by kernel_rfl, ?h12x46⟩) ?r12x46
   case h12x46 => (intro w hSw; obtain ⟨s1, s2⟩ := hSw; obtain ⟨b0, b1, b2, b3, b4, b5, b9, b10, b12, b14, b15, b16, b19, b31, bf12, bf19, bf31, bz⟩ := use_box s1; obtain ⟨f0, f1, f2, _, _, _⟩ := box3 s2; have zf := lt_of_heap s2; go_simp; first | done | (with_reducible rfl))
   try simp only [Act.put, List.setIfInBounds_toArray, List.set_cons_succ, List.set_cons_zero]
   refine wpAnyH_done (by kernel_rfl) ?_ _
   go_wp2_with fail
   go_meet
   exact ⟨gZ, rfl, rfl, hgZ, setRow_heap _ _ _ _ _ _ hZ, below_setRow hB0 hgZ _⟩
 case rest =>
  obtain ⟨gZ, rfl, rfl, hgZ, hR, hb⟩ := hcut
  obtain ⟨w5, hwx⟩ : ∃ x, x = wc := ⟨_, rfl⟩
  subst hwx
  have hgl := lt_of_heap HQ.out
  have HT5 : Hid (Use w5 g p s t i h r 0) := Lib.hid (row_below HT.out hb)
  have HR5 := Lib.hid (row_below HR.out hb)
  have HQ5 := Lib.hid (row_below HQ.out hb)
  have HB5 := Lib.hid (below_only HB.out hb)
  have HZ := Lib.hid hR
  have MZ : Hid (w.heap.size + 1 ≠ gZ) := Lib.hid (by omega)
  have MgZ : Hid (gZ ≠ g) := Lib.hid (by have := lt_of_heap HT.out; omega)
  obtain ⟨x0, x1, x2, x3, x4, x5⟩ := box6 hR
  obtain ⟨f0, f1, f2, _, _, _⟩ := box3 HR5.out
  have zf := lt_of_heap HR5.out
  have zZ := lt_of_heap hR
  clear hb hR hgZ hgl
  obtain ⟨v0, v1, v2, v3, v4, v5, v9, v10, v12, v14, v15, v16, v19, v31, vf12, vf19, vf31, vz⟩ := use_box HT5.out
  go_upto_region 4 with fail
  have HT6 : Hid (Use (w5.setCell ⟨g, 31, none⟩ (.int .i64 18)) g p s t i h r 18) := Lib.hid (HT5.out.setE 18)
  have HK6 : Hid (Keep [g] w (w5.setCell ⟨g, 31, none⟩ (.int .i64 18))) := Lib.hid ((keep_below HB5.out [g]).setCell (p := ⟨g, 31, none⟩) (.inl (by simp)) _)
  have k2 := (Keep.refl [g] w5).setCell (p := ⟨g, 31, none⟩) (.inl (by simp)) (.int .i64 18)
  have HZ6 := Lib.hid (k2.row HZ.out (by simpa using MgZ.out))
  have HQ6 := Lib.hid (k2.row HQ5.out (by simpa using Mg.out.2.symm))
  clear k2 x0 x1 x2 x3 x4 x5 f0 f1 f2 zf zZ v0 v1 v2 v3 v4 v5 v9 v10 v12 v14 v15 v16 v19 v31 vf12 vf19 vf31 vz
  generalize w5.setCell ⟨g, 31, none⟩ (.int .i64 18) = w6 at HT6 HK6 HZ6 HQ6 ⊢
  obtain ⟨x0, x1, x2, x3, x4, x5⟩ := box6 HZ6.out
  have zZ := lt_of_heap HZ6.out
  go_wp2_with (first | (refine wpList_load_row rfl 148 (.tmp 5) rfl gZ rfl 148 (hdCells 0 0 0 false 0 0) (0, 0) _ (show _ = _ from HZ6.out) undHd rfl infoHd ?_) | refine wpList_store_row rfl 148 (.tmp 4) (.tmp 36) rfl (w.heap.size + 1) (hdCells 0 0 0 false 0 0) rfl rfl 148 _ HQ6.out infoHd rfl (hd_one _ _ _ _ _ _) ?_)
  refine bodyPost_ret (results_cell_row (fn := Tryz.f81) rfl _ _ (w.heap.size + 1) 148 (hdCells 0 0 0 false 0 0) (0, 0) _ rfl (setRow_heap w6 _ _ _ _ (0, 0) HQ6.out) undHd rfl infoHd) rfl ?_
  exact ⟨rfl, (setRow_other _ _ _ _ Mg.out.2).trans HT6.out, HK6.out.setRow (.inr (by omega)) _⟩
end Go.Proofs.YtnimaajnlkbdaaaGreat
