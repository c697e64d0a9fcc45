/- Layer 18: the walk of leaver's walk. (Printed by gen_lvw.py.) -/
import Derived.Test.YtbijaloeilnjoaaGreatLvW
import Derived.Test.YtbijaloeilnjoaaGreatLvV
namespace Go.Proofs.YtbijaloeilnjoaaGreat
open Go.RowKit
set_option linter.unusedVariables false
set_option linter.unusedSimpArgs false

set_option maxRecDepth 100000 in
set_option maxHeartbeats 16000000 in
theorem lvWalkYes_any (g p : Nat) (s t i h : Int) (fA : Option Addr) (fn fc : Nat) (b : Nat) (ws : List Int) (k : Nat) (sz sl tg : Int) (tN : Nat) (dn : Bool) (sc ep : Int) (fl : List FSl) (Ls : List Int) (HH : HeadOk sz sl tg sc ep) (htN : tg = (tN : Int)) (r : Rn) (w : World) (H : PlanOk s t i h) (hT : Lvr w g p s t i h fA fn fc r) (hA : Arn w p b ws) (hgb : g ≠ b) (hgp : g ≠ p) (h1 : ws[k]? = some (head1d sz sl tg dn)) (h2 : ws[k + 1]? = some (head2 sc ep)) (ha : r.at_ = 8 * (k : Int)) (hk8 : k ≤ 8192) (hfn : fn = fl.length) (hf8 : fl.length ≤ 8) (hF : FinsAt w fA fl) (hln : r.list.n = Ls.length) (hl8 : Ls.length ≤ 64) (hlc : Cells w r.list.a (Ls.flatMap nCells)) (hgw : g < w.heap.size) (hdn : dn = false) (hop : fsOf (fsL fl) tN ≠ []) :
  Calls Tryz.prog 90 #[.pointer (some ⟨g, 0, none⟩)] w fun e w' => e = .returned (.tuple #[]) ∧ ∃ s2 : Sl, Lvr w' g p s t i h fA fn fc { r with list := s2, at_ := r.at_ + sz * 8, pc := onP { r with list := s2, at_ := r.at_ + sz * 8 } } ∧ s2.n = Ls.length + 1 ∧ s2.n ≤ s2.c ∧ Cells w' s2.a ((Ls ++ [r.at_]).flatMap nCells) ∧ (∀ z, s2.a = some z → w.heap.size ≤ z.block) ∧ Arn w' p b ws ∧ Keep [g, b] w w' := by
 subst hdn
 subst hfn
 subst htN
 have HLO : Hid ((finOf fl tN).l.length ≠ 0) := Lib.hid (by rw [finOf_l]; exact fun e => hop (List.eq_nil_of_length_eq_zero e))
 clear hop
 have HP0 := Lib.hid H
 have HT := Lib.hid hT
 have HA := Lib.hid hA
 have Hgb := Lib.hid hgb
 have Hgp : Hid (g ≠ b ∧ g ≠ p) := Lib.hid ⟨hgb, hgp⟩
 have HK : Hid (Keep [g, b] w w) := Lib.hid (Keep.refl _ _)
 have HAt := fun w' (hq : Arn w' p b ws) => Lib.hid (thingAtD_any p b ws k r.at_ sz sl (tN : Int) false sc ep w' hq HH h1 h2 ha)
 have HOf := fun w' (hq : FinsAt w' fA fl) => Lib.hid (finOf_any fA fc fl tN w' hq hf8 (by have := HH.htg; omega))
 have HF := Lib.hid hF
 have Hln := Lib.hid hln
 have Hl8 := Lib.hid hl8
 have HLC := Lib.hid hlc
 have Hgw := Lib.hid hgw
 have a0 : 0 ≤ r.at_ := by omega
 have a1 : r.at_ ≤ 65536 := by omega
 have sz0 : 0 ≤ sz := by have := HH.hsz; have := HH.hsl; omega
 have sz1 : sz ≤ 72 := HH.hsz.2
 clear h1 h2 ha hk8 hf8 hF hln hl8 hlc hgw HH
 clear H hT hA hgb hgp
 go_enter_defers Tryz.func90, Tryz.ntmps90
 obtain ⟨i0, hi0, hz0, hz1, hz2⟩ := info_parts infoInt
 go_wp2_with fail
 refine wp_region_held_drew (S := fun W => Lvr W g p s t i h fA fl.length fc r) (by kernel_rfl) (show Lvr w.drew g p s t i h fA fl.length fc r from HT.out) ?_
 intro hS
 have hA0 : Arn w.drew p b ws := HA.out.drew
 have hB0 : Below w.heap.size w w.drew := Below.drew (Below.refl _ _)
 generalize w.drew = y0 at hS hA0 hB0 ⊢
 refine tkD (i := 0) (v := ?v0x34) (some 6) rfl rfl (Or.inl ⟨by kernel_rfl, ?h0x34⟩) ?r0x34
 case h0x34 => (intro w' hSw; have b9 := lv_box hSw; go_simp; first | done | (with_reducible rfl))
 try simp only [zA, zB, zC, zD, zE]
 refine tkD (i := 1) (v := ?v1x35) (some 7) rfl rfl (Or.inl ⟨by kernel_rfl, ?h1x35⟩) ?r1x35
 case h1x35 => (intro w' hSw; have b9 := lv_box hSw; go_simp; first | done | (with_reducible rfl))
 try simp only [zA, zB, zC, zD, zE]
 refine tkD (i := 2) (v := ?v2x36) (some 8) rfl rfl (Or.inl ⟨by kernel_rfl, ?h2x36⟩) ?r2x36
 case h2x36 => (intro w' hSw; have b9 := lv_box hSw; go_simp; first | done | (with_reducible rfl))
 try simp only [zA, zB, zC, zD, zE]
 refine tkD (i := 3) (v := ?v3x37) (some 9) rfl rfl (Or.inl ⟨by kernel_rfl, ?h3x37⟩) ?r3x37
 case h3x37 => (intro w' hSw; have b9 := lv_box hSw; go_simp; first | done | (with_reducible rfl))
 try simp only [zA, zB, zC, zD, zE]
 refine tkD (i := 4) (v := ?v4x38) (some 10) rfl rfl (Or.inl ⟨by kernel_rfl, ?h4x38⟩) ?r4x38
 case h4x38 => (intro w' hSw; have b9 := lv_box hSw; go_simp; first | done | (with_reducible rfl))
 try simp only [zA, zB, zC, zD, zE]
 refine tkD (i := 5) (v := ?v5x39) (some 11) rfl rfl (Or.inl ⟨by kernel_rfl, ?h5x39⟩) ?r5x39
 case h5x39 => (intro w' hSw; have b9 := lv_box hSw; go_simp; first | done | (with_reducible rfl))
 try simp only [zA, zB, zC, zD, zE]
 refine tkD (i := 6) (v := ?v6x40) (some 12) rfl rfl (Or.inl ⟨by kernel_rfl, ?h6x40⟩) ?r6x40
 case h6x40 => (intro w' hSw; have b9 := lv_box hSw; go_simp; first | done | (with_reducible rfl))
 try simp only [zA, zB, zC, zD, zE]
 refine tkD (i := 7) (v := ?v7x41) (some 13) rfl rfl (Or.inl ⟨by kernel_rfl, ?h7x41⟩) ?r7x41
 case h7x41 => (intro w' hSw; have b9 := lv_box hSw; go_simp; first | done | (with_reducible rfl))
 try simp only [zA, zB, zC, zD, zE]
 refine tkD (i := 8) (v := ?v8x42) (some 14) rfl rfl (Or.inl ⟨by kernel_rfl, ?h8x42⟩) ?r8x42
 case h8x42 => (intro w' hSw; have b9 := lv_box hSw; go_simp; first | done | (with_reducible rfl))
 try simp only [zA, zB, zC, zD, zE]
 refine wpAnyH_ready (rs := [9, 13]) (by kernel_rfl) (by simp) ?_
 refine AllReadyH.cons rfl (fun K hK => ?_) (AllReadyH.cons rfl (fun K hK => ?_) AllReadyH.nil)
 ·skip
  go_simp
  refine (HAt _ hA0).out.mono ?_
  rintro e' yA ⟨rfl, hb⟩
  go_simp
  replace hB0 := below_only hB0 hb
  replace hA0 := hA0.below hb
  refine hK.out _ _ (row_below hS hb) (fun hS => ?_)
  clear hK K
  try simp only [zA, zB, zC, zD, zE]
  clear hb
  refine tkD (i := 10) (v := ?v10x43) (some 5) rfl rfl (Or.inl ⟨by kernel_rfl, ?h10x43⟩) ?r10x43
  case h10x43 => (intro w' hSw; have b9 := lv_box hSw; go_simp; first | done | (with_reducible rfl))
  try simp only [zA, zB, zC, zD, zE]
  refine tkD (i := 11) (v := ?v11x44) (some 16) rfl rfl (Or.inl ⟨by kernel_rfl, ?h11x44⟩) ?r11x44
  case h11x44 => (intro w' hSw; have b9 := lv_box hSw; go_simp; first | done | (with_reducible rfl))
  try simp only [zA, zB, zC, zD, zE]
  refine tkD (i := 12) (v := ?v12x45) (some 17) rfl rfl (Or.inl ⟨by kernel_rfl, ?h12x45⟩) ?r12x45
  case h12x45 => (intro w' hSw; have b9 := lv_box hSw; go_simp; first | done | (with_reducible rfl))
  try simp only [zA, zB, zC, zD, zE]
  refine wpAnyH_ready (rs := [13]) (by kernel_rfl) (by simp) ?_
  refine AllReadyH.cons rfl (fun K hK => ?_) AllReadyH.nil
  go_simp
  refine k_alloc (fun yZ hZ hb => ?_)
  have hgZ : w.heap.size ≤ yA.heap.size := hB0.size
  obtain ⟨gZ, HgZ⟩ : ∃ x, x = yA.heap.size := ⟨_, rfl⟩
  have hgg : g ≠ gZ := by have := lt_of_heap hS; omega
  replace hB0 := below_only hB0 hb
  replace hA0 := hA0.below hb
  rw [← HgZ] at hZ hgZ ⊢
  clear HgZ
  refine hK.out _ _ (row_below hS hb) (fun hS => ?_)
  clear hK K
  try simp only [zA, zB, zC, zD, zE]
  clear hb
  refine wpAnyH_ready (rs := [14]) (by kernel_rfl) (by simp) ?_
  refine AllReadyH.cons rfl (fun K hK => ?_) AllReadyH.nil
  refine step_store_row none rfl rfl 148 (.tmp 2) (.tmp 16) rfl gZ (hdCells sz sl (tN : Int) false sc ep) rfl rfl 148 _ hZ infoHd rfl (hd_one _ _ _ _ _ _) ?_
  have hw : (yZ.setRow gZ (hdCells sz sl (tN : Int) false sc ep)).heap[gZ]? = some (.cells (hdCells sz sl (tN : Int) false sc ep) 148 (0, 0)) := setRow_heap _ _ _ _ _ _ hZ
  have hbw : Below w.heap.size w (yZ.setRow gZ (hdCells sz sl (tN : Int) false sc ep)) := below_setRow hB0 hgZ _
  refine hK.out _ _ ((setRow_other _ _ _ _ hgg).trans hS) (fun hS => ?_)
  clear hK K
  try simp only [zA, zB, zC, zD, zE]
  refine tkD (i := 15) (v := ?v15x46) (some 3) rfl rfl (Or.inl ⟨by kernel_rfl, ?h15x46⟩) ?r15x46
  case h15x46 => (intro w' hSw; have b9 := lv_box hSw; go_simp; first | done | (with_reducible rfl))
  try simp only [zA, zB, zC, zD, zE]
  refine wpAnyH_done (by kernel_rfl) ?_ _
  clear hS hA0 hB0 hZ
  have HgH : Hid (g ≠ gZ) := Lib.hid hgg
  clear hgg
  generalize yZ.setRow gZ (hdCells sz sl (tN : Int) false sc ep) = w1 at hw hbw ⊢
  have HHd := Lib.hid hw
  have hb := hbw
  replace HF := Lib.hid (HF.out.below hb)
  replace HLC := Lib.hid (Cells.below HLC.out hb)
  clear hw hbw hgZ HAt
  replace HT := Lib.hid (row_below HT.out hb)
  replace HA := Lib.hid (HA.out.below hb)
  replace HK := Lib.hid (HK.out.call hb)
  clear hb
  go_wp2_with fail
  refine wp_region_held_drew (S := fun W => Lvr W g p s t i h fA fl.length fc r ∧ W.heap[gZ]? = some (.cells (hdCells sz sl (tN : Int) false sc ep) 148 (0, 0))) (by kernel_rfl) (show Lvr w1.drew g p s t i h fA fl.length fc r ∧ w1.drew.heap[gZ]? = _ from ⟨HT.out, HHd.out⟩) ?_
  intro hS
  have hF0 : FinsAt w1.drew fA fl := HF.out.below (Below.drew (Below.refl _ _))
  have hB1 : Below w1.heap.size w1 w1.drew := Below.drew (Below.refl _ _)
  generalize w1.drew = y0 at hS hF0 hB1 ⊢
  refine tkD (i := 0) (v := ?v0x51q5) (some 18) rfl rfl (Or.inl ⟨by kernel_rfl, ?h0x51q5⟩) ?r0x51q5
  case h0x51q5 => (intro w' hSw; obtain ⟨sA, sB⟩ := hSw; have b9 := lv_box sA; obtain ⟨q0, q1, q2, q3, _⟩ := box6 sB; have zq := lt_of_heap sB; go_simp; first | done | (with_reducible rfl))
  try simp only [zA, zB, zC, zD, zE]
  refine tkD (i := 1) (v := ?v1x52q5) (some 19) rfl rfl (Or.inl ⟨by kernel_rfl, ?h1x52q5⟩) ?r1x52q5
  case h1x52q5 => (intro w' hSw; obtain ⟨sA, sB⟩ := hSw; have b9 := lv_box sA; obtain ⟨q0, q1, q2, q3, _⟩ := box6 sB; have zq := lt_of_heap sB; go_simp; first | done | (with_reducible rfl))
  try simp only [zA, zB, zC, zD, zE]
  refine tkD (i := 2) (v := ?v2x53q5) (some 20) rfl rfl (Or.inl ⟨by kernel_rfl, ?h2x53q5⟩) ?r2x53q5
  case h2x53q5 => (intro w' hSw; obtain ⟨sA, sB⟩ := hSw; have b9 := lv_box sA; obtain ⟨q0, q1, q2, q3, _⟩ := box6 sB; have zq := lt_of_heap sB; go_simp; first | done | (with_reducible rfl))
  try simp only [zA, zB, zC, zD, zE]
  refine tkD (i := 3) (v := ?v3x54q5) (some 21) rfl rfl (Or.inl ⟨by kernel_rfl, ?h3x54q5⟩) ?r3x54q5
  case h3x54q5 => (intro w' hSw; obtain ⟨sA, sB⟩ := hSw; have b9 := lv_box sA; obtain ⟨q0, q1, q2, q3, _⟩ := box6 sB; have zq := lt_of_heap sB; go_simp; first | done | (with_reducible rfl))
  try simp only [zA, zB, zC, zD, zE]
  refine tkD (i := 4) (v := ?v4x55q5) (some 22) rfl rfl (Or.inl ⟨by kernel_rfl, ?h4x55q5⟩) ?r4x55q5
  case h4x55q5 => (intro w' hSw; obtain ⟨sA, sB⟩ := hSw; have b9 := lv_box sA; obtain ⟨q0, q1, q2, q3, _⟩ := box6 sB; have zq := lt_of_heap sB; go_simp; first | done | (with_reducible rfl))
  try simp only [zA, zB, zC, zD, zE]
  refine tkD (i := 5) (v := ?v5x56q5) (some 23) rfl rfl (Or.inl ⟨by kernel_rfl, ?h5x56q5⟩) ?r5x56q5
  case h5x56q5 => (intro w' hSw; obtain ⟨sA, sB⟩ := hSw; have b9 := lv_box sA; obtain ⟨q0, q1, q2, q3, _⟩ := box6 sB; have zq := lt_of_heap sB; go_simp; first | done | (with_reducible rfl))
  try simp only [zA, zB, zC, zD, zE]
  refine tkD (i := 6) (v := ?v6x57q5) (some 24) rfl rfl (Or.inl ⟨by kernel_rfl, ?h6x57q5⟩) ?r6x57q5
  case h6x57q5 => (intro w' hSw; obtain ⟨sA, sB⟩ := hSw; have b9 := lv_box sA; obtain ⟨q0, q1, q2, q3, _⟩ := box6 sB; have zq := lt_of_heap sB; go_simp; first | done | (with_reducible rfl))
  try simp only [zA, zB, zC, zD, zE]
  refine tkD (i := 7) (v := ?v7x58q5) (some 25) rfl rfl (Or.inl ⟨by kernel_rfl, ?h7x58q5⟩) ?r7x58q5
  case h7x58q5 => (intro w' hSw; obtain ⟨sA, sB⟩ := hSw; have b9 := lv_box sA; obtain ⟨q0, q1, q2, q3, _⟩ := box6 sB; have zq := lt_of_heap sB; go_simp; first | done | (with_reducible rfl))
  try simp only [zA, zB, zC, zD, zE]
  refine tkD (i := 8) (v := ?v8x59q5) (some 26) rfl rfl (Or.inl ⟨by kernel_rfl, ?h8x59q5⟩) ?r8x59q5
  case h8x59q5 => (intro w' hSw; obtain ⟨sA, sB⟩ := hSw; have b9 := lv_box sA; obtain ⟨q0, q1, q2, q3, _⟩ := box6 sB; have zq := lt_of_heap sB; go_simp; first | done | (with_reducible rfl))
  try simp only [zA, zB, zC, zD, zE]
  refine tkD (i := 9) (v := ?v9x60q5) (some 27) rfl rfl (Or.inl ⟨by kernel_rfl, ?h9x60q5⟩) ?r9x60q5
  case h9x60q5 => (intro w' hSw; obtain ⟨sA, sB⟩ := hSw; have b9 := lv_box sA; obtain ⟨q0, q1, q2, q3, _⟩ := box6 sB; have zq := lt_of_heap sB; go_simp; first | done | (with_reducible rfl))
  try simp only [zA, zB, zC, zD, zE]
  refine wpAnyH_ready (rs := [10]) (by kernel_rfl) (by simp) ?_
  refine AllReadyH.cons rfl (fun K hK => ?_) AllReadyH.nil
  go_simp
  refine (HOf _ hF0).out.mono ?_
  rintro e' y1 ⟨rfl, e2⟩
  rw [e2]
  clear e2 y1
  go_simp
  refine hK.out _ _ (hS) (fun hS => ?_)
  clear hK K
  try simp only [zA, zB, zC, zD, zE]
  refine tkD (i := 11) (v := ?v11x61q5) (some 29) rfl rfl (Or.inl ⟨by kernel_rfl, ?h11x61q5⟩) ?r11x61q5
  case h11x61q5 => (intro w' hSw; obtain ⟨sA, sB⟩ := hSw; have b9 := lv_box sA; obtain ⟨q0, q1, q2, q3, _⟩ := box6 sB; have zq := lt_of_heap sB; go_simp; first | done | (with_reducible rfl))
  try simp only [zA, zB, zC, zD, zE]
  refine tkD (i := 12) (v := ?v12x62q5) (some 30) rfl rfl (Or.inl ⟨by kernel_rfl, ?h12x62q5⟩) ?r12x62q5
  case h12x62q5 => (intro w' hSw; obtain ⟨sA, sB⟩ := hSw; have b9 := lv_box sA; obtain ⟨q0, q1, q2, q3, _⟩ := box6 sB; have zq := lt_of_heap sB; go_simp; first | done | (with_reducible rfl))
  try simp only [zA, zB, zC, zD, zE]
  refine tkD (i := 13) (v := ?v13x63q5) (some 31) rfl rfl (Or.inl ⟨by kernel_rfl, ?h13x63q5⟩) ?r13x63q5
  case h13x63q5 => (intro w' hSw; obtain ⟨sA, sB⟩ := hSw; have b9 := lv_box sA; obtain ⟨q0, q1, q2, q3, _⟩ := box6 sB; have zq := lt_of_heap sB; go_simp; first | done | (with_reducible rfl))
  try simp only [zA, zB, zC, zD, zE]
  refine wpAnyH_done (by kernel_rfl) ?_ _
  clear hS hF0
  obtain ⟨w2, hw2⟩ : ∃ x, x = y0 := ⟨_, rfl⟩
  rw [← hw2] at hB1 ⊢
  replace HHd := Lib.hid (row_below HHd.out hB1)
  replace HLC := Lib.hid (Cells.below HLC.out hB1)
  clear hw2 HOf HF
  replace HT := Lib.hid (row_below HT.out hB1)
  replace HA := Lib.hid (HA.out.below hB1)
  replace HK := Lib.hid (HK.out.call hB1)
  have Hw2 : Hid (w.heap.size ≤ w2.heap.size) := Lib.hid HK.out.size
  have Hgw2 : Hid (g < w2.heap.size) := Lib.hid (lt_of_heap HT.out)
  clear hB1
  obtain ⟨lo, Hlo⟩ : ∃ x, Hid ((finOf fl tN).l.length = x) := ⟨_, Lib.hid rfl⟩
  rw [Hlo.out] at HLO ⊢
  have lo0 : (0 : Int) ≤ (lo : Int) := by omega
  have hloI : (0 : Int) < (lo : Int) := by have := HLO.out; omega
  have hloB : decide ((0 : Int) < (lo : Int)) = true := decide_eq_true hloI
  have hloN : 0 < lo := by omega
  go_upto_region 3 with fail
  try simp only [Act.put]
  rw [show decide (0 < lo) = true from decide_eq_true hloN]
  go_cut [] from 32 to 48 (fun wx => ∃ (A9 : Option Addr) (c9 : Nat), Lvr wx g p s t i h fA fl.length fc { r with list := (⟨A9, Ls.length + 1, c9⟩ : Sl) } ∧ (Cells wx A9 ((Ls ++ [r.at_]).flatMap nCells) ∧ ∀ z, A9 = some z → w2.heap.size ≤ z.block) ∧ wx.heap[gZ]? = some (.cells (hdCells sz sl (tN : Int) false sc ep) 148 (0, 0)) ∧ Arn wx p b ws ∧ Keep [g, b] w wx ∧ Ls.length + 1 ≤ c9)
  case first =>
   as_aux_lemma =>
    refine wp_region_held_drew (S := fun W => W.cell? ⟨g, 20, none⟩ = some (.int .i64 r.at_) ∧ g < W.heap.size) (by kernel_rfl) (show w2.drew.cell? _ = _ ∧ g < w2.drew.heap.size from ⟨Lvr.hi (r := r) HT.out 20 14 _ rfl rfl, lt_of_heap HT.out⟩) ?_
    intro hS
    have hB0 : Below w2.heap.size w2 w2.drew := Below.drew (Below.refl _ _)
    have hT0 : Lvr w2.drew g p s t i h fA fl.length fc r := HT.out
    have hC0 : Cells w2.drew r.list.a (Ls.flatMap nCells) := Cells.below HLC.out hB0
    generalize w2.drew = y0 at hS hB0 hT0 hC0 ⊢
    refine tkD (i := 0) (v := ?v0x64q5) (some 32) rfl rfl (Or.inl ⟨by kernel_rfl, ?h0x64q5⟩) ?r0x64q5
    case h0x64q5 => (intro w' hSw; obtain ⟨c20, zg⟩ := hSw; go_simp; first | done | (with_reducible rfl))
    try simp only [zA, zB, zC, zD, zE]
    refine tkD (i := 1) (v := ?v1x65q5) (some 33) rfl rfl (Or.inl ⟨by kernel_rfl, ?h1x65q5⟩) ?r1x65q5
    case h1x65q5 => (intro w' hSw; obtain ⟨c20, zg⟩ := hSw; go_simp; first | done | (with_reducible rfl))
    try simp only [zA, zB, zC, zD, zE]
    refine tkD (i := 2) (v := ?v2x66q5) (some 34) rfl rfl (Or.inl ⟨by kernel_rfl, ?h2x66q5⟩) ?r2x66q5
    case h2x66q5 => (intro w' hSw; obtain ⟨c20, zg⟩ := hSw; go_simp; first | done | (with_reducible rfl))
    try simp only [zA, zB, zC, zD, zE]
    refine tkD (i := 3) (v := ?v3x67q5) (some 35) rfl rfl (Or.inl ⟨by kernel_rfl, ?h3x67q5⟩) ?r3x67q5
    case h3x67q5 => (intro w' hSw; obtain ⟨c20, zg⟩ := hSw; go_simp; first | done | (with_reducible rfl))
    try simp only [zA, zB, zC, zD, zE]
    refine tkD (i := 4) (v := ?v4x68q5) (some 36) rfl rfl (Or.inl ⟨by kernel_rfl, ?h4x68q5⟩) ?r4x68q5
    case h4x68q5 => (intro w' hSw; obtain ⟨c20, zg⟩ := hSw; go_simp; first | done | (with_reducible rfl))
    try simp only [zA, zB, zC, zD, zE]
    refine tkD (i := 7) (v := ?v7x69q5) (some 39) rfl rfl (Or.inl ⟨by kernel_rfl, ?h7x69q5⟩) ?r7x69q5
    case h7x69q5 => (intro w' hSw; obtain ⟨c20, zg⟩ := hSw; go_simp; first | done | (with_reducible rfl))
    try simp only [zA, zB, zC, zD, zE]
    refine tkD (i := 8) (v := ?v8x70q5) (some 40) rfl rfl (Or.inl ⟨by kernel_rfl, ?h8x70q5⟩) ?r8x70q5
    case h8x70q5 => (intro w' hSw; obtain ⟨c20, zg⟩ := hSw; go_simp; first | done | (with_reducible rfl))
    try simp only [zA, zB, zC, zD, zE]
    refine tkD (i := 9) (v := ?v9x71q5) (some 41) rfl rfl (Or.inl ⟨by kernel_rfl, ?h9x71q5⟩) ?r9x71q5
    case h9x71q5 => (intro w' hSw; obtain ⟨c20, zg⟩ := hSw; go_simp; first | done | (with_reducible rfl))
    try simp only [zA, zB, zC, zD, zE]
    refine tkD (i := 10) (v := ?v10x72q5) (some 42) rfl rfl (Or.inl ⟨by kernel_rfl, ?h10x72q5⟩) ?r10x72q5
    case h10x72q5 => (intro w' hSw; obtain ⟨c20, zg⟩ := hSw; go_simp; first | done | (with_reducible rfl))
    try simp only [zA, zB, zC, zD, zE]
    refine tkD (i := 11) (v := ?v11x73q5) (some 43) rfl rfl (Or.inl ⟨by kernel_rfl, ?h11x73q5⟩) ?r11x73q5
    case h11x73q5 => (intro w' hSw; obtain ⟨c20, zg⟩ := hSw; go_simp; first | done | (with_reducible rfl))
    try simp only [zA, zB, zC, zD, zE]
    refine wpAnyH_ready (rs := [5, 12]) (by kernel_rfl) (by simp) ?_
    refine AllReadyH.cons rfl (fun K hK => ?_) (AllReadyH.cons rfl (fun K hK => ?_) AllReadyH.nil)
    ·skip
     have b9 := lv_box hT0
     go_simp
     clear b9
     refine hK.out _ _ (⟨Lvr.hi (r := r) hT0 20 14 _ rfl rfl, lt_of_heap hT0⟩) (fun hS => ?_)
     clear hK K
     try simp only [zA, zB, zC, zD, zE]
     refine wpAnyH_ready (rs := [6, 12]) (by kernel_rfl) (by simp) ?_
     refine AllReadyH.cons rfl (fun K hK => ?_) (AllReadyH.cons rfl (fun K hK => ?_) AllReadyH.nil)
     ·skip
      go_simp
      rw [show r.list.v = .slice r.list.a Ls.length r.list.c from by rw [← Hln.out]]
      refine (cloneO_any r.list.a r.list.c Ls _ (by have := Hl8.out; omega) hC0).mono ?_
      rintro e' yC ⟨vC, rfl, hown, hb⟩
      go_simp
      have hown := own_base hown hB0.size
      replace hB0 := below_only hB0 hb
      have hT0 : Lvr yC g p s t i h fA fl.length fc r := row_below HT.out hB0
      refine hK.out _ _ (⟨Lvr.hi (r := r) hT0 20 14 _ rfl rfl, lt_of_heap hT0⟩) (fun hS => ?_)
      clear hK K
      try simp only [zA, zB, zC, zD, zE]
      clear hb hC0
      refine wpAnyH_ready (rs := [12]) (by kernel_rfl) (by simp) ?_
      refine AllReadyH.cons rfl (fun K hK => ?_) AllReadyH.nil
      go_simp
      refine k_alloc (fun yL hL hb => ?_)
      obtain ⟨gL, HgL⟩ : ∃ x, x = yC.heap.size := ⟨_, rfl⟩
      have hgL : w2.heap.size ≤ gL := by rw [HgL]; exact hB0.size
      replace hB0 := below_only hB0 hb
      have hT0 : Lvr yL g p s t i h fA fl.length fc r := row_below HT.out hB0
      replace hown := own_below hown hb
      rw [← HgL] at hL ⊢
      clear HgL
      refine hK.out _ _ (⟨Lvr.hi (r := r) hT0 20 14 _ rfl rfl, lt_of_heap hT0⟩) (fun hS => ?_)
      clear hK K
      try simp only [zA, zB, zC, zD, zE]
      clear hb
      refine wpAnyH_ready (rs := [13]) (by kernel_rfl) (by simp) ?_
      refine AllReadyH.cons rfl (fun K hK => ?_) AllReadyH.nil
      refine step_append_any _ rfl (.tmp 38) (.tmp 44) _ rfl w2.heap.size 3 i0 _ 1 8 Tryz.underlying38 hi0 hz0 hz1 hz2 rfl (by omega) _ Ls.length (Ls.flatMap nCells) (by rfl) hown (some ⟨gL, 0, none⟩) 1 1 [.int .i64 r.at_] (by rfl) rfl (cells_of hL) (by simp [Value.oneCell']) (by have := Hl8.out; simp only [maxLen]; omega) (by have := Hl8.out; omega) hB0.size ?_
      intro v9 y9 hown9 hg9 hat9
      change K (Act.put _ (some 45) _) _
      obtain ⟨A9, c9, rfl, hc9, -, hcs9⟩ := own_slice hown9
      have hfar9 := Lib.hid (own_ge hown9)
      replace hB0 : Below w2.heap.size w2 y9 := hB0.grown hg9 hB0.size (own_ge hown)
      have hT0 : Lvr y9 g p s t i h fA fl.length fc r := row_below HT.out hB0
      refine hK.out _ _ (⟨Lvr.hi (r := r) hT0 20 14 _ rfl rfl, lt_of_heap hT0⟩) (fun hS => ?_)
      clear hK K
      try simp only [zA, zB, zC, zD, zE]
      have Hc9 := Lib.hid hc9
      have Hcs9 := Lib.hid hcs9
      clear hg9 hat9 hown hL hown9 hc9 hcs9
      refine tkD (i := 14) (v := ?v14x74q5) (some 46) rfl rfl (Or.inl ⟨by kernel_rfl, ?h14x74q5⟩) ?r14x74q5
      case h14x74q5 => (intro w' hSw; obtain ⟨c20, zg⟩ := hSw; go_simp; first | done | (with_reducible rfl))
      try simp only [zA, zB, zC, zD, zE]
      refine tkD (i := 15) (v := ?v15x75q5) (some 47) rfl rfl (Or.inl ⟨by kernel_rfl, ?h15x75q5⟩) ?r15x75q5
      case h15x75q5 => (intro w' hSw; obtain ⟨c20, zg⟩ := hSw; go_simp; first | done | (with_reducible rfl))
      try simp only [zA, zB, zC, zD, zE]
      refine tkD (i := 16) (v := ?v16x76q5) (some 48) rfl rfl (Or.inl ⟨by kernel_rfl, ?h16x76q5⟩) ?r16x76q5
      case h16x76q5 => (intro w' hSw; obtain ⟨c20, zg⟩ := hSw; go_simp; first | done | (with_reducible rfl))
      try simp only [zA, zB, zC, zD, zE]
      refine wpAnyH_ready (rs := [17]) (by kernel_rfl) (by simp) ?_
      refine AllReadyH.cons rfl (fun K hK => ?_) AllReadyH.nil
      refine step_store_one none rfl rfl 38 (.tmp 48) (.tmp 45) rfl g 22 (.slice A9 (Ls.length + 1) c9) rfl rfl _ _ hT0 (by rw [lvr_size]; decide) infoInts rfl ?_
      refine set_oneR (P := K _) y9 g 22 (.slice A9 (Ls.length + 1) c9) _ _ hT0 ?_
      intro yS hr hk
      rw [show Value.slice A9 (Ls.length + 1) c9 = (⟨A9, Ls.length + 1, c9⟩ : Sl).v from rfl, pre_set _ _ 22 16 _ rfl] at hr
      have hT2 : Lvr yS g p s t i h fA fl.length fc { r with list := ⟨A9, Ls.length + 1, c9⟩ } := hr
      refine hK.out _ _ (⟨Lvr.hi (r := { r with list := ⟨A9, Ls.length + 1, c9⟩ }) hT2 20 14 _ rfl rfl, lt_of_heap hT2⟩) (fun hS => ?_)
      clear hK K
      try simp only [zA, zB, zC, zD, zE]
      clear hr
      refine wpAnyH_done (by kernel_rfl) ?_ _
      have HLs : Hid (Cells yS A9 ((Ls ++ [r.at_]).flatMap nCells) ∧ ∀ z, A9 = some z → w2.heap.size ≤ z.block) := Lib.hid ⟨by
       rw [List.flatMap_append]
       exact Cells.kept Hcs9.out hk (fun a ha => by
        have h1 := hfar9.out a.block (by rw [ha]; rfl)
        have h2 := lt_of_heap HT.out
        simp; omega), fun z hz => hfar9.out z.block (by rw [hz]; rfl)⟩
      replace HHd := Lib.hid (hk.row (row_below HHd.out hB0) (by simpa using HgH.out.symm))
      replace HA := Lib.hid ((HA.out.below hB0).kept hk (by simpa using Hgp.out.2.symm) (by simpa using Hgp.out.1.symm))
      replace HK := Lib.hid ((HK.out.call hB0).trans (hk.sub (T := [g, b]) (fun i hi => by simp at hi; simp [hi])))
      replace HT := Lib.hid hT2
      clear hS hB0 hT0 hT2 hk Hcs9 hfar9
      go_wp2_with fail
      go_meet
      exact ⟨A9, c9, HT.out, HLs.out, HHd.out, HA.out, HK.out, Hc9.out⟩
     ·skip
      go_simp
      refine k_alloc (fun yL hL hb => ?_)
      obtain ⟨gL, HgL⟩ : ∃ x, x = y0.heap.size := ⟨_, rfl⟩
      have hgL : w2.heap.size ≤ gL := by rw [HgL]; exact hB0.size
      replace hB0 := below_only hB0 hb
      have hT0 : Lvr yL g p s t i h fA fl.length fc r := row_below HT.out hB0
      replace hC0 := Cells.below hC0 hb
      rw [← HgL] at hL ⊢
      clear HgL
      refine hK.out _ _ (⟨Lvr.hi (r := r) hT0 20 14 _ rfl rfl, lt_of_heap hT0⟩) (fun hS => ?_)
      clear hK K
      try simp only [zA, zB, zC, zD, zE]
      clear hb
      refine wpAnyH_ready (rs := [6]) (by kernel_rfl) (by simp) ?_
      refine AllReadyH.cons rfl (fun K hK => ?_) AllReadyH.nil
      go_simp
      rw [show r.list.v = .slice r.list.a Ls.length r.list.c from by rw [← Hln.out]]
      refine (cloneO_any r.list.a r.list.c Ls _ (by have := Hl8.out; omega) hC0).mono ?_
      rintro e' yC ⟨vC, rfl, hown, hb⟩
      go_simp
      have hown := own_base hown hB0.size
      replace hB0 := below_only hB0 hb
      have hT0 : Lvr yC g p s t i h fA fl.length fc r := row_below HT.out hB0
      replace hL := row_below hL hb
      refine hK.out _ _ (⟨Lvr.hi (r := r) hT0 20 14 _ rfl rfl, lt_of_heap hT0⟩) (fun hS => ?_)
      clear hK K
      try simp only [zA, zB, zC, zD, zE]
      clear hb hC0
      refine wpAnyH_ready (rs := [13]) (by kernel_rfl) (by simp) ?_
      refine AllReadyH.cons rfl (fun K hK => ?_) AllReadyH.nil
      refine step_append_any _ rfl (.tmp 38) (.tmp 44) _ rfl w2.heap.size 3 i0 _ 1 8 Tryz.underlying38 hi0 hz0 hz1 hz2 rfl (by omega) _ Ls.length (Ls.flatMap nCells) (by rfl) hown (some ⟨gL, 0, none⟩) 1 1 [.int .i64 r.at_] (by rfl) rfl (cells_of hL) (by simp [Value.oneCell']) (by have := Hl8.out; simp only [maxLen]; omega) (by have := Hl8.out; omega) hB0.size ?_
      intro v9 y9 hown9 hg9 hat9
      change K (Act.put _ (some 45) _) _
      obtain ⟨A9, c9, rfl, hc9, -, hcs9⟩ := own_slice hown9
      have hfar9 := Lib.hid (own_ge hown9)
      replace hB0 : Below w2.heap.size w2 y9 := hB0.grown hg9 hB0.size (own_ge hown)
      have hT0 : Lvr y9 g p s t i h fA fl.length fc r := row_below HT.out hB0
      refine hK.out _ _ (⟨Lvr.hi (r := r) hT0 20 14 _ rfl rfl, lt_of_heap hT0⟩) (fun hS => ?_)
      clear hK K
      try simp only [zA, zB, zC, zD, zE]
      have Hc9 := Lib.hid hc9
      have Hcs9 := Lib.hid hcs9
      clear hg9 hat9 hown hL hown9 hc9 hcs9
      refine tkD (i := 14) (v := ?v14x77q5) (some 46) rfl rfl (Or.inl ⟨by kernel_rfl, ?h14x77q5⟩) ?r14x77q5
      case h14x77q5 => (intro w' hSw; obtain ⟨c20, zg⟩ := hSw; go_simp; first | done | (with_reducible rfl))
      try simp only [zA, zB, zC, zD, zE]
      refine tkD (i := 15) (v := ?v15x78q5) (some 47) rfl rfl (Or.inl ⟨by kernel_rfl, ?h15x78q5⟩) ?r15x78q5
      case h15x78q5 => (intro w' hSw; obtain ⟨c20, zg⟩ := hSw; go_simp; first | done | (with_reducible rfl))
      try simp only [zA, zB, zC, zD, zE]
      refine tkD (i := 16) (v := ?v16x79q5) (some 48) rfl rfl (Or.inl ⟨by kernel_rfl, ?h16x79q5⟩) ?r16x79q5
      case h16x79q5 => (intro w' hSw; obtain ⟨c20, zg⟩ := hSw; go_simp; first | done | (with_reducible rfl))
      try simp only [zA, zB, zC, zD, zE]
      refine wpAnyH_ready (rs := [17]) (by kernel_rfl) (by simp) ?_
      refine AllReadyH.cons rfl (fun K hK => ?_) AllReadyH.nil
      refine step_store_one none rfl rfl 38 (.tmp 48) (.tmp 45) rfl g 22 (.slice A9 (Ls.length + 1) c9) rfl rfl _ _ hT0 (by rw [lvr_size]; decide) infoInts rfl ?_
      refine set_oneR (P := K _) y9 g 22 (.slice A9 (Ls.length + 1) c9) _ _ hT0 ?_
      intro yS hr hk
      rw [show Value.slice A9 (Ls.length + 1) c9 = (⟨A9, Ls.length + 1, c9⟩ : Sl).v from rfl, pre_set _ _ 22 16 _ rfl] at hr
      have hT2 : Lvr yS g p s t i h fA fl.length fc { r with list := ⟨A9, Ls.length + 1, c9⟩ } := hr
      refine hK.out _ _ (⟨Lvr.hi (r := { r with list := ⟨A9, Ls.length + 1, c9⟩ }) hT2 20 14 _ rfl rfl, lt_of_heap hT2⟩) (fun hS => ?_)
      clear hK K
      try simp only [zA, zB, zC, zD, zE]
      clear hr
      refine wpAnyH_done (by kernel_rfl) ?_ _
      have HLs : Hid (Cells yS A9 ((Ls ++ [r.at_]).flatMap nCells) ∧ ∀ z, A9 = some z → w2.heap.size ≤ z.block) := Lib.hid ⟨by
       rw [List.flatMap_append]
       exact Cells.kept Hcs9.out hk (fun a ha => by
        have h1 := hfar9.out a.block (by rw [ha]; rfl)
        have h2 := lt_of_heap HT.out
        simp; omega), fun z hz => hfar9.out z.block (by rw [hz]; rfl)⟩
      replace HHd := Lib.hid (hk.row (row_below HHd.out hB0) (by simpa using HgH.out.symm))
      replace HA := Lib.hid ((HA.out.below hB0).kept hk (by simpa using Hgp.out.2.symm) (by simpa using Hgp.out.1.symm))
      replace HK := Lib.hid ((HK.out.call hB0).trans (hk.sub (T := [g, b]) (fun i hi => by simp at hi; simp [hi])))
      replace HT := Lib.hid hT2
      clear hS hB0 hT0 hT2 hk Hcs9 hfar9
      go_wp2_with fail
      go_meet
      exact ⟨A9, c9, HT.out, HLs.out, HHd.out, HA.out, HK.out, Hc9.out⟩
    ·skip
     go_simp
     refine k_alloc (fun yL hL hb => ?_)
     obtain ⟨gL, HgL⟩ : ∃ x, x = y0.heap.size := ⟨_, rfl⟩
     have hgL : w2.heap.size ≤ gL := by rw [HgL]; exact hB0.size
     replace hB0 := below_only hB0 hb
     have hT0 : Lvr yL g p s t i h fA fl.length fc r := row_below HT.out hB0
     replace hC0 := Cells.below hC0 hb
     rw [← HgL] at hL ⊢
     clear HgL
     refine hK.out _ _ (⟨Lvr.hi (r := r) hT0 20 14 _ rfl rfl, lt_of_heap hT0⟩) (fun hS => ?_)
     clear hK K
     try simp only [zA, zB, zC, zD, zE]
     clear hb
     refine wpAnyH_ready (rs := [5]) (by kernel_rfl) (by simp) ?_
     refine AllReadyH.cons rfl (fun K hK => ?_) AllReadyH.nil
     have b9 := lv_box hT0
     go_simp
     clear b9
     refine hK.out _ _ (⟨Lvr.hi (r := r) hT0 20 14 _ rfl rfl, lt_of_heap hT0⟩) (fun hS => ?_)
     clear hK K
     try simp only [zA, zB, zC, zD, zE]
     refine wpAnyH_ready (rs := [6]) (by kernel_rfl) (by simp) ?_
     refine AllReadyH.cons rfl (fun K hK => ?_) AllReadyH.nil
     go_simp
     rw [show r.list.v = .slice r.list.a Ls.length r.list.c from by rw [← Hln.out]]
     refine (cloneO_any r.list.a r.list.c Ls _ (by have := Hl8.out; omega) hC0).mono ?_
     rintro e' yC ⟨vC, rfl, hown, hb⟩
     go_simp
     have hown := own_base hown hB0.size
     replace hB0 := below_only hB0 hb
     have hT0 : Lvr yC g p s t i h fA fl.length fc r := row_below HT.out hB0
     replace hL := row_below hL hb
     refine hK.out _ _ (⟨Lvr.hi (r := r) hT0 20 14 _ rfl rfl, lt_of_heap hT0⟩) (fun hS => ?_)
     clear hK K
     try simp only [zA, zB, zC, zD, zE]
     clear hb hC0
     refine wpAnyH_ready (rs := [13]) (by kernel_rfl) (by simp) ?_
     refine AllReadyH.cons rfl (fun K hK => ?_) AllReadyH.nil
     refine step_append_any _ rfl (.tmp 38) (.tmp 44) _ rfl w2.heap.size 3 i0 _ 1 8 Tryz.underlying38 hi0 hz0 hz1 hz2 rfl (by omega) _ Ls.length (Ls.flatMap nCells) (by rfl) hown (some ⟨gL, 0, none⟩) 1 1 [.int .i64 r.at_] (by rfl) rfl (cells_of hL) (by simp [Value.oneCell']) (by have := Hl8.out; simp only [maxLen]; omega) (by have := Hl8.out; omega) hB0.size ?_
     intro v9 y9 hown9 hg9 hat9
     change K (Act.put _ (some 45) _) _
     obtain ⟨A9, c9, rfl, hc9, -, hcs9⟩ := own_slice hown9
     have hfar9 := Lib.hid (own_ge hown9)
     replace hB0 : Below w2.heap.size w2 y9 := hB0.grown hg9 hB0.size (own_ge hown)
     have hT0 : Lvr y9 g p s t i h fA fl.length fc r := row_below HT.out hB0
     refine hK.out _ _ (⟨Lvr.hi (r := r) hT0 20 14 _ rfl rfl, lt_of_heap hT0⟩) (fun hS => ?_)
     clear hK K
     try simp only [zA, zB, zC, zD, zE]
     have Hc9 := Lib.hid hc9
     have Hcs9 := Lib.hid hcs9
     clear hg9 hat9 hown hL hown9 hc9 hcs9
     refine tkD (i := 14) (v := ?v14x80q5) (some 46) rfl rfl (Or.inl ⟨by kernel_rfl, ?h14x80q5⟩) ?r14x80q5
     case h14x80q5 => (intro w' hSw; obtain ⟨c20, zg⟩ := hSw; go_simp; first | done | (with_reducible rfl))
     try simp only [zA, zB, zC, zD, zE]
     refine tkD (i := 15) (v := ?v15x81q5) (some 47) rfl rfl (Or.inl ⟨by kernel_rfl, ?h15x81q5⟩) ?r15x81q5
     case h15x81q5 => (intro w' hSw; obtain ⟨c20, zg⟩ := hSw; go_simp; first | done | (with_reducible rfl))
     try simp only [zA, zB, zC, zD, zE]
     refine tkD (i := 16) (v := ?v16x82q5) (some 48) rfl rfl (Or.inl ⟨by kernel_rfl, ?h16x82q5⟩) ?r16x82q5
     case h16x82q5 => (intro w' hSw; obtain ⟨c20, zg⟩ := hSw; go_simp; first | done | (with_reducible rfl))
     try simp only [zA, zB, zC, zD, zE]
     refine wpAnyH_ready (rs := [17]) (by kernel_rfl) (by simp) ?_
     refine AllReadyH.cons rfl (fun K hK => ?_) AllReadyH.nil
     refine step_store_one none rfl rfl 38 (.tmp 48) (.tmp 45) rfl g 22 (.slice A9 (Ls.length + 1) c9) rfl rfl _ _ hT0 (by rw [lvr_size]; decide) infoInts rfl ?_
     refine set_oneR (P := K _) y9 g 22 (.slice A9 (Ls.length + 1) c9) _ _ hT0 ?_
     intro yS hr hk
     rw [show Value.slice A9 (Ls.length + 1) c9 = (⟨A9, Ls.length + 1, c9⟩ : Sl).v from rfl, pre_set _ _ 22 16 _ rfl] at hr
     have hT2 : Lvr yS g p s t i h fA fl.length fc { r with list := ⟨A9, Ls.length + 1, c9⟩ } := hr
     refine hK.out _ _ (⟨Lvr.hi (r := { r with list := ⟨A9, Ls.length + 1, c9⟩ }) hT2 20 14 _ rfl rfl, lt_of_heap hT2⟩) (fun hS => ?_)
     clear hK K
     try simp only [zA, zB, zC, zD, zE]
     clear hr
     refine wpAnyH_done (by kernel_rfl) ?_ _
     have HLs : Hid (Cells yS A9 ((Ls ++ [r.at_]).flatMap nCells) ∧ ∀ z, A9 = some z → w2.heap.size ≤ z.block) := Lib.hid ⟨by
      rw [List.flatMap_append]
      exact Cells.kept Hcs9.out hk (fun a ha => by
       have h1 := hfar9.out a.block (by rw [ha]; rfl)
       have h2 := lt_of_heap HT.out
       simp; omega), fun z hz => hfar9.out z.block (by rw [hz]; rfl)⟩
     replace HHd := Lib.hid (hk.row (row_below HHd.out hB0) (by simpa using HgH.out.symm))
     replace HA := Lib.hid ((HA.out.below hB0).kept hk (by simpa using Hgp.out.2.symm) (by simpa using Hgp.out.1.symm))
     replace HK := Lib.hid ((HK.out.call hB0).trans (hk.sub (T := [g, b]) (fun i hi => by simp at hi; simp [hi])))
     replace HT := Lib.hid hT2
     clear hS hB0 hT0 hT2 hk Hcs9 hfar9
     go_wp2_with fail
     go_meet
     exact ⟨A9, c9, HT.out, HLs.out, HHd.out, HA.out, HK.out, Hc9.out⟩
  case rest =>
   obtain ⟨A9, c9, hT9, hL9, hH9, hA9, hK9, hc9⟩ := hcut
   obtain ⟨yS, hyS⟩ : ∃ x, x = wc := ⟨_, rfl⟩
   subst hyS
   have HLs := Lib.hid hL9
   replace HHd := Lib.hid hH9
   replace HA := Lib.hid hA9
   replace HK := Lib.hid hK9
   replace HT := Lib.hid hT9
   have Hc9 := Lib.hid hc9
   clear hT9 hL9 hH9 hA9 hK9 hc9 HLC
   go_wp2_with fail
   refine wp_region_held_drew (S := fun W => W.heap[gZ]? = some (.cells (hdCells sz sl (tN : Int) false sc ep) 148 (0, 0)) ∧ g < W.heap.size) (by kernel_rfl) (show yS.drew.heap[gZ]? = _ ∧ g < yS.drew.heap.size from ⟨HHd.out, lt_of_heap HT.out⟩) ?_
   intro hS
   have hB0 : Below yS.heap.size yS yS.drew := Below.drew (Below.refl _ _)
   have hT0 : Lvr yS.drew g p s t i h fA fl.length fc { r with list := (⟨A9, Ls.length + 1, c9⟩ : Sl) } := HT.out
   generalize yS.drew = y0 at hS hB0 hT0 ⊢
   refine tkD (i := 0) (v := ?v0x83q5q4) (some 49) rfl rfl (Or.inl ⟨by kernel_rfl, ?h0x83q5q4⟩) ?r0x83q5q4
   case h0x83q5q4 => (intro w' hSw; obtain ⟨sB, zg⟩ := hSw; obtain ⟨q0, q1, q2, q3, _⟩ := box6 sB; have zq := lt_of_heap sB; go_simp; first | done | (with_reducible rfl))
   try simp only [zA, zB, zC, zD, zE]
   refine tkD (i := 1) (v := ?v1x84q5q4) (some 50) rfl rfl (Or.inl ⟨by kernel_rfl, ?h1x84q5q4⟩) ?r1x84q5q4
   case h1x84q5q4 => (intro w' hSw; obtain ⟨sB, zg⟩ := hSw; obtain ⟨q0, q1, q2, q3, _⟩ := box6 sB; have zq := lt_of_heap sB; go_simp; first | done | (with_reducible rfl))
   try simp only [zA, zB, zC, zD, zE]
   refine tkD (i := 2) (v := ?v2x85q5q4) (some 51) rfl rfl (Or.inl ⟨by kernel_rfl, ?h2x85q5q4⟩) ?r2x85q5q4
   case h2x85q5q4 => (intro w' hSw; obtain ⟨sB, zg⟩ := hSw; obtain ⟨q0, q1, q2, q3, _⟩ := box6 sB; have zq := lt_of_heap sB; go_simp; first | done | (with_reducible rfl))
   try simp only [zA, zB, zC, zD, zE]
   refine tkD (i := 3) (v := ?v3x86q5q4) (some 52) rfl rfl (Or.inl ⟨by kernel_rfl, ?h3x86q5q4⟩) ?r3x86q5q4
   case h3x86q5q4 => (intro w' hSw; obtain ⟨sB, zg⟩ := hSw; obtain ⟨q0, q1, q2, q3, _⟩ := box6 sB; have zq := lt_of_heap sB; go_simp; first | done | (with_reducible rfl))
   try simp only [zA, zB, zC, zD, zE]
   refine tkD (i := 5) (v := ?v5x87q5q4) (some 54) rfl rfl (Or.inl ⟨by kernel_rfl, ?h5x87q5q4⟩) ?r5x87q5q4
   case h5x87q5q4 => (intro w' hSw; obtain ⟨sB, zg⟩ := hSw; obtain ⟨q0, q1, q2, q3, _⟩ := box6 sB; have zq := lt_of_heap sB; go_simp; first | done | (with_reducible rfl))
   try simp only [zA, zB, zC, zD, zE]
   refine tkD (i := 6) (v := ?v6x88q5q4) (some 55) rfl rfl (Or.inl ⟨by kernel_rfl, ?h6x88q5q4⟩) ?r6x88q5q4
   case h6x88q5q4 => (intro w' hSw; obtain ⟨sB, zg⟩ := hSw; obtain ⟨q0, q1, q2, q3, _⟩ := box6 sB; have zq := lt_of_heap sB; go_simp; first | done | (with_reducible rfl))
   try simp only [zA, zB, zC, zD, zE]
   refine tkD (i := 7) (v := ?v7x89q5q4) (some 56) rfl rfl (Or.inl ⟨by kernel_rfl, ?h7x89q5q4⟩) ?r7x89q5q4
   case h7x89q5q4 => (intro w' hSw; obtain ⟨sB, zg⟩ := hSw; obtain ⟨q0, q1, q2, q3, _⟩ := box6 sB; have zq := lt_of_heap sB; go_simp; first | done | (with_reducible rfl))
   try simp only [zA, zB, zC, zD, zE]
   refine wpAnyH_ready (rs := [4]) (by kernel_rfl) (by simp) ?_
   refine AllReadyH.cons rfl (fun K hK => ?_) AllReadyH.nil
   have b9 := lv_box hT0
   go_simp
   clear b9
   refine hK.out _ _ (hS) (fun hS => ?_)
   clear hK K
   try simp only [zA, zB, zC, zD, zE]
   refine tkD (i := 8) (v := ?v8x90q5q4) (some 57) rfl rfl (Or.inl ⟨by kernel_rfl, ?h8x90q5q4⟩) ?r8x90q5q4
   case h8x90q5q4 => (intro w' hSw; obtain ⟨sB, zg⟩ := hSw; obtain ⟨q0, q1, q2, q3, _⟩ := box6 sB; have zq := lt_of_heap sB; go_simp; first | done | (with_reducible rfl))
   try simp only [zA, zB, zC, zD, zE]
   refine tkD (i := 9) (v := ?v9x91q5q4) (some 58) rfl rfl (Or.inl ⟨by kernel_rfl, ?h9x91q5q4⟩) ?r9x91q5q4
   case h9x91q5q4 => (intro w' hSw; obtain ⟨sB, zg⟩ := hSw; obtain ⟨q0, q1, q2, q3, _⟩ := box6 sB; have zq := lt_of_heap sB; go_simp; first | done | (with_reducible rfl))
   try simp only [zA, zB, zC, zD, zE]
   refine tkD (i := 10) (v := ?v10x92q5q4) (some 59) rfl rfl (Or.inl ⟨by kernel_rfl, ?h10x92q5q4⟩) ?r10x92q5q4
   case h10x92q5q4 => (intro w' hSw; obtain ⟨sB, zg⟩ := hSw; obtain ⟨q0, q1, q2, q3, _⟩ := box6 sB; have zq := lt_of_heap sB; go_simp; first | done | (with_reducible rfl))
   try simp only [zA, zB, zC, zD, zE]
   refine tkD (i := 11) (v := ?v11x93q5q4) (some 60) rfl rfl (Or.inl ⟨by kernel_rfl, ?h11x93q5q4⟩) ?r11x93q5q4
   case h11x93q5q4 => (intro w' hSw; obtain ⟨sB, zg⟩ := hSw; obtain ⟨q0, q1, q2, q3, _⟩ := box6 sB; have zq := lt_of_heap sB; go_simp; first | done | (with_reducible rfl))
   try simp only [zA, zB, zC, zD, zE]
   refine wpAnyH_ready (rs := [12]) (by kernel_rfl) (by simp) ?_
   refine AllReadyH.cons rfl (fun K hK => ?_) AllReadyH.nil
   have b9 := lv_box hT0
   go_simp
   clear b9
   rw [show IntKind.i64.wrap (sz * 8) = sz * 8 from IntWalk.i64_in _ (by omega), show IntKind.i64.wrap (r.at_ + sz * 8) = r.at_ + sz * 8 from IntWalk.i64_in _ (by omega)]
   refine set_oneR (P := K _) y0 g 20 (.int .i64 (r.at_ + sz * 8)) _ _ hT0 ?_
   intro yT hr hk
   rw [pre_set _ _ 20 14 _ rfl] at hr
   have hT2 : Lvr yT g p s t i h fA fl.length fc { { r with list := (⟨A9, Ls.length + 1, c9⟩ : Sl) } with at_ := r.at_ + sz * 8 } := hr
   refine hK.out _ _ (⟨hk.row hS.1 (by simpa using HgH.out.symm), lt_of_heap hT2⟩) (fun hS => ?_)
   clear hK K
   try simp only [zA, zB, zC, zD, zE]
   clear hr
   refine wpAnyH_done (by kernel_rfl) ?_ _
   have hkk : Keep [g] yS yT := (keep_below hB0 [g]).trans hk
   replace HA := Lib.hid (HA.out.kept hkk (by simpa using Hgp.out.2.symm) (by simpa using Hgp.out.1.symm))
   replace HK := Lib.hid (HK.out.trans (hkk.sub (T := [g, b]) (fun i hi => by simp at hi; simp [hi])))
   replace HLs := Lib.hid (And.intro (Cells.kept HLs.out.1 hkk (fun a ha => by have h1 := HLs.out.2 a ha; have h2 := Hgw2.out; simp; omega)) HLs.out.2)
   replace HT := Lib.hid hT2
   clear hS hB0 hT0 hT2 hk hkk
   go_wp2_with fail
   refine leaves_cons (f := 127) (args := #[.pointer (some ⟨g, 0, none⟩)]) (by simp) (by simp [go_sem]) ?_
   refine (lvOnD_any g p s t i h fA fl.length fc { r with list := ⟨A9, Ls.length + 1, c9⟩, at_ := r.at_ + sz * 8 } .returning _ HT.out (by have := Hl8.out; show Ls.length + 1 ≤ 1048576; omega)).mono ?_
   rintro e u' w'' ⟨rfl, rfl, hT, hk9⟩
   have hlt := HLs.out
   have hz := Cells.kept hlt.1 hk9 (fun a ha => by have h1 := hlt.2 a ha; have h2 := Hgw2.out; simp; omega)
   exact ⟨_, results_none rfl _ _ _, rfl, ⟨A9, Ls.length + 1, c9⟩, hT, rfl, Hc9.out, by simpa using hz, fun z hz => Nat.le_trans Hw2.out (hlt.2 z hz), HA.out.kept hk9 (by simpa using Hgp.out.2.symm) (by simpa using Hgp.out.1.symm), HK.out.trans (hk9.sub (T := [g, b]) (fun i hi => by simp at hi; simp [hi]))⟩
 ·skip
  go_simp
  refine k_alloc (fun yZ hZ hb => ?_)
  have hgZ : w.heap.size ≤ y0.heap.size := hB0.size
  obtain ⟨gZ, HgZ⟩ : ∃ x, x = y0.heap.size := ⟨_, rfl⟩
  have hgg : g ≠ gZ := by have := lt_of_heap hS; omega
  replace hB0 := below_only hB0 hb
  replace hA0 := hA0.below hb
  rw [← HgZ] at hZ hgZ ⊢
  clear HgZ
  refine hK.out _ _ (row_below hS hb) (fun hS => ?_)
  clear hK K
  try simp only [zA, zB, zC, zD, zE]
  clear hb
  refine wpAnyH_ready (rs := [9]) (by kernel_rfl) (by simp) ?_
  refine AllReadyH.cons rfl (fun K hK => ?_) AllReadyH.nil
  go_simp
  refine (HAt _ hA0).out.mono ?_
  rintro e' yA ⟨rfl, hb⟩
  go_simp
  replace hB0 := below_only hB0 hb
  replace hA0 := hA0.below hb
  replace hZ := row_below hZ hb
  refine hK.out _ _ (row_below hS hb) (fun hS => ?_)
  clear hK K
  try simp only [zA, zB, zC, zD, zE]
  clear hb
  refine tkD (i := 10) (v := ?v10x47) (some 5) rfl rfl (Or.inl ⟨by kernel_rfl, ?h10x47⟩) ?r10x47
  case h10x47 => (intro w' hSw; have b9 := lv_box hSw; go_simp; first | done | (with_reducible rfl))
  try simp only [zA, zB, zC, zD, zE]
  refine tkD (i := 11) (v := ?v11x48) (some 16) rfl rfl (Or.inl ⟨by kernel_rfl, ?h11x48⟩) ?r11x48
  case h11x48 => (intro w' hSw; have b9 := lv_box hSw; go_simp; first | done | (with_reducible rfl))
  try simp only [zA, zB, zC, zD, zE]
  refine tkD (i := 12) (v := ?v12x49) (some 17) rfl rfl (Or.inl ⟨by kernel_rfl, ?h12x49⟩) ?r12x49
  case h12x49 => (intro w' hSw; have b9 := lv_box hSw; go_simp; first | done | (with_reducible rfl))
  try simp only [zA, zB, zC, zD, zE]
  refine wpAnyH_ready (rs := [14]) (by kernel_rfl) (by simp) ?_
  refine AllReadyH.cons rfl (fun K hK => ?_) AllReadyH.nil
  refine step_store_row none rfl rfl 148 (.tmp 2) (.tmp 16) rfl gZ (hdCells sz sl (tN : Int) false sc ep) rfl rfl 148 _ hZ infoHd rfl (hd_one _ _ _ _ _ _) ?_
  have hw : (yA.setRow gZ (hdCells sz sl (tN : Int) false sc ep)).heap[gZ]? = some (.cells (hdCells sz sl (tN : Int) false sc ep) 148 (0, 0)) := setRow_heap _ _ _ _ _ _ hZ
  have hbw : Below w.heap.size w (yA.setRow gZ (hdCells sz sl (tN : Int) false sc ep)) := below_setRow hB0 hgZ _
  refine hK.out _ _ ((setRow_other _ _ _ _ hgg).trans hS) (fun hS => ?_)
  clear hK K
  try simp only [zA, zB, zC, zD, zE]
  refine tkD (i := 15) (v := ?v15x50) (some 3) rfl rfl (Or.inl ⟨by kernel_rfl, ?h15x50⟩) ?r15x50
  case h15x50 => (intro w' hSw; have b9 := lv_box hSw; go_simp; first | done | (with_reducible rfl))
  try simp only [zA, zB, zC, zD, zE]
  refine wpAnyH_done (by kernel_rfl) ?_ _
  clear hS hA0 hB0 hZ
  have HgH : Hid (g ≠ gZ) := Lib.hid hgg
  clear hgg
  generalize yA.setRow gZ (hdCells sz sl (tN : Int) false sc ep) = w1 at hw hbw ⊢
  have HHd := Lib.hid hw
  have hb := hbw
  replace HF := Lib.hid (HF.out.below hb)
  replace HLC := Lib.hid (Cells.below HLC.out hb)
  clear hw hbw hgZ HAt
  replace HT := Lib.hid (row_below HT.out hb)
  replace HA := Lib.hid (HA.out.below hb)
  replace HK := Lib.hid (HK.out.call hb)
  clear hb
  go_wp2_with fail
  refine wp_region_held_drew (S := fun W => Lvr W g p s t i h fA fl.length fc r ∧ W.heap[gZ]? = some (.cells (hdCells sz sl (tN : Int) false sc ep) 148 (0, 0))) (by kernel_rfl) (show Lvr w1.drew g p s t i h fA fl.length fc r ∧ w1.drew.heap[gZ]? = _ from ⟨HT.out, HHd.out⟩) ?_
  intro hS
  have hF0 : FinsAt w1.drew fA fl := HF.out.below (Below.drew (Below.refl _ _))
  have hB1 : Below w1.heap.size w1 w1.drew := Below.drew (Below.refl _ _)
  generalize w1.drew = y0 at hS hF0 hB1 ⊢
  refine tkD (i := 0) (v := ?v0x51q6) (some 18) rfl rfl (Or.inl ⟨by kernel_rfl, ?h0x51q6⟩) ?r0x51q6
  case h0x51q6 => (intro w' hSw; obtain ⟨sA, sB⟩ := hSw; have b9 := lv_box sA; obtain ⟨q0, q1, q2, q3, _⟩ := box6 sB; have zq := lt_of_heap sB; go_simp; first | done | (with_reducible rfl))
  try simp only [zA, zB, zC, zD, zE]
  refine tkD (i := 1) (v := ?v1x52q6) (some 19) rfl rfl (Or.inl ⟨by kernel_rfl, ?h1x52q6⟩) ?r1x52q6
  case h1x52q6 => (intro w' hSw; obtain ⟨sA, sB⟩ := hSw; have b9 := lv_box sA; obtain ⟨q0, q1, q2, q3, _⟩ := box6 sB; have zq := lt_of_heap sB; go_simp; first | done | (with_reducible rfl))
  try simp only [zA, zB, zC, zD, zE]
  refine tkD (i := 2) (v := ?v2x53q6) (some 20) rfl rfl (Or.inl ⟨by kernel_rfl, ?h2x53q6⟩) ?r2x53q6
  case h2x53q6 => (intro w' hSw; obtain ⟨sA, sB⟩ := hSw; have b9 := lv_box sA; obtain ⟨q0, q1, q2, q3, _⟩ := box6 sB; have zq := lt_of_heap sB; go_simp; first | done | (with_reducible rfl))
  try simp only [zA, zB, zC, zD, zE]
  refine tkD (i := 3) (v := ?v3x54q6) (some 21) rfl rfl (Or.inl ⟨by kernel_rfl, ?h3x54q6⟩) ?r3x54q6
  case h3x54q6 => (intro w' hSw; obtain ⟨sA, sB⟩ := hSw; have b9 := lv_box sA; obtain ⟨q0, q1, q2, q3, _⟩ := box6 sB; have zq := lt_of_heap sB; go_simp; first | done | (with_reducible rfl))
  try simp only [zA, zB, zC, zD, zE]
  refine tkD (i := 4) (v := ?v4x55q6) (some 22) rfl rfl (Or.inl ⟨by kernel_rfl, ?h4x55q6⟩) ?r4x55q6
  case h4x55q6 => (intro w' hSw; obtain ⟨sA, sB⟩ := hSw; have b9 := lv_box sA; obtain ⟨q0, q1, q2, q3, _⟩ := box6 sB; have zq := lt_of_heap sB; go_simp; first | done | (with_reducible rfl))
  try simp only [zA, zB, zC, zD, zE]
  refine tkD (i := 5) (v := ?v5x56q6) (some 23) rfl rfl (Or.inl ⟨by kernel_rfl, ?h5x56q6⟩) ?r5x56q6
  case h5x56q6 => (intro w' hSw; obtain ⟨sA, sB⟩ := hSw; have b9 := lv_box sA; obtain ⟨q0, q1, q2, q3, _⟩ := box6 sB; have zq := lt_of_heap sB; go_simp; first | done | (with_reducible rfl))
  try simp only [zA, zB, zC, zD, zE]
  refine tkD (i := 6) (v := ?v6x57q6) (some 24) rfl rfl (Or.inl ⟨by kernel_rfl, ?h6x57q6⟩) ?r6x57q6
  case h6x57q6 => (intro w' hSw; obtain ⟨sA, sB⟩ := hSw; have b9 := lv_box sA; obtain ⟨q0, q1, q2, q3, _⟩ := box6 sB; have zq := lt_of_heap sB; go_simp; first | done | (with_reducible rfl))
  try simp only [zA, zB, zC, zD, zE]
  refine tkD (i := 7) (v := ?v7x58q6) (some 25) rfl rfl (Or.inl ⟨by kernel_rfl, ?h7x58q6⟩) ?r7x58q6
  case h7x58q6 => (intro w' hSw; obtain ⟨sA, sB⟩ := hSw; have b9 := lv_box sA; obtain ⟨q0, q1, q2, q3, _⟩ := box6 sB; have zq := lt_of_heap sB; go_simp; first | done | (with_reducible rfl))
  try simp only [zA, zB, zC, zD, zE]
  refine tkD (i := 8) (v := ?v8x59q6) (some 26) rfl rfl (Or.inl ⟨by kernel_rfl, ?h8x59q6⟩) ?r8x59q6
  case h8x59q6 => (intro w' hSw; obtain ⟨sA, sB⟩ := hSw; have b9 := lv_box sA; obtain ⟨q0, q1, q2, q3, _⟩ := box6 sB; have zq := lt_of_heap sB; go_simp; first | done | (with_reducible rfl))
  try simp only [zA, zB, zC, zD, zE]
  refine tkD (i := 9) (v := ?v9x60q6) (some 27) rfl rfl (Or.inl ⟨by kernel_rfl, ?h9x60q6⟩) ?r9x60q6
  case h9x60q6 => (intro w' hSw; obtain ⟨sA, sB⟩ := hSw; have b9 := lv_box sA; obtain ⟨q0, q1, q2, q3, _⟩ := box6 sB; have zq := lt_of_heap sB; go_simp; first | done | (with_reducible rfl))
  try simp only [zA, zB, zC, zD, zE]
  refine wpAnyH_ready (rs := [10]) (by kernel_rfl) (by simp) ?_
  refine AllReadyH.cons rfl (fun K hK => ?_) AllReadyH.nil
  go_simp
  refine (HOf _ hF0).out.mono ?_
  rintro e' y1 ⟨rfl, e2⟩
  rw [e2]
  clear e2 y1
  go_simp
  refine hK.out _ _ (hS) (fun hS => ?_)
  clear hK K
  try simp only [zA, zB, zC, zD, zE]
  refine tkD (i := 11) (v := ?v11x61q6) (some 29) rfl rfl (Or.inl ⟨by kernel_rfl, ?h11x61q6⟩) ?r11x61q6
  case h11x61q6 => (intro w' hSw; obtain ⟨sA, sB⟩ := hSw; have b9 := lv_box sA; obtain ⟨q0, q1, q2, q3, _⟩ := box6 sB; have zq := lt_of_heap sB; go_simp; first | done | (with_reducible rfl))
  try simp only [zA, zB, zC, zD, zE]
  refine tkD (i := 12) (v := ?v12x62q6) (some 30) rfl rfl (Or.inl ⟨by kernel_rfl, ?h12x62q6⟩) ?r12x62q6
  case h12x62q6 => (intro w' hSw; obtain ⟨sA, sB⟩ := hSw; have b9 := lv_box sA; obtain ⟨q0, q1, q2, q3, _⟩ := box6 sB; have zq := lt_of_heap sB; go_simp; first | done | (with_reducible rfl))
  try simp only [zA, zB, zC, zD, zE]
  refine tkD (i := 13) (v := ?v13x63q6) (some 31) rfl rfl (Or.inl ⟨by kernel_rfl, ?h13x63q6⟩) ?r13x63q6
  case h13x63q6 => (intro w' hSw; obtain ⟨sA, sB⟩ := hSw; have b9 := lv_box sA; obtain ⟨q0, q1, q2, q3, _⟩ := box6 sB; have zq := lt_of_heap sB; go_simp; first | done | (with_reducible rfl))
  try simp only [zA, zB, zC, zD, zE]
  refine wpAnyH_done (by kernel_rfl) ?_ _
  clear hS hF0
  obtain ⟨w2, hw2⟩ : ∃ x, x = y0 := ⟨_, rfl⟩
  rw [← hw2] at hB1 ⊢
  replace HHd := Lib.hid (row_below HHd.out hB1)
  replace HLC := Lib.hid (Cells.below HLC.out hB1)
  clear hw2 HOf HF
  replace HT := Lib.hid (row_below HT.out hB1)
  replace HA := Lib.hid (HA.out.below hB1)
  replace HK := Lib.hid (HK.out.call hB1)
  have Hw2 : Hid (w.heap.size ≤ w2.heap.size) := Lib.hid HK.out.size
  have Hgw2 : Hid (g < w2.heap.size) := Lib.hid (lt_of_heap HT.out)
  clear hB1
  obtain ⟨lo, Hlo⟩ : ∃ x, Hid ((finOf fl tN).l.length = x) := ⟨_, Lib.hid rfl⟩
  rw [Hlo.out] at HLO ⊢
  have lo0 : (0 : Int) ≤ (lo : Int) := by omega
  have hloI : (0 : Int) < (lo : Int) := by have := HLO.out; omega
  have hloB : decide ((0 : Int) < (lo : Int)) = true := decide_eq_true hloI
  have hloN : 0 < lo := by omega
  go_upto_region 3 with fail
  try simp only [Act.put]
  rw [show decide (0 < lo) = true from decide_eq_true hloN]
  go_cut [] from 32 to 48 (fun wx => ∃ (A9 : Option Addr) (c9 : Nat), Lvr wx g p s t i h fA fl.length fc { r with list := (⟨A9, Ls.length + 1, c9⟩ : Sl) } ∧ (Cells wx A9 ((Ls ++ [r.at_]).flatMap nCells) ∧ ∀ z, A9 = some z → w2.heap.size ≤ z.block) ∧ wx.heap[gZ]? = some (.cells (hdCells sz sl (tN : Int) false sc ep) 148 (0, 0)) ∧ Arn wx p b ws ∧ Keep [g, b] w wx ∧ Ls.length + 1 ≤ c9)
  case first =>
   as_aux_lemma =>
    refine wp_region_held_drew (S := fun W => W.cell? ⟨g, 20, none⟩ = some (.int .i64 r.at_) ∧ g < W.heap.size) (by kernel_rfl) (show w2.drew.cell? _ = _ ∧ g < w2.drew.heap.size from ⟨Lvr.hi (r := r) HT.out 20 14 _ rfl rfl, lt_of_heap HT.out⟩) ?_
    intro hS
    have hB0 : Below w2.heap.size w2 w2.drew := Below.drew (Below.refl _ _)
    have hT0 : Lvr w2.drew g p s t i h fA fl.length fc r := HT.out
    have hC0 : Cells w2.drew r.list.a (Ls.flatMap nCells) := Cells.below HLC.out hB0
    generalize w2.drew = y0 at hS hB0 hT0 hC0 ⊢
    refine tkD (i := 0) (v := ?v0x64q6) (some 32) rfl rfl (Or.inl ⟨by kernel_rfl, ?h0x64q6⟩) ?r0x64q6
    case h0x64q6 => (intro w' hSw; obtain ⟨c20, zg⟩ := hSw; go_simp; first | done | (with_reducible rfl))
    try simp only [zA, zB, zC, zD, zE]
    refine tkD (i := 1) (v := ?v1x65q6) (some 33) rfl rfl (Or.inl ⟨by kernel_rfl, ?h1x65q6⟩) ?r1x65q6
    case h1x65q6 => (intro w' hSw; obtain ⟨c20, zg⟩ := hSw; go_simp; first | done | (with_reducible rfl))
    try simp only [zA, zB, zC, zD, zE]
    refine tkD (i := 2) (v := ?v2x66q6) (some 34) rfl rfl (Or.inl ⟨by kernel_rfl, ?h2x66q6⟩) ?r2x66q6
    case h2x66q6 => (intro w' hSw; obtain ⟨c20, zg⟩ := hSw; go_simp; first | done | (with_reducible rfl))
    try simp only [zA, zB, zC, zD, zE]
    refine tkD (i := 3) (v := ?v3x67q6) (some 35) rfl rfl (Or.inl ⟨by kernel_rfl, ?h3x67q6⟩) ?r3x67q6
    case h3x67q6 => (intro w' hSw; obtain ⟨c20, zg⟩ := hSw; go_simp; first | done | (with_reducible rfl))
    try simp only [zA, zB, zC, zD, zE]
    refine tkD (i := 4) (v := ?v4x68q6) (some 36) rfl rfl (Or.inl ⟨by kernel_rfl, ?h4x68q6⟩) ?r4x68q6
    case h4x68q6 => (intro w' hSw; obtain ⟨c20, zg⟩ := hSw; go_simp; first | done | (with_reducible rfl))
    try simp only [zA, zB, zC, zD, zE]
    refine tkD (i := 7) (v := ?v7x69q6) (some 39) rfl rfl (Or.inl ⟨by kernel_rfl, ?h7x69q6⟩) ?r7x69q6
    case h7x69q6 => (intro w' hSw; obtain ⟨c20, zg⟩ := hSw; go_simp; first | done | (with_reducible rfl))
    try simp only [zA, zB, zC, zD, zE]
    refine tkD (i := 8) (v := ?v8x70q6) (some 40) rfl rfl (Or.inl ⟨by kernel_rfl, ?h8x70q6⟩) ?r8x70q6
    case h8x70q6 => (intro w' hSw; obtain ⟨c20, zg⟩ := hSw; go_simp; first | done | (with_reducible rfl))
    try simp only [zA, zB, zC, zD, zE]
    refine tkD (i := 9) (v := ?v9x71q6) (some 41) rfl rfl (Or.inl ⟨by kernel_rfl, ?h9x71q6⟩) ?r9x71q6
    case h9x71q6 => (intro w' hSw; obtain ⟨c20, zg⟩ := hSw; go_simp; first | done | (with_reducible rfl))
    try simp only [zA, zB, zC, zD, zE]
    refine tkD (i := 10) (v := ?v10x72q6) (some 42) rfl rfl (Or.inl ⟨by kernel_rfl, ?h10x72q6⟩) ?r10x72q6
    case h10x72q6 => (intro w' hSw; obtain ⟨c20, zg⟩ := hSw; go_simp; first | done | (with_reducible rfl))
    try simp only [zA, zB, zC, zD, zE]
    refine tkD (i := 11) (v := ?v11x73q6) (some 43) rfl rfl (Or.inl ⟨by kernel_rfl, ?h11x73q6⟩) ?r11x73q6
    case h11x73q6 => (intro w' hSw; obtain ⟨c20, zg⟩ := hSw; go_simp; first | done | (with_reducible rfl))
    try simp only [zA, zB, zC, zD, zE]
    refine wpAnyH_ready (rs := [5, 12]) (by kernel_rfl) (by simp) ?_
    refine AllReadyH.cons rfl (fun K hK => ?_) (AllReadyH.cons rfl (fun K hK => ?_) AllReadyH.nil)
    ·skip
     have b9 := lv_box hT0
     go_simp
     clear b9
     refine hK.out _ _ (⟨Lvr.hi (r := r) hT0 20 14 _ rfl rfl, lt_of_heap hT0⟩) (fun hS => ?_)
     clear hK K
     try simp only [zA, zB, zC, zD, zE]
     refine wpAnyH_ready (rs := [6, 12]) (by kernel_rfl) (by simp) ?_
     refine AllReadyH.cons rfl (fun K hK => ?_) (AllReadyH.cons rfl (fun K hK => ?_) AllReadyH.nil)
     ·skip
      go_simp
      rw [show r.list.v = .slice r.list.a Ls.length r.list.c from by rw [← Hln.out]]
      refine (cloneO_any r.list.a r.list.c Ls _ (by have := Hl8.out; omega) hC0).mono ?_
      rintro e' yC ⟨vC, rfl, hown, hb⟩
      go_simp
      have hown := own_base hown hB0.size
      replace hB0 := below_only hB0 hb
      have hT0 : Lvr yC g p s t i h fA fl.length fc r := row_below HT.out hB0
      refine hK.out _ _ (⟨Lvr.hi (r := r) hT0 20 14 _ rfl rfl, lt_of_heap hT0⟩) (fun hS => ?_)
      clear hK K
      try simp only [zA, zB, zC, zD, zE]
      clear hb hC0
      refine wpAnyH_ready (rs := [12]) (by kernel_rfl) (by simp) ?_
      refine AllReadyH.cons rfl (fun K hK => ?_) AllReadyH.nil
      go_simp
      refine k_alloc (fun yL hL hb => ?_)
      obtain ⟨gL, HgL⟩ : ∃ x, x = yC.heap.size := ⟨_, rfl⟩
      have hgL : w2.heap.size ≤ gL := by rw [HgL]; exact hB0.size
      replace hB0 := below_only hB0 hb
      have hT0 : Lvr yL g p s t i h fA fl.length fc r := row_below HT.out hB0
      replace hown := own_below hown hb
      rw [← HgL] at hL ⊢
      clear HgL
      refine hK.out _ _ (⟨Lvr.hi (r := r) hT0 20 14 _ rfl rfl, lt_of_heap hT0⟩) (fun hS => ?_)
      clear hK K
      try simp only [zA, zB, zC, zD, zE]
      clear hb
      refine wpAnyH_ready (rs := [13]) (by kernel_rfl) (by simp) ?_
      refine AllReadyH.cons rfl (fun K hK => ?_) AllReadyH.nil
      refine step_append_any _ rfl (.tmp 38) (.tmp 44) _ rfl w2.heap.size 3 i0 _ 1 8 Tryz.underlying38 hi0 hz0 hz1 hz2 rfl (by omega) _ Ls.length (Ls.flatMap nCells) (by rfl) hown (some ⟨gL, 0, none⟩) 1 1 [.int .i64 r.at_] (by rfl) rfl (cells_of hL) (by simp [Value.oneCell']) (by have := Hl8.out; simp only [maxLen]; omega) (by have := Hl8.out; omega) hB0.size ?_
      intro v9 y9 hown9 hg9 hat9
      change K (Act.put _ (some 45) _) _
      obtain ⟨A9, c9, rfl, hc9, -, hcs9⟩ := own_slice hown9
      have hfar9 := Lib.hid (own_ge hown9)
      replace hB0 : Below w2.heap.size w2 y9 := hB0.grown hg9 hB0.size (own_ge hown)
      have hT0 : Lvr y9 g p s t i h fA fl.length fc r := row_below HT.out hB0
      refine hK.out _ _ (⟨Lvr.hi (r := r) hT0 20 14 _ rfl rfl, lt_of_heap hT0⟩) (fun hS => ?_)
      clear hK K
      try simp only [zA, zB, zC, zD, zE]
      have Hc9 := Lib.hid hc9
      have Hcs9 := Lib.hid hcs9
      clear hg9 hat9 hown hL hown9 hc9 hcs9
      refine tkD (i := 14) (v := ?v14x74q6) (some 46) rfl rfl (Or.inl ⟨by kernel_rfl, ?h14x74q6⟩) ?r14x74q6
      case h14x74q6 => (intro w' hSw; obtain ⟨c20, zg⟩ := hSw; go_simp; first | done | (with_reducible rfl))
      try simp only [zA, zB, zC, zD, zE]
      refine tkD (i := 15) (v := ?v15x75q6) (some 47) rfl rfl (Or.inl ⟨by kernel_rfl, ?h15x75q6⟩) ?r15x75q6
      case h15x75q6 => (intro w' hSw; obtain ⟨c20, zg⟩ := hSw; go_simp; first | done | (with_reducible rfl))
      try simp only [zA, zB, zC, zD, zE]
      refine tkD (i := 16) (v := ?v16x76q6) (some 48) rfl rfl (Or.inl ⟨by kernel_rfl, ?h16x76q6⟩) ?r16x76q6
      case h16x76q6 => (intro w' hSw; obtain ⟨c20, zg⟩ := hSw; go_simp; first | done | (with_reducible rfl))
      try simp only [zA, zB, zC, zD, zE]
      refine wpAnyH_ready (rs := [17]) (by kernel_rfl) (by simp) ?_
      refine AllReadyH.cons rfl (fun K hK => ?_) AllReadyH.nil
      refine step_store_one none rfl rfl 38 (.tmp 48) (.tmp 45) rfl g 22 (.slice A9 (Ls.length + 1) c9) rfl rfl _ _ hT0 (by rw [lvr_size]; decide) infoInts rfl ?_
      refine set_oneR (P := K _) y9 g 22 (.slice A9 (Ls.length + 1) c9) _ _ hT0 ?_
      intro yS hr hk
      rw [show Value.slice A9 (Ls.length + 1) c9 = (⟨A9, Ls.length + 1, c9⟩ : Sl).v from rfl, pre_set _ _ 22 16 _ rfl] at hr
      have hT2 : Lvr yS g p s t i h fA fl.length fc { r with list := ⟨A9, Ls.length + 1, c9⟩ } := hr
      refine hK.out _ _ (⟨Lvr.hi (r := { r with list := ⟨A9, Ls.length + 1, c9⟩ }) hT2 20 14 _ rfl rfl, lt_of_heap hT2⟩) (fun hS => ?_)
      clear hK K
      try simp only [zA, zB, zC, zD, zE]
      clear hr
      refine wpAnyH_done (by kernel_rfl) ?_ _
      have HLs : Hid (Cells yS A9 ((Ls ++ [r.at_]).flatMap nCells) ∧ ∀ z, A9 = some z → w2.heap.size ≤ z.block) := Lib.hid ⟨by
       rw [List.flatMap_append]
       exact Cells.kept Hcs9.out hk (fun a ha => by
        have h1 := hfar9.out a.block (by rw [ha]; rfl)
        have h2 := lt_of_heap HT.out
        simp; omega), fun z hz => hfar9.out z.block (by rw [hz]; rfl)⟩
      replace HHd := Lib.hid (hk.row (row_below HHd.out hB0) (by simpa using HgH.out.symm))
      replace HA := Lib.hid ((HA.out.below hB0).kept hk (by simpa using Hgp.out.2.symm) (by simpa using Hgp.out.1.symm))
      replace HK := Lib.hid ((HK.out.call hB0).trans (hk.sub (T := [g, b]) (fun i hi => by simp at hi; simp [hi])))
      replace HT := Lib.hid hT2
      clear hS hB0 hT0 hT2 hk Hcs9 hfar9
      go_wp2_with fail
      go_meet
      exact ⟨A9, c9, HT.out, HLs.out, HHd.out, HA.out, HK.out, Hc9.out⟩
     ·skip
      go_simp
      refine k_alloc (fun yL hL hb => ?_)
      obtain ⟨gL, HgL⟩ : ∃ x, x = y0.heap.size := ⟨_, rfl⟩
      have hgL : w2.heap.size ≤ gL := by rw [HgL]; exact hB0.size
      replace hB0 := below_only hB0 hb
      have hT0 : Lvr yL g p s t i h fA fl.length fc r := row_below HT.out hB0
      replace hC0 := Cells.below hC0 hb
      rw [← HgL] at hL ⊢
      clear HgL
      refine hK.out _ _ (⟨Lvr.hi (r := r) hT0 20 14 _ rfl rfl, lt_of_heap hT0⟩) (fun hS => ?_)
      clear hK K
      try simp only [zA, zB, zC, zD, zE]
      clear hb
      refine wpAnyH_ready (rs := [6]) (by kernel_rfl) (by simp) ?_
      refine AllReadyH.cons rfl (fun K hK => ?_) AllReadyH.nil
      go_simp
      rw [show r.list.v = .slice r.list.a Ls.length r.list.c from by rw [← Hln.out]]
      refine (cloneO_any r.list.a r.list.c Ls _ (by have := Hl8.out; omega) hC0).mono ?_
      rintro e' yC ⟨vC, rfl, hown, hb⟩
      go_simp
      have hown := own_base hown hB0.size
      replace hB0 := below_only hB0 hb
      have hT0 : Lvr yC g p s t i h fA fl.length fc r := row_below HT.out hB0
      replace hL := row_below hL hb
      refine hK.out _ _ (⟨Lvr.hi (r := r) hT0 20 14 _ rfl rfl, lt_of_heap hT0⟩) (fun hS => ?_)
      clear hK K
      try simp only [zA, zB, zC, zD, zE]
      clear hb hC0
      refine wpAnyH_ready (rs := [13]) (by kernel_rfl) (by simp) ?_
      refine AllReadyH.cons rfl (fun K hK => ?_) AllReadyH.nil
      refine step_append_any _ rfl (.tmp 38) (.tmp 44) _ rfl w2.heap.size 3 i0 _ 1 8 Tryz.underlying38 hi0 hz0 hz1 hz2 rfl (by omega) _ Ls.length (Ls.flatMap nCells) (by rfl) hown (some ⟨gL, 0, none⟩) 1 1 [.int .i64 r.at_] (by rfl) rfl (cells_of hL) (by simp [Value.oneCell']) (by have := Hl8.out; simp only [maxLen]; omega) (by have := Hl8.out; omega) hB0.size ?_
      intro v9 y9 hown9 hg9 hat9
      change K (Act.put _ (some 45) _) _
      obtain ⟨A9, c9, rfl, hc9, -, hcs9⟩ := own_slice hown9
      have hfar9 := Lib.hid (own_ge hown9)
      replace hB0 : Below w2.heap.size w2 y9 := hB0.grown hg9 hB0.size (own_ge hown)
      have hT0 : Lvr y9 g p s t i h fA fl.length fc r := row_below HT.out hB0
      refine hK.out _ _ (⟨Lvr.hi (r := r) hT0 20 14 _ rfl rfl, lt_of_heap hT0⟩) (fun hS => ?_)
      clear hK K
      try simp only [zA, zB, zC, zD, zE]
      have Hc9 := Lib.hid hc9
      have Hcs9 := Lib.hid hcs9
      clear hg9 hat9 hown hL hown9 hc9 hcs9
      refine tkD (i := 14) (v := ?v14x77q6) (some 46) rfl rfl (Or.inl ⟨by kernel_rfl, ?h14x77q6⟩) ?r14x77q6
      case h14x77q6 => (intro w' hSw; obtain ⟨c20, zg⟩ := hSw; go_simp; first | done | (with_reducible rfl))
      try simp only [zA, zB, zC, zD, zE]
      refine tkD (i := 15) (v := ?v15x78q6) (some 47) rfl rfl (Or.inl ⟨by kernel_rfl, ?h15x78q6⟩) ?r15x78q6
      case h15x78q6 => (intro w' hSw; obtain ⟨c20, zg⟩ := hSw; go_simp; first | done | (with_reducible rfl))
      try simp only [zA, zB, zC, zD, zE]
      refine tkD (i := 16) (v := ?v16x79q6) (some 48) rfl rfl (Or.inl ⟨by kernel_rfl, ?h16x79q6⟩) ?r16x79q6
      case h16x79q6 => (intro w' hSw; obtain ⟨c20, zg⟩ := hSw; go_simp; first | done | (with_reducible rfl))
      try simp only [zA, zB, zC, zD, zE]
      refine wpAnyH_ready (rs := [17]) (by kernel_rfl) (by simp) ?_
      refine AllReadyH.cons rfl (fun K hK => ?_) AllReadyH.nil
      refine step_store_one none rfl rfl 38 (.tmp 48) (.tmp 45) rfl g 22 (.slice A9 (Ls.length + 1) c9) rfl rfl _ _ hT0 (by rw [lvr_size]; decide) infoInts rfl ?_
      refine set_oneR (P := K _) y9 g 22 (.slice A9 (Ls.length + 1) c9) _ _ hT0 ?_
      intro yS hr hk
      rw [show Value.slice A9 (Ls.length + 1) c9 = (⟨A9, Ls.length + 1, c9⟩ : Sl).v from rfl, pre_set _ _ 22 16 _ rfl] at hr
      have hT2 : Lvr yS g p s t i h fA fl.length fc { r with list := ⟨A9, Ls.length + 1, c9⟩ } := hr
      refine hK.out _ _ (⟨Lvr.hi (r := { r with list := ⟨A9, Ls.length + 1, c9⟩ }) hT2 20 14 _ rfl rfl, lt_of_heap hT2⟩) (fun hS => ?_)
      clear hK K
      try simp only [zA, zB, zC, zD, zE]
      clear hr
      refine wpAnyH_done (by kernel_rfl) ?_ _
      have HLs : Hid (Cells yS A9 ((Ls ++ [r.at_]).flatMap nCells) ∧ ∀ z, A9 = some z → w2.heap.size ≤ z.block) := Lib.hid ⟨by
       rw [List.flatMap_append]
       exact Cells.kept Hcs9.out hk (fun a ha => by
        have h1 := hfar9.out a.block (by rw [ha]; rfl)
        have h2 := lt_of_heap HT.out
        simp; omega), fun z hz => hfar9.out z.block (by rw [hz]; rfl)⟩
      replace HHd := Lib.hid (hk.row (row_below HHd.out hB0) (by simpa using HgH.out.symm))
      replace HA := Lib.hid ((HA.out.below hB0).kept hk (by simpa using Hgp.out.2.symm) (by simpa using Hgp.out.1.symm))
      replace HK := Lib.hid ((HK.out.call hB0).trans (hk.sub (T := [g, b]) (fun i hi => by simp at hi; simp [hi])))
      replace HT := Lib.hid hT2
      clear hS hB0 hT0 hT2 hk Hcs9 hfar9
      go_wp2_with fail
      go_meet
      exact ⟨A9, c9, HT.out, HLs.out, HHd.out, HA.out, HK.out, Hc9.out⟩
    ·skip
     go_simp
     refine k_alloc (fun yL hL hb => ?_)
     obtain ⟨gL, HgL⟩ : ∃ x, x = y0.heap.size := ⟨_, rfl⟩
     have hgL : w2.heap.size ≤ gL := by rw [HgL]; exact hB0.size
     replace hB0 := below_only hB0 hb
     have hT0 : Lvr yL g p s t i h fA fl.length fc r := row_below HT.out hB0
     replace hC0 := Cells.below hC0 hb
     rw [← HgL] at hL ⊢
     clear HgL
     refine hK.out _ _ (⟨Lvr.hi (r := r) hT0 20 14 _ rfl rfl, lt_of_heap hT0⟩) (fun hS => ?_)
     clear hK K
     try simp only [zA, zB, zC, zD, zE]
     clear hb
     refine wpAnyH_ready (rs := [5]) (by kernel_rfl) (by simp) ?_
     refine AllReadyH.cons rfl (fun K hK => ?_) AllReadyH.nil
     have b9 := lv_box hT0
     go_simp
     clear b9
     refine hK.out _ _ (⟨Lvr.hi (r := r) hT0 20 14 _ rfl rfl, lt_of_heap hT0⟩) (fun hS => ?_)
     clear hK K
     try simp only [zA, zB, zC, zD, zE]
     refine wpAnyH_ready (rs := [6]) (by kernel_rfl) (by simp) ?_
     refine AllReadyH.cons rfl (fun K hK => ?_) AllReadyH.nil
     go_simp
     rw [show r.list.v = .slice r.list.a Ls.length r.list.c from by rw [← Hln.out]]
     refine (cloneO_any r.list.a r.list.c Ls _ (by have := Hl8.out; omega) hC0).mono ?_
     rintro e' yC ⟨vC, rfl, hown, hb⟩
     go_simp
     have hown := own_base hown hB0.size
     replace hB0 := below_only hB0 hb
     have hT0 : Lvr yC g p s t i h fA fl.length fc r := row_below HT.out hB0
     replace hL := row_below hL hb
     refine hK.out _ _ (⟨Lvr.hi (r := r) hT0 20 14 _ rfl rfl, lt_of_heap hT0⟩) (fun hS => ?_)
     clear hK K
     try simp only [zA, zB, zC, zD, zE]
     clear hb hC0
     refine wpAnyH_ready (rs := [13]) (by kernel_rfl) (by simp) ?_
     refine AllReadyH.cons rfl (fun K hK => ?_) AllReadyH.nil
     refine step_append_any _ rfl (.tmp 38) (.tmp 44) _ rfl w2.heap.size 3 i0 _ 1 8 Tryz.underlying38 hi0 hz0 hz1 hz2 rfl (by omega) _ Ls.length (Ls.flatMap nCells) (by rfl) hown (some ⟨gL, 0, none⟩) 1 1 [.int .i64 r.at_] (by rfl) rfl (cells_of hL) (by simp [Value.oneCell']) (by have := Hl8.out; simp only [maxLen]; omega) (by have := Hl8.out; omega) hB0.size ?_
     intro v9 y9 hown9 hg9 hat9
     change K (Act.put _ (some 45) _) _
     obtain ⟨A9, c9, rfl, hc9, -, hcs9⟩ := own_slice hown9
     have hfar9 := Lib.hid (own_ge hown9)
     replace hB0 : Below w2.heap.size w2 y9 := hB0.grown hg9 hB0.size (own_ge hown)
     have hT0 : Lvr y9 g p s t i h fA fl.length fc r := row_below HT.out hB0
     refine hK.out _ _ (⟨Lvr.hi (r := r) hT0 20 14 _ rfl rfl, lt_of_heap hT0⟩) (fun hS => ?_)
     clear hK K
     try simp only [zA, zB, zC, zD, zE]
     have Hc9 := Lib.hid hc9
     have Hcs9 := Lib.hid hcs9
     clear hg9 hat9 hown hL hown9 hc9 hcs9
     refine tkD (i := 14) (v := ?v14x80q6) (some 46) rfl rfl (Or.inl ⟨by kernel_rfl, ?h14x80q6⟩) ?r14x80q6
     case h14x80q6 => (intro w' hSw; obtain ⟨c20, zg⟩ := hSw; go_simp; first | done | (with_reducible rfl))
     try simp only [zA, zB, zC, zD, zE]
     refine tkD (i := 15) (v := ?v15x81q6) (some 47) rfl rfl (Or.inl ⟨by kernel_rfl, ?h15x81q6⟩) ?r15x81q6
     case h15x81q6 => (intro w' hSw; obtain ⟨c20, zg⟩ := hSw; go_simp; first | done | (with_reducible rfl))
     try simp only [zA, zB, zC, zD, zE]
     refine tkD (i := 16) (v := ?v16x82q6) (some 48) rfl rfl (Or.inl ⟨by kernel_rfl, ?h16x82q6⟩) ?r16x82q6
     case h16x82q6 => (intro w' hSw; obtain ⟨c20, zg⟩ := hSw; go_simp; first | done | (with_reducible rfl))
     try simp only [zA, zB, zC, zD, zE]
     refine wpAnyH_ready (rs := [17]) (by kernel_rfl) (by simp) ?_
     refine AllReadyH.cons rfl (fun K hK => ?_) AllReadyH.nil
     refine step_store_one none rfl rfl 38 (.tmp 48) (.tmp 45) rfl g 22 (.slice A9 (Ls.length + 1) c9) rfl rfl _ _ hT0 (by rw [lvr_size]; decide) infoInts rfl ?_
     refine set_oneR (P := K _) y9 g 22 (.slice A9 (Ls.length + 1) c9) _ _ hT0 ?_
     intro yS hr hk
     rw [show Value.slice A9 (Ls.length + 1) c9 = (⟨A9, Ls.length + 1, c9⟩ : Sl).v from rfl, pre_set _ _ 22 16 _ rfl] at hr
     have hT2 : Lvr yS g p s t i h fA fl.length fc { r with list := ⟨A9, Ls.length + 1, c9⟩ } := hr
     refine hK.out _ _ (⟨Lvr.hi (r := { r with list := ⟨A9, Ls.length + 1, c9⟩ }) hT2 20 14 _ rfl rfl, lt_of_heap hT2⟩) (fun hS => ?_)
     clear hK K
     try simp only [zA, zB, zC, zD, zE]
     clear hr
     refine wpAnyH_done (by kernel_rfl) ?_ _
     have HLs : Hid (Cells yS A9 ((Ls ++ [r.at_]).flatMap nCells) ∧ ∀ z, A9 = some z → w2.heap.size ≤ z.block) := Lib.hid ⟨by
      rw [List.flatMap_append]
      exact Cells.kept Hcs9.out hk (fun a ha => by
       have h1 := hfar9.out a.block (by rw [ha]; rfl)
       have h2 := lt_of_heap HT.out
       simp; omega), fun z hz => hfar9.out z.block (by rw [hz]; rfl)⟩
     replace HHd := Lib.hid (hk.row (row_below HHd.out hB0) (by simpa using HgH.out.symm))
     replace HA := Lib.hid ((HA.out.below hB0).kept hk (by simpa using Hgp.out.2.symm) (by simpa using Hgp.out.1.symm))
     replace HK := Lib.hid ((HK.out.call hB0).trans (hk.sub (T := [g, b]) (fun i hi => by simp at hi; simp [hi])))
     replace HT := Lib.hid hT2
     clear hS hB0 hT0 hT2 hk Hcs9 hfar9
     go_wp2_with fail
     go_meet
     exact ⟨A9, c9, HT.out, HLs.out, HHd.out, HA.out, HK.out, Hc9.out⟩
  case rest =>
   obtain ⟨A9, c9, hT9, hL9, hH9, hA9, hK9, hc9⟩ := hcut
   obtain ⟨yS, hyS⟩ : ∃ x, x = wc := ⟨_, rfl⟩
   subst hyS
   have HLs := Lib.hid hL9
   replace HHd := Lib.hid hH9
   replace HA := Lib.hid hA9
   replace HK := Lib.hid hK9
   replace HT := Lib.hid hT9
   have Hc9 := Lib.hid hc9
   clear hT9 hL9 hH9 hA9 hK9 hc9 HLC
   go_wp2_with fail
   refine wp_region_held_drew (S := fun W => W.heap[gZ]? = some (.cells (hdCells sz sl (tN : Int) false sc ep) 148 (0, 0)) ∧ g < W.heap.size) (by kernel_rfl) (show yS.drew.heap[gZ]? = _ ∧ g < yS.drew.heap.size from ⟨HHd.out, lt_of_heap HT.out⟩) ?_
   intro hS
   have hB0 : Below yS.heap.size yS yS.drew := Below.drew (Below.refl _ _)
   have hT0 : Lvr yS.drew g p s t i h fA fl.length fc { r with list := (⟨A9, Ls.length + 1, c9⟩ : Sl) } := HT.out
   generalize yS.drew = y0 at hS hB0 hT0 ⊢
   refine tkD (i := 0) (v := ?v0x83q6q4) (some 49) rfl rfl (Or.inl ⟨by kernel_rfl, ?h0x83q6q4⟩) ?r0x83q6q4
   case h0x83q6q4 => (intro w' hSw; obtain ⟨sB, zg⟩ := hSw; obtain ⟨q0, q1, q2, q3, _⟩ := box6 sB; have zq := lt_of_heap sB; go_simp; first | done | (with_reducible rfl))
   try simp only [zA, zB, zC, zD, zE]
   refine tkD (i := 1) (v := ?v1x84q6q4) (some 50) rfl rfl (Or.inl ⟨by kernel_rfl, ?h1x84q6q4⟩) ?r1x84q6q4
   case h1x84q6q4 => (intro w' hSw; obtain ⟨sB, zg⟩ := hSw; obtain ⟨q0, q1, q2, q3, _⟩ := box6 sB; have zq := lt_of_heap sB; go_simp; first | done | (with_reducible rfl))
   try simp only [zA, zB, zC, zD, zE]
   refine tkD (i := 2) (v := ?v2x85q6q4) (some 51) rfl rfl (Or.inl ⟨by kernel_rfl, ?h2x85q6q4⟩) ?r2x85q6q4
   case h2x85q6q4 => (intro w' hSw; obtain ⟨sB, zg⟩ := hSw; obtain ⟨q0, q1, q2, q3, _⟩ := box6 sB; have zq := lt_of_heap sB; go_simp; first | done | (with_reducible rfl))
   try simp only [zA, zB, zC, zD, zE]
   refine tkD (i := 3) (v := ?v3x86q6q4) (some 52) rfl rfl (Or.inl ⟨by kernel_rfl, ?h3x86q6q4⟩) ?r3x86q6q4
   case h3x86q6q4 => (intro w' hSw; obtain ⟨sB, zg⟩ := hSw; obtain ⟨q0, q1, q2, q3, _⟩ := box6 sB; have zq := lt_of_heap sB; go_simp; first | done | (with_reducible rfl))
   try simp only [zA, zB, zC, zD, zE]
   refine tkD (i := 5) (v := ?v5x87q6q4) (some 54) rfl rfl (Or.inl ⟨by kernel_rfl, ?h5x87q6q4⟩) ?r5x87q6q4
   case h5x87q6q4 => (intro w' hSw; obtain ⟨sB, zg⟩ := hSw; obtain ⟨q0, q1, q2, q3, _⟩ := box6 sB; have zq := lt_of_heap sB; go_simp; first | done | (with_reducible rfl))
   try simp only [zA, zB, zC, zD, zE]
   refine tkD (i := 6) (v := ?v6x88q6q4) (some 55) rfl rfl (Or.inl ⟨by kernel_rfl, ?h6x88q6q4⟩) ?r6x88q6q4
   case h6x88q6q4 => (intro w' hSw; obtain ⟨sB, zg⟩ := hSw; obtain ⟨q0, q1, q2, q3, _⟩ := box6 sB; have zq := lt_of_heap sB; go_simp; first | done | (with_reducible rfl))
   try simp only [zA, zB, zC, zD, zE]
   refine tkD (i := 7) (v := ?v7x89q6q4) (some 56) rfl rfl (Or.inl ⟨by kernel_rfl, ?h7x89q6q4⟩) ?r7x89q6q4
   case h7x89q6q4 => (intro w' hSw; obtain ⟨sB, zg⟩ := hSw; obtain ⟨q0, q1, q2, q3, _⟩ := box6 sB; have zq := lt_of_heap sB; go_simp; first | done | (with_reducible rfl))
   try simp only [zA, zB, zC, zD, zE]
   refine wpAnyH_ready (rs := [4]) (by kernel_rfl) (by simp) ?_
   refine AllReadyH.cons rfl (fun K hK => ?_) AllReadyH.nil
   have b9 := lv_box hT0
   go_simp
   clear b9
   refine hK.out _ _ (hS) (fun hS => ?_)
   clear hK K
   try simp only [zA, zB, zC, zD, zE]
   refine tkD (i := 8) (v := ?v8x90q6q4) (some 57) rfl rfl (Or.inl ⟨by kernel_rfl, ?h8x90q6q4⟩) ?r8x90q6q4
   case h8x90q6q4 => (intro w' hSw; obtain ⟨sB, zg⟩ := hSw; obtain ⟨q0, q1, q2, q3, _⟩ := box6 sB; have zq := lt_of_heap sB; go_simp; first | done | (with_reducible rfl))
   try simp only [zA, zB, zC, zD, zE]
   refine tkD (i := 9) (v := ?v9x91q6q4) (some 58) rfl rfl (Or.inl ⟨by kernel_rfl, ?h9x91q6q4⟩) ?r9x91q6q4
   case h9x91q6q4 => (intro w' hSw; obtain ⟨sB, zg⟩ := hSw; obtain ⟨q0, q1, q2, q3, _⟩ := box6 sB; have zq := lt_of_heap sB; go_simp; first | done | (with_reducible rfl))
   try simp only [zA, zB, zC, zD, zE]
   refine tkD (i := 10) (v := ?v10x92q6q4) (some 59) rfl rfl (Or.inl ⟨by kernel_rfl, ?h10x92q6q4⟩) ?r10x92q6q4
   case h10x92q6q4 => (intro w' hSw; obtain ⟨sB, zg⟩ := hSw; obtain ⟨q0, q1, q2, q3, _⟩ := box6 sB; have zq := lt_of_heap sB; go_simp; first | done | (with_reducible rfl))
   try simp only [zA, zB, zC, zD, zE]
   refine tkD (i := 11) (v := ?v11x93q6q4) (some 60) rfl rfl (Or.inl ⟨by kernel_rfl, ?h11x93q6q4⟩) ?r11x93q6q4
   case h11x93q6q4 => (intro w' hSw; obtain ⟨sB, zg⟩ := hSw; obtain ⟨q0, q1, q2, q3, _⟩ := box6 sB; have zq := lt_of_heap sB; go_simp; first | done | (with_reducible rfl))
   try simp only [zA, zB, zC, zD, zE]
   refine wpAnyH_ready (rs := [12]) (by kernel_rfl) (by simp) ?_
   refine AllReadyH.cons rfl (fun K hK => ?_) AllReadyH.nil
   have b9 := lv_box hT0
   go_simp
   clear b9
   rw [show IntKind.i64.wrap (sz * 8) = sz * 8 from IntWalk.i64_in _ (by omega), show IntKind.i64.wrap (r.at_ + sz * 8) = r.at_ + sz * 8 from IntWalk.i64_in _ (by omega)]
   refine set_oneR (P := K _) y0 g 20 (.int .i64 (r.at_ + sz * 8)) _ _ hT0 ?_
   intro yT hr hk
   rw [pre_set _ _ 20 14 _ rfl] at hr
   have hT2 : Lvr yT g p s t i h fA fl.length fc { { r with list := (⟨A9, Ls.length + 1, c9⟩ : Sl) } with at_ := r.at_ + sz * 8 } := hr
   refine hK.out _ _ (⟨hk.row hS.1 (by simpa using HgH.out.symm), lt_of_heap hT2⟩) (fun hS => ?_)
   clear hK K
   try simp only [zA, zB, zC, zD, zE]
   clear hr
   refine wpAnyH_done (by kernel_rfl) ?_ _
   have hkk : Keep [g] yS yT := (keep_below hB0 [g]).trans hk
   replace HA := Lib.hid (HA.out.kept hkk (by simpa using Hgp.out.2.symm) (by simpa using Hgp.out.1.symm))
   replace HK := Lib.hid (HK.out.trans (hkk.sub (T := [g, b]) (fun i hi => by simp at hi; simp [hi])))
   replace HLs := Lib.hid (And.intro (Cells.kept HLs.out.1 hkk (fun a ha => by have h1 := HLs.out.2 a ha; have h2 := Hgw2.out; simp; omega)) HLs.out.2)
   replace HT := Lib.hid hT2
   clear hS hB0 hT0 hT2 hk hkk
   go_wp2_with fail
   refine leaves_cons (f := 127) (args := #[.pointer (some ⟨g, 0, none⟩)]) (by simp) (by simp [go_sem]) ?_
   refine (lvOnD_any g p s t i h fA fl.length fc { r with list := ⟨A9, Ls.length + 1, c9⟩, at_ := r.at_ + sz * 8 } .returning _ HT.out (by have := Hl8.out; show Ls.length + 1 ≤ 1048576; omega)).mono ?_
   rintro e u' w'' ⟨rfl, rfl, hT, hk9⟩
   have hlt := HLs.out
   have hz := Cells.kept hlt.1 hk9 (fun a ha => by have h1 := hlt.2 a ha; have h2 := Hgw2.out; simp; omega)
   exact ⟨_, results_none rfl _ _ _, rfl, ⟨A9, Ls.length + 1, c9⟩, hT, rfl, Hc9.out, by simpa using hz, fun z hz => Nat.le_trans Hw2.out (hlt.2 z hz), HA.out.kept hk9 (by simpa using Hgp.out.2.symm) (by simpa using Hgp.out.1.symm), HK.out.trans (hk9.sub (T := [g, b]) (fun i hi => by simp at hi; simp [hi]))⟩
end Go.Proofs.YtbijaloeilnjoaaGreat
