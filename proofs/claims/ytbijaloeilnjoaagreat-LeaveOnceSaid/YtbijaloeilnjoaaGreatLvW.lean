/- Layer 18: the walk of leaver's walk. (Printed by gen_lvw.py.) -/
import Derived.Test.YtbijaloeilnjoaaGreatLvH
namespace Go.Proofs.YtbijaloeilnjoaaGreat
open Go.RowKit
set_option linter.unusedVariables false
set_option linter.unusedSimpArgs false

theorem own_base {w : World} {b0 b1 : Nat} {e : TypeId} {size n : Nat} {v : Value} {xs : List Value} (h : w.ownsRow b1 e size v n xs) (hb : b0 ≤ b1) : w.ownsRow b0 e size v n xs :=
 ⟨h.1, h.2.imp id fun ⟨g, cap, cur, h1, h2, h3⟩ => ⟨g, cap, cur, h1, Nat.le_trans hb h2, h3⟩⟩
set_option maxRecDepth 100000 in
set_option maxHeartbeats 16000000 in
theorem lvWalkDn_any (g p : Nat) (s t i h : Int) (fA : Option Addr) (fn fc : Nat) (b : Nat) (ws : List Int) (k : Nat) (sz sl tg : Int) (tN : Nat) (dn : Bool) (sc ep : Int) (fl : List FSl) (Ls : List Int) (HH : HeadOk sz sl tg sc ep) (htN : tg = (tN : Int)) (r : Rn) (w : World) (H : PlanOk s t i h) (hT : Lvr w g p s t i h fA fn fc r) (hA : Arn w p b ws) (hgb : g ≠ b) (hgp : g ≠ p) (h1 : ws[k]? = some (head1d sz sl tg dn)) (h2 : ws[k + 1]? = some (head2 sc ep)) (ha : r.at_ = 8 * (k : Int)) (hk8 : k ≤ 8192) (hfn : fn = fl.length) (hf8 : fl.length ≤ 8) (hF : FinsAt w fA fl) (hln : r.list.n = Ls.length) (hl8 : Ls.length ≤ 64) (hlc : Cells w r.list.a (Ls.flatMap nCells)) (hgw : g < w.heap.size) (hdn : dn = true) :
  Calls Tryz.prog 90 #[.pointer (some ⟨g, 0, none⟩)] w fun e w' => e = .returned (.tuple #[]) ∧ Lvr w' g p s t i h fA fn fc { r with at_ := r.at_ + sz * 8, pc := onP { r with at_ := r.at_ + sz * 8 } } ∧ Arn w' p b ws ∧ Keep [g, b] w w' := by
 subst hdn
 subst hfn
 subst htN
 have HP0 := Lib.hid H
 have HT := Lib.hid hT
 have HA := Lib.hid hA
 have Hgb := Lib.hid hgb
 have Hgp : Hid (g ≠ b ∧ g ≠ p) := Lib.hid ⟨hgb, hgp⟩
 have HK : Hid (Keep [g, b] w w) := Lib.hid (Keep.refl _ _)
 have HAt := fun w' (hq : Arn w' p b ws) => Lib.hid (thingAtD_any p b ws k r.at_ sz sl (tN : Int) true sc ep w' hq HH h1 h2 ha)
 have HOf := fun w' (hq : FinsAt w' fA fl) => Lib.hid (finOf_any fA fc fl tN w' hq hf8 (by have := HH.htg; omega))
 have HF := Lib.hid hF
 have Hln := Lib.hid hln
 have Hl8 := Lib.hid hl8
 have HLC := Lib.hid hlc
 have Hgw := Lib.hid hgw
 have a0 : 0 ≤ r.at_ := by omega
 have a1 : r.at_ ≤ 65536 := by omega
 have sz0 : 0 ≤ sz := by have := HH.hsz; have := HH.hsl; omega
 have sz1 : sz ≤ 72 := HH.hsz.2
 clear h1 h2 ha hk8 hf8 hF hln hl8 hlc hgw HH
 clear H hT hA hgb hgp
 go_enter_defers Tryz.func90, Tryz.ntmps90
 skip
 go_wp2_with fail
 refine wp_region_held_drew (S := fun W => Lvr W g p s t i h fA fl.length fc r) (by kernel_rfl) (show Lvr w.drew g p s t i h fA fl.length fc r from HT.out) ?_
 intro hS
 have hA0 : Arn w.drew p b ws := HA.out.drew
 have hB0 : Below w.heap.size w w.drew := Below.drew (Below.refl _ _)
 generalize w.drew = y0 at hS hA0 hB0 ⊢
 refine tkD (i := 0) (v := ?v0x34) (some 6) rfl rfl (Or.inl ⟨by kernel_rfl, ?h0x34⟩) ?r0x34
 case h0x34 => (intro w' hSw; have b9 := lv_box hSw; go_simp; first | done | (with_reducible rfl))
 try simp only [zA, zB, zC, zD, zE]
 refine tkD (i := 1) (v := ?v1x35) (some 7) rfl rfl (Or.inl ⟨by kernel_rfl, ?h1x35⟩) ?r1x35
 case h1x35 => (intro w' hSw; have b9 := lv_box hSw; go_simp; first | done | (with_reducible rfl))
 try simp only [zA, zB, zC, zD, zE]
 refine tkD (i := 2) (v := ?v2x36) (some 8) rfl rfl (Or.inl ⟨by kernel_rfl, ?h2x36⟩) ?r2x36
 case h2x36 => (intro w' hSw; have b9 := lv_box hSw; go_simp; first | done | (with_reducible rfl))
 try simp only [zA, zB, zC, zD, zE]
 refine tkD (i := 3) (v := ?v3x37) (some 9) rfl rfl (Or.inl ⟨by kernel_rfl, ?h3x37⟩) ?r3x37
 case h3x37 => (intro w' hSw; have b9 := lv_box hSw; go_simp; first | done | (with_reducible rfl))
 try simp only [zA, zB, zC, zD, zE]
 refine tkD (i := 4) (v := ?v4x38) (some 10) rfl rfl (Or.inl ⟨by kernel_rfl, ?h4x38⟩) ?r4x38
 case h4x38 => (intro w' hSw; have b9 := lv_box hSw; go_simp; first | done | (with_reducible rfl))
 try simp only [zA, zB, zC, zD, zE]
 refine tkD (i := 5) (v := ?v5x39) (some 11) rfl rfl (Or.inl ⟨by kernel_rfl, ?h5x39⟩) ?r5x39
 case h5x39 => (intro w' hSw; have b9 := lv_box hSw; go_simp; first | done | (with_reducible rfl))
 try simp only [zA, zB, zC, zD, zE]
 refine tkD (i := 6) (v := ?v6x40) (some 12) rfl rfl (Or.inl ⟨by kernel_rfl, ?h6x40⟩) ?r6x40
 case h6x40 => (intro w' hSw; have b9 := lv_box hSw; go_simp; first | done | (with_reducible rfl))
 try simp only [zA, zB, zC, zD, zE]
 refine tkD (i := 7) (v := ?v7x41) (some 13) rfl rfl (Or.inl ⟨by kernel_rfl, ?h7x41⟩) ?r7x41
 case h7x41 => (intro w' hSw; have b9 := lv_box hSw; go_simp; first | done | (with_reducible rfl))
 try simp only [zA, zB, zC, zD, zE]
 refine tkD (i := 8) (v := ?v8x42) (some 14) rfl rfl (Or.inl ⟨by kernel_rfl, ?h8x42⟩) ?r8x42
 case h8x42 => (intro w' hSw; have b9 := lv_box hSw; go_simp; first | done | (with_reducible rfl))
 try simp only [zA, zB, zC, zD, zE]
 refine wpAnyH_ready (rs := [9, 13]) (by kernel_rfl) (by simp) ?_
 refine AllReadyH.cons rfl (fun K hK => ?_) (AllReadyH.cons rfl (fun K hK => ?_) AllReadyH.nil)
 ·skip
  go_simp
  refine (HAt _ hA0).out.mono ?_
  rintro e' yA ⟨rfl, hb⟩
  go_simp
  replace hB0 := below_only hB0 hb
  replace hA0 := hA0.below hb
  refine hK.out _ _ (row_below hS hb) (fun hS => ?_)
  clear hK K
  try simp only [zA, zB, zC, zD, zE]
  clear hb
  refine tkD (i := 10) (v := ?v10x43) (some 5) rfl rfl (Or.inl ⟨by kernel_rfl, ?h10x43⟩) ?r10x43
  case h10x43 => (intro w' hSw; have b9 := lv_box hSw; go_simp; first | done | (with_reducible rfl))
  try simp only [zA, zB, zC, zD, zE]
  refine tkD (i := 11) (v := ?v11x44) (some 16) rfl rfl (Or.inl ⟨by kernel_rfl, ?h11x44⟩) ?r11x44
  case h11x44 => (intro w' hSw; have b9 := lv_box hSw; go_simp; first | done | (with_reducible rfl))
  try simp only [zA, zB, zC, zD, zE]
  refine tkD (i := 12) (v := ?v12x45) (some 17) rfl rfl (Or.inl ⟨by kernel_rfl, ?h12x45⟩) ?r12x45
  case h12x45 => (intro w' hSw; have b9 := lv_box hSw; go_simp; first | done | (with_reducible rfl))
  try simp only [zA, zB, zC, zD, zE]
  refine wpAnyH_ready (rs := [13]) (by kernel_rfl) (by simp) ?_
  refine AllReadyH.cons rfl (fun K hK => ?_) AllReadyH.nil
  go_simp
  refine k_alloc (fun yZ hZ hb => ?_)
  have hgZ : w.heap.size ≤ yA.heap.size := hB0.size
  obtain ⟨gZ, HgZ⟩ : ∃ x, x = yA.heap.size := ⟨_, rfl⟩
  have hgg : g ≠ gZ := by have := lt_of_heap hS; omega
  replace hB0 := below_only hB0 hb
  replace hA0 := hA0.below hb
  rw [← HgZ] at hZ hgZ ⊢
  clear HgZ
  refine hK.out _ _ (row_below hS hb) (fun hS => ?_)
  clear hK K
  try simp only [zA, zB, zC, zD, zE]
  clear hb
  refine wpAnyH_ready (rs := [14]) (by kernel_rfl) (by simp) ?_
  refine AllReadyH.cons rfl (fun K hK => ?_) AllReadyH.nil
  refine step_store_row none rfl rfl 148 (.tmp 2) (.tmp 16) rfl gZ (hdCells sz sl (tN : Int) true sc ep) rfl rfl 148 _ hZ infoHd rfl (hd_one _ _ _ _ _ _) ?_
  have hw : (yZ.setRow gZ (hdCells sz sl (tN : Int) true sc ep)).heap[gZ]? = some (.cells (hdCells sz sl (tN : Int) true sc ep) 148 (0, 0)) := setRow_heap _ _ _ _ _ _ hZ
  have hbw : Below w.heap.size w (yZ.setRow gZ (hdCells sz sl (tN : Int) true sc ep)) := below_setRow hB0 hgZ _
  refine hK.out _ _ ((setRow_other _ _ _ _ hgg).trans hS) (fun hS => ?_)
  clear hK K
  try simp only [zA, zB, zC, zD, zE]
  refine tkD (i := 15) (v := ?v15x46) (some 3) rfl rfl (Or.inl ⟨by kernel_rfl, ?h15x46⟩) ?r15x46
  case h15x46 => (intro w' hSw; have b9 := lv_box hSw; go_simp; first | done | (with_reducible rfl))
  try simp only [zA, zB, zC, zD, zE]
  refine wpAnyH_done (by kernel_rfl) ?_ _
  clear hS hA0 hB0 hZ
  have HgH : Hid (g ≠ gZ) := Lib.hid hgg
  clear hgg
  generalize yZ.setRow gZ (hdCells sz sl (tN : Int) true sc ep) = w1 at hw hbw ⊢
  have HHd := Lib.hid hw
  have hb := hbw
  replace HF := Lib.hid (HF.out.below hb)
  replace HLC := Lib.hid (Cells.below HLC.out hb)
  clear hw hbw hgZ HAt
  replace HT := Lib.hid (row_below HT.out hb)
  replace HA := Lib.hid (HA.out.below hb)
  replace HK := Lib.hid (HK.out.call hb)
  clear hb
  go_wp2_with fail
  refine wp_region_held_drew (S := fun W => Lvr W g p s t i h fA fl.length fc r ∧ W.heap[gZ]? = some (.cells (hdCells sz sl (tN : Int) true sc ep) 148 (0, 0))) (by kernel_rfl) (show Lvr w1.drew g p s t i h fA fl.length fc r ∧ w1.drew.heap[gZ]? = _ from ⟨HT.out, HHd.out⟩) ?_
  intro hS
  have hF0 : FinsAt w1.drew fA fl := HF.out.below (Below.drew (Below.refl _ _))
  have hB1 : Below w1.heap.size w1 w1.drew := Below.drew (Below.refl _ _)
  generalize w1.drew = y0 at hS hF0 hB1 ⊢
  refine tkD (i := 0) (v := ?v0x51q1) (some 18) rfl rfl (Or.inl ⟨by kernel_rfl, ?h0x51q1⟩) ?r0x51q1
  case h0x51q1 => (intro w' hSw; obtain ⟨sA, sB⟩ := hSw; have b9 := lv_box sA; obtain ⟨q0, q1, q2, q3, _⟩ := box6 sB; have zq := lt_of_heap sB; go_simp; first | done | (with_reducible rfl))
  try simp only [zA, zB, zC, zD, zE]
  refine tkD (i := 1) (v := ?v1x52q1) (some 19) rfl rfl (Or.inl ⟨by kernel_rfl, ?h1x52q1⟩) ?r1x52q1
  case h1x52q1 => (intro w' hSw; obtain ⟨sA, sB⟩ := hSw; have b9 := lv_box sA; obtain ⟨q0, q1, q2, q3, _⟩ := box6 sB; have zq := lt_of_heap sB; go_simp; first | done | (with_reducible rfl))
  try simp only [zA, zB, zC, zD, zE]
  refine tkD (i := 2) (v := ?v2x53q1) (some 20) rfl rfl (Or.inl ⟨by kernel_rfl, ?h2x53q1⟩) ?r2x53q1
  case h2x53q1 => (intro w' hSw; obtain ⟨sA, sB⟩ := hSw; have b9 := lv_box sA; obtain ⟨q0, q1, q2, q3, _⟩ := box6 sB; have zq := lt_of_heap sB; go_simp; first | done | (with_reducible rfl))
  try simp only [zA, zB, zC, zD, zE]
  refine tkD (i := 3) (v := ?v3x54q1) (some 21) rfl rfl (Or.inl ⟨by kernel_rfl, ?h3x54q1⟩) ?r3x54q1
  case h3x54q1 => (intro w' hSw; obtain ⟨sA, sB⟩ := hSw; have b9 := lv_box sA; obtain ⟨q0, q1, q2, q3, _⟩ := box6 sB; have zq := lt_of_heap sB; go_simp; first | done | (with_reducible rfl))
  try simp only [zA, zB, zC, zD, zE]
  refine tkD (i := 4) (v := undef) (some 22) rfl rfl (Or.inr ⟨by kernel_rfl, rfl⟩) ?_
  try simp only [zA, zB, zC, zD, zE]
  refine tkD (i := 5) (v := undef) (some 23) rfl rfl (Or.inr ⟨by kernel_rfl, rfl⟩) ?_
  try simp only [zA, zB, zC, zD, zE]
  refine tkD (i := 6) (v := undef) (some 24) rfl rfl (Or.inr ⟨by kernel_rfl, rfl⟩) ?_
  try simp only [zA, zB, zC, zD, zE]
  refine tkD (i := 7) (v := undef) (some 25) rfl rfl (Or.inr ⟨by kernel_rfl, rfl⟩) ?_
  try simp only [zA, zB, zC, zD, zE]
  refine tkD (i := 8) (v := undef) (some 26) rfl rfl (Or.inr ⟨by kernel_rfl, rfl⟩) ?_
  try simp only [zA, zB, zC, zD, zE]
  refine tkD (i := 9) (v := undef) (some 27) rfl rfl (Or.inr ⟨by kernel_rfl, rfl⟩) ?_
  try simp only [zA, zB, zC, zD, zE]
  refine tkD (i := 10) (v := undef) (some 28) rfl rfl (Or.inr ⟨by kernel_rfl, rfl⟩) ?_
  try simp only [zA, zB, zC, zD, zE]
  refine tkD (i := 11) (v := undef) (some 29) rfl rfl (Or.inr ⟨by kernel_rfl, rfl⟩) ?_
  try simp only [zA, zB, zC, zD, zE]
  refine tkD (i := 12) (v := undef) (some 30) rfl rfl (Or.inr ⟨by kernel_rfl, rfl⟩) ?_
  try simp only [zA, zB, zC, zD, zE]
  refine tkD (i := 13) (v := ?v13x55q1) (some 31) rfl rfl (Or.inl ⟨by kernel_rfl, ?h13x55q1⟩) ?r13x55q1
  case h13x55q1 => (intro w' hSw; obtain ⟨sA, sB⟩ := hSw; have b9 := lv_box sA; obtain ⟨q0, q1, q2, q3, _⟩ := box6 sB; have zq := lt_of_heap sB; go_simp; first | done | (with_reducible rfl))
  try simp only [zA, zB, zC, zD, zE]
  refine wpAnyH_done (by kernel_rfl) ?_ _
  clear hS hF0
  obtain ⟨w2, hw2⟩ : ∃ x, x = y0 := ⟨_, rfl⟩
  rw [← hw2] at hB1 ⊢
  replace HHd := Lib.hid (row_below HHd.out hB1)
  replace HLC := Lib.hid (Cells.below HLC.out hB1)
  clear hw2 HOf HF
  replace HT := Lib.hid (row_below HT.out hB1)
  replace HA := Lib.hid (HA.out.below hB1)
  replace HK := Lib.hid (HK.out.call hB1)
  have Hw2 : Hid (w.heap.size ≤ w2.heap.size) := Lib.hid HK.out.size
  have Hgw2 : Hid (g < w2.heap.size) := Lib.hid (lt_of_heap HT.out)
  clear hB1
  go_wp2_with fail
  refine wp_region_held_drew (S := fun W => W.heap[gZ]? = some (.cells (hdCells sz sl (tN : Int) true sc ep) 148 (0, 0)) ∧ g < W.heap.size) (by kernel_rfl) (show w2.drew.heap[gZ]? = _ ∧ g < w2.drew.heap.size from ⟨HHd.out, lt_of_heap HT.out⟩) ?_
  intro hS
  have hB0 : Below w2.heap.size w2 w2.drew := Below.drew (Below.refl _ _)
  have hT0 : Lvr w2.drew g p s t i h fA fl.length fc r := HT.out
  generalize w2.drew = y0 at hS hB0 hT0 ⊢
  refine tkD (i := 0) (v := ?v0x56q1) (some 49) rfl rfl (Or.inl ⟨by kernel_rfl, ?h0x56q1⟩) ?r0x56q1
  case h0x56q1 => (intro w' hSw; obtain ⟨sB, zg⟩ := hSw; obtain ⟨q0, q1, q2, q3, _⟩ := box6 sB; have zq := lt_of_heap sB; go_simp; first | done | (with_reducible rfl))
  try simp only [zA, zB, zC, zD, zE]
  refine tkD (i := 1) (v := ?v1x57q1) (some 50) rfl rfl (Or.inl ⟨by kernel_rfl, ?h1x57q1⟩) ?r1x57q1
  case h1x57q1 => (intro w' hSw; obtain ⟨sB, zg⟩ := hSw; obtain ⟨q0, q1, q2, q3, _⟩ := box6 sB; have zq := lt_of_heap sB; go_simp; first | done | (with_reducible rfl))
  try simp only [zA, zB, zC, zD, zE]
  refine tkD (i := 2) (v := ?v2x58q1) (some 51) rfl rfl (Or.inl ⟨by kernel_rfl, ?h2x58q1⟩) ?r2x58q1
  case h2x58q1 => (intro w' hSw; obtain ⟨sB, zg⟩ := hSw; obtain ⟨q0, q1, q2, q3, _⟩ := box6 sB; have zq := lt_of_heap sB; go_simp; first | done | (with_reducible rfl))
  try simp only [zA, zB, zC, zD, zE]
  refine tkD (i := 3) (v := ?v3x59q1) (some 52) rfl rfl (Or.inl ⟨by kernel_rfl, ?h3x59q1⟩) ?r3x59q1
  case h3x59q1 => (intro w' hSw; obtain ⟨sB, zg⟩ := hSw; obtain ⟨q0, q1, q2, q3, _⟩ := box6 sB; have zq := lt_of_heap sB; go_simp; first | done | (with_reducible rfl))
  try simp only [zA, zB, zC, zD, zE]
  refine tkD (i := 5) (v := ?v5x60q1) (some 54) rfl rfl (Or.inl ⟨by kernel_rfl, ?h5x60q1⟩) ?r5x60q1
  case h5x60q1 => (intro w' hSw; obtain ⟨sB, zg⟩ := hSw; obtain ⟨q0, q1, q2, q3, _⟩ := box6 sB; have zq := lt_of_heap sB; go_simp; first | done | (with_reducible rfl))
  try simp only [zA, zB, zC, zD, zE]
  refine tkD (i := 6) (v := ?v6x61q1) (some 55) rfl rfl (Or.inl ⟨by kernel_rfl, ?h6x61q1⟩) ?r6x61q1
  case h6x61q1 => (intro w' hSw; obtain ⟨sB, zg⟩ := hSw; obtain ⟨q0, q1, q2, q3, _⟩ := box6 sB; have zq := lt_of_heap sB; go_simp; first | done | (with_reducible rfl))
  try simp only [zA, zB, zC, zD, zE]
  refine tkD (i := 7) (v := ?v7x62q1) (some 56) rfl rfl (Or.inl ⟨by kernel_rfl, ?h7x62q1⟩) ?r7x62q1
  case h7x62q1 => (intro w' hSw; obtain ⟨sB, zg⟩ := hSw; obtain ⟨q0, q1, q2, q3, _⟩ := box6 sB; have zq := lt_of_heap sB; go_simp; first | done | (with_reducible rfl))
  try simp only [zA, zB, zC, zD, zE]
  refine wpAnyH_ready (rs := [4]) (by kernel_rfl) (by simp) ?_
  refine AllReadyH.cons rfl (fun K hK => ?_) AllReadyH.nil
  have b9 := lv_box hT0
  go_simp
  clear b9
  refine hK.out _ _ (hS) (fun hS => ?_)
  clear hK K
  try simp only [zA, zB, zC, zD, zE]
  refine tkD (i := 8) (v := ?v8x63q1) (some 57) rfl rfl (Or.inl ⟨by kernel_rfl, ?h8x63q1⟩) ?r8x63q1
  case h8x63q1 => (intro w' hSw; obtain ⟨sB, zg⟩ := hSw; obtain ⟨q0, q1, q2, q3, _⟩ := box6 sB; have zq := lt_of_heap sB; go_simp; first | done | (with_reducible rfl))
  try simp only [zA, zB, zC, zD, zE]
  refine tkD (i := 9) (v := ?v9x64q1) (some 58) rfl rfl (Or.inl ⟨by kernel_rfl, ?h9x64q1⟩) ?r9x64q1
  case h9x64q1 => (intro w' hSw; obtain ⟨sB, zg⟩ := hSw; obtain ⟨q0, q1, q2, q3, _⟩ := box6 sB; have zq := lt_of_heap sB; go_simp; first | done | (with_reducible rfl))
  try simp only [zA, zB, zC, zD, zE]
  refine tkD (i := 10) (v := ?v10x65q1) (some 59) rfl rfl (Or.inl ⟨by kernel_rfl, ?h10x65q1⟩) ?r10x65q1
  case h10x65q1 => (intro w' hSw; obtain ⟨sB, zg⟩ := hSw; obtain ⟨q0, q1, q2, q3, _⟩ := box6 sB; have zq := lt_of_heap sB; go_simp; first | done | (with_reducible rfl))
  try simp only [zA, zB, zC, zD, zE]
  refine tkD (i := 11) (v := ?v11x66q1) (some 60) rfl rfl (Or.inl ⟨by kernel_rfl, ?h11x66q1⟩) ?r11x66q1
  case h11x66q1 => (intro w' hSw; obtain ⟨sB, zg⟩ := hSw; obtain ⟨q0, q1, q2, q3, _⟩ := box6 sB; have zq := lt_of_heap sB; go_simp; first | done | (with_reducible rfl))
  try simp only [zA, zB, zC, zD, zE]
  refine wpAnyH_ready (rs := [12]) (by kernel_rfl) (by simp) ?_
  refine AllReadyH.cons rfl (fun K hK => ?_) AllReadyH.nil
  have b9 := lv_box hT0
  go_simp
  clear b9
  rw [show IntKind.i64.wrap (sz * 8) = sz * 8 from IntWalk.i64_in _ (by omega), show IntKind.i64.wrap (r.at_ + sz * 8) = r.at_ + sz * 8 from IntWalk.i64_in _ (by omega)]
  refine set_oneR (P := K _) y0 g 20 (.int .i64 (r.at_ + sz * 8)) _ _ hT0 ?_
  intro yS hr hk
  rw [pre_set _ _ 20 14 _ rfl] at hr
  have hT2 : Lvr yS g p s t i h fA fl.length fc { r with at_ := r.at_ + sz * 8 } := hr
  refine hK.out _ _ (⟨hk.row hS.1 (by simpa using HgH.out.symm), lt_of_heap hT2⟩) (fun hS => ?_)
  clear hK K
  try simp only [zA, zB, zC, zD, zE]
  clear hr
  refine wpAnyH_done (by kernel_rfl) ?_ _
  have hkk : Keep [g] w2 yS := (keep_below hB0 [g]).trans hk
  replace HA := Lib.hid (HA.out.kept hkk (by simpa using Hgp.out.2.symm) (by simpa using Hgp.out.1.symm))
  replace HK := Lib.hid (HK.out.trans (hkk.sub (T := [g, b]) (fun i hi => by simp at hi; simp [hi])))
  replace HT := Lib.hid hT2
  clear hS hB0 hT0 hT2 hk hkk
  go_wp2_with fail
  refine leaves_cons (f := 127) (args := #[.pointer (some ⟨g, 0, none⟩)]) (by simp) (by simp [go_sem]) ?_
  refine (lvOnD_any g p s t i h fA fl.length fc { r with at_ := r.at_ + sz * 8 } .returning _ HT.out (by rw [show ({ r with at_ := r.at_ + sz * 8 } : Rn).list.n = Ls.length from Hln.out]; have := Hl8.out; omega)).mono ?_
  rintro e u' w'' ⟨rfl, rfl, hT, hk9⟩
  exact ⟨_, results_none rfl _ _ _, rfl, hT, HA.out.kept hk9 (by simpa using Hgp.out.2.symm) (by simpa using Hgp.out.1.symm), HK.out.trans (hk9.sub (T := [g, b]) (fun i hi => by simp at hi; simp [hi]))⟩
 ·skip
  go_simp
  refine k_alloc (fun yZ hZ hb => ?_)
  have hgZ : w.heap.size ≤ y0.heap.size := hB0.size
  obtain ⟨gZ, HgZ⟩ : ∃ x, x = y0.heap.size := ⟨_, rfl⟩
  have hgg : g ≠ gZ := by have := lt_of_heap hS; omega
  replace hB0 := below_only hB0 hb
  replace hA0 := hA0.below hb
  rw [← HgZ] at hZ hgZ ⊢
  clear HgZ
  refine hK.out _ _ (row_below hS hb) (fun hS => ?_)
  clear hK K
  try simp only [zA, zB, zC, zD, zE]
  clear hb
  refine wpAnyH_ready (rs := [9]) (by kernel_rfl) (by simp) ?_
  refine AllReadyH.cons rfl (fun K hK => ?_) AllReadyH.nil
  go_simp
  refine (HAt _ hA0).out.mono ?_
  rintro e' yA ⟨rfl, hb⟩
  go_simp
  replace hB0 := below_only hB0 hb
  replace hA0 := hA0.below hb
  replace hZ := row_below hZ hb
  refine hK.out _ _ (row_below hS hb) (fun hS => ?_)
  clear hK K
  try simp only [zA, zB, zC, zD, zE]
  clear hb
  refine tkD (i := 10) (v := ?v10x47) (some 5) rfl rfl (Or.inl ⟨by kernel_rfl, ?h10x47⟩) ?r10x47
  case h10x47 => (intro w' hSw; have b9 := lv_box hSw; go_simp; first | done | (with_reducible rfl))
  try simp only [zA, zB, zC, zD, zE]
  refine tkD (i := 11) (v := ?v11x48) (some 16) rfl rfl (Or.inl ⟨by kernel_rfl, ?h11x48⟩) ?r11x48
  case h11x48 => (intro w' hSw; have b9 := lv_box hSw; go_simp; first | done | (with_reducible rfl))
  try simp only [zA, zB, zC, zD, zE]
  refine tkD (i := 12) (v := ?v12x49) (some 17) rfl rfl (Or.inl ⟨by kernel_rfl, ?h12x49⟩) ?r12x49
  case h12x49 => (intro w' hSw; have b9 := lv_box hSw; go_simp; first | done | (with_reducible rfl))
  try simp only [zA, zB, zC, zD, zE]
  refine wpAnyH_ready (rs := [14]) (by kernel_rfl) (by simp) ?_
  refine AllReadyH.cons rfl (fun K hK => ?_) AllReadyH.nil
  refine step_store_row none rfl rfl 148 (.tmp 2) (.tmp 16) rfl gZ (hdCells sz sl (tN : Int) true sc ep) rfl rfl 148 _ hZ infoHd rfl (hd_one _ _ _ _ _ _) ?_
  have hw : (yA.setRow gZ (hdCells sz sl (tN : Int) true sc ep)).heap[gZ]? = some (.cells (hdCells sz sl (tN : Int) true sc ep) 148 (0, 0)) := setRow_heap _ _ _ _ _ _ hZ
  have hbw : Below w.heap.size w (yA.setRow gZ (hdCells sz sl (tN : Int) true sc ep)) := below_setRow hB0 hgZ _
  refine hK.out _ _ ((setRow_other _ _ _ _ hgg).trans hS) (fun hS => ?_)
  clear hK K
  try simp only [zA, zB, zC, zD, zE]
  refine tkD (i := 15) (v := ?v15x50) (some 3) rfl rfl (Or.inl ⟨by kernel_rfl, ?h15x50⟩) ?r15x50
  case h15x50 => (intro w' hSw; have b9 := lv_box hSw; go_simp; first | done | (with_reducible rfl))
  try simp only [zA, zB, zC, zD, zE]
  refine wpAnyH_done (by kernel_rfl) ?_ _
  clear hS hA0 hB0 hZ
  have HgH : Hid (g ≠ gZ) := Lib.hid hgg
  clear hgg
  generalize yA.setRow gZ (hdCells sz sl (tN : Int) true sc ep) = w1 at hw hbw ⊢
  have HHd := Lib.hid hw
  have hb := hbw
  replace HF := Lib.hid (HF.out.below hb)
  replace HLC := Lib.hid (Cells.below HLC.out hb)
  clear hw hbw hgZ HAt
  replace HT := Lib.hid (row_below HT.out hb)
  replace HA := Lib.hid (HA.out.below hb)
  replace HK := Lib.hid (HK.out.call hb)
  clear hb
  go_wp2_with fail
  refine wp_region_held_drew (S := fun W => Lvr W g p s t i h fA fl.length fc r ∧ W.heap[gZ]? = some (.cells (hdCells sz sl (tN : Int) true sc ep) 148 (0, 0))) (by kernel_rfl) (show Lvr w1.drew g p s t i h fA fl.length fc r ∧ w1.drew.heap[gZ]? = _ from ⟨HT.out, HHd.out⟩) ?_
  intro hS
  have hF0 : FinsAt w1.drew fA fl := HF.out.below (Below.drew (Below.refl _ _))
  have hB1 : Below w1.heap.size w1 w1.drew := Below.drew (Below.refl _ _)
  generalize w1.drew = y0 at hS hF0 hB1 ⊢
  refine tkD (i := 0) (v := ?v0x51q2) (some 18) rfl rfl (Or.inl ⟨by kernel_rfl, ?h0x51q2⟩) ?r0x51q2
  case h0x51q2 => (intro w' hSw; obtain ⟨sA, sB⟩ := hSw; have b9 := lv_box sA; obtain ⟨q0, q1, q2, q3, _⟩ := box6 sB; have zq := lt_of_heap sB; go_simp; first | done | (with_reducible rfl))
  try simp only [zA, zB, zC, zD, zE]
  refine tkD (i := 1) (v := ?v1x52q2) (some 19) rfl rfl (Or.inl ⟨by kernel_rfl, ?h1x52q2⟩) ?r1x52q2
  case h1x52q2 => (intro w' hSw; obtain ⟨sA, sB⟩ := hSw; have b9 := lv_box sA; obtain ⟨q0, q1, q2, q3, _⟩ := box6 sB; have zq := lt_of_heap sB; go_simp; first | done | (with_reducible rfl))
  try simp only [zA, zB, zC, zD, zE]
  refine tkD (i := 2) (v := ?v2x53q2) (some 20) rfl rfl (Or.inl ⟨by kernel_rfl, ?h2x53q2⟩) ?r2x53q2
  case h2x53q2 => (intro w' hSw; obtain ⟨sA, sB⟩ := hSw; have b9 := lv_box sA; obtain ⟨q0, q1, q2, q3, _⟩ := box6 sB; have zq := lt_of_heap sB; go_simp; first | done | (with_reducible rfl))
  try simp only [zA, zB, zC, zD, zE]
  refine tkD (i := 3) (v := ?v3x54q2) (some 21) rfl rfl (Or.inl ⟨by kernel_rfl, ?h3x54q2⟩) ?r3x54q2
  case h3x54q2 => (intro w' hSw; obtain ⟨sA, sB⟩ := hSw; have b9 := lv_box sA; obtain ⟨q0, q1, q2, q3, _⟩ := box6 sB; have zq := lt_of_heap sB; go_simp; first | done | (with_reducible rfl))
  try simp only [zA, zB, zC, zD, zE]
  refine tkD (i := 4) (v := undef) (some 22) rfl rfl (Or.inr ⟨by kernel_rfl, rfl⟩) ?_
  try simp only [zA, zB, zC, zD, zE]
  refine tkD (i := 5) (v := undef) (some 23) rfl rfl (Or.inr ⟨by kernel_rfl, rfl⟩) ?_
  try simp only [zA, zB, zC, zD, zE]
  refine tkD (i := 6) (v := undef) (some 24) rfl rfl (Or.inr ⟨by kernel_rfl, rfl⟩) ?_
  try simp only [zA, zB, zC, zD, zE]
  refine tkD (i := 7) (v := undef) (some 25) rfl rfl (Or.inr ⟨by kernel_rfl, rfl⟩) ?_
  try simp only [zA, zB, zC, zD, zE]
  refine tkD (i := 8) (v := undef) (some 26) rfl rfl (Or.inr ⟨by kernel_rfl, rfl⟩) ?_
  try simp only [zA, zB, zC, zD, zE]
  refine tkD (i := 9) (v := undef) (some 27) rfl rfl (Or.inr ⟨by kernel_rfl, rfl⟩) ?_
  try simp only [zA, zB, zC, zD, zE]
  refine tkD (i := 10) (v := undef) (some 28) rfl rfl (Or.inr ⟨by kernel_rfl, rfl⟩) ?_
  try simp only [zA, zB, zC, zD, zE]
  refine tkD (i := 11) (v := undef) (some 29) rfl rfl (Or.inr ⟨by kernel_rfl, rfl⟩) ?_
  try simp only [zA, zB, zC, zD, zE]
  refine tkD (i := 12) (v := undef) (some 30) rfl rfl (Or.inr ⟨by kernel_rfl, rfl⟩) ?_
  try simp only [zA, zB, zC, zD, zE]
  refine tkD (i := 13) (v := ?v13x55q2) (some 31) rfl rfl (Or.inl ⟨by kernel_rfl, ?h13x55q2⟩) ?r13x55q2
  case h13x55q2 => (intro w' hSw; obtain ⟨sA, sB⟩ := hSw; have b9 := lv_box sA; obtain ⟨q0, q1, q2, q3, _⟩ := box6 sB; have zq := lt_of_heap sB; go_simp; first | done | (with_reducible rfl))
  try simp only [zA, zB, zC, zD, zE]
  refine wpAnyH_done (by kernel_rfl) ?_ _
  clear hS hF0
  obtain ⟨w2, hw2⟩ : ∃ x, x = y0 := ⟨_, rfl⟩
  rw [← hw2] at hB1 ⊢
  replace HHd := Lib.hid (row_below HHd.out hB1)
  replace HLC := Lib.hid (Cells.below HLC.out hB1)
  clear hw2 HOf HF
  replace HT := Lib.hid (row_below HT.out hB1)
  replace HA := Lib.hid (HA.out.below hB1)
  replace HK := Lib.hid (HK.out.call hB1)
  have Hw2 : Hid (w.heap.size ≤ w2.heap.size) := Lib.hid HK.out.size
  have Hgw2 : Hid (g < w2.heap.size) := Lib.hid (lt_of_heap HT.out)
  clear hB1
  go_wp2_with fail
  refine wp_region_held_drew (S := fun W => W.heap[gZ]? = some (.cells (hdCells sz sl (tN : Int) true sc ep) 148 (0, 0)) ∧ g < W.heap.size) (by kernel_rfl) (show w2.drew.heap[gZ]? = _ ∧ g < w2.drew.heap.size from ⟨HHd.out, lt_of_heap HT.out⟩) ?_
  intro hS
  have hB0 : Below w2.heap.size w2 w2.drew := Below.drew (Below.refl _ _)
  have hT0 : Lvr w2.drew g p s t i h fA fl.length fc r := HT.out
  generalize w2.drew = y0 at hS hB0 hT0 ⊢
  refine tkD (i := 0) (v := ?v0x56q2) (some 49) rfl rfl (Or.inl ⟨by kernel_rfl, ?h0x56q2⟩) ?r0x56q2
  case h0x56q2 => (intro w' hSw; obtain ⟨sB, zg⟩ := hSw; obtain ⟨q0, q1, q2, q3, _⟩ := box6 sB; have zq := lt_of_heap sB; go_simp; first | done | (with_reducible rfl))
  try simp only [zA, zB, zC, zD, zE]
  refine tkD (i := 1) (v := ?v1x57q2) (some 50) rfl rfl (Or.inl ⟨by kernel_rfl, ?h1x57q2⟩) ?r1x57q2
  case h1x57q2 => (intro w' hSw; obtain ⟨sB, zg⟩ := hSw; obtain ⟨q0, q1, q2, q3, _⟩ := box6 sB; have zq := lt_of_heap sB; go_simp; first | done | (with_reducible rfl))
  try simp only [zA, zB, zC, zD, zE]
  refine tkD (i := 2) (v := ?v2x58q2) (some 51) rfl rfl (Or.inl ⟨by kernel_rfl, ?h2x58q2⟩) ?r2x58q2
  case h2x58q2 => (intro w' hSw; obtain ⟨sB, zg⟩ := hSw; obtain ⟨q0, q1, q2, q3, _⟩ := box6 sB; have zq := lt_of_heap sB; go_simp; first | done | (with_reducible rfl))
  try simp only [zA, zB, zC, zD, zE]
  refine tkD (i := 3) (v := ?v3x59q2) (some 52) rfl rfl (Or.inl ⟨by kernel_rfl, ?h3x59q2⟩) ?r3x59q2
  case h3x59q2 => (intro w' hSw; obtain ⟨sB, zg⟩ := hSw; obtain ⟨q0, q1, q2, q3, _⟩ := box6 sB; have zq := lt_of_heap sB; go_simp; first | done | (with_reducible rfl))
  try simp only [zA, zB, zC, zD, zE]
  refine tkD (i := 5) (v := ?v5x60q2) (some 54) rfl rfl (Or.inl ⟨by kernel_rfl, ?h5x60q2⟩) ?r5x60q2
  case h5x60q2 => (intro w' hSw; obtain ⟨sB, zg⟩ := hSw; obtain ⟨q0, q1, q2, q3, _⟩ := box6 sB; have zq := lt_of_heap sB; go_simp; first | done | (with_reducible rfl))
  try simp only [zA, zB, zC, zD, zE]
  refine tkD (i := 6) (v := ?v6x61q2) (some 55) rfl rfl (Or.inl ⟨by kernel_rfl, ?h6x61q2⟩) ?r6x61q2
  case h6x61q2 => (intro w' hSw; obtain ⟨sB, zg⟩ := hSw; obtain ⟨q0, q1, q2, q3, _⟩ := box6 sB; have zq := lt_of_heap sB; go_simp; first | done | (with_reducible rfl))
  try simp only [zA, zB, zC, zD, zE]
  refine tkD (i := 7) (v := ?v7x62q2) (some 56) rfl rfl (Or.inl ⟨by kernel_rfl, ?h7x62q2⟩) ?r7x62q2
  case h7x62q2 => (intro w' hSw; obtain ⟨sB, zg⟩ := hSw; obtain ⟨q0, q1, q2, q3, _⟩ := box6 sB; have zq := lt_of_heap sB; go_simp; first | done | (with_reducible rfl))
  try simp only [zA, zB, zC, zD, zE]
  refine wpAnyH_ready (rs := [4]) (by kernel_rfl) (by simp) ?_
  refine AllReadyH.cons rfl (fun K hK => ?_) AllReadyH.nil
  have b9 := lv_box hT0
  go_simp
  clear b9
  refine hK.out _ _ (hS) (fun hS => ?_)
  clear hK K
  try simp only [zA, zB, zC, zD, zE]
  refine tkD (i := 8) (v := ?v8x63q2) (some 57) rfl rfl (Or.inl ⟨by kernel_rfl, ?h8x63q2⟩) ?r8x63q2
  case h8x63q2 => (intro w' hSw; obtain ⟨sB, zg⟩ := hSw; obtain ⟨q0, q1, q2, q3, _⟩ := box6 sB; have zq := lt_of_heap sB; go_simp; first | done | (with_reducible rfl))
  try simp only [zA, zB, zC, zD, zE]
  refine tkD (i := 9) (v := ?v9x64q2) (some 58) rfl rfl (Or.inl ⟨by kernel_rfl, ?h9x64q2⟩) ?r9x64q2
  case h9x64q2 => (intro w' hSw; obtain ⟨sB, zg⟩ := hSw; obtain ⟨q0, q1, q2, q3, _⟩ := box6 sB; have zq := lt_of_heap sB; go_simp; first | done | (with_reducible rfl))
  try simp only [zA, zB, zC, zD, zE]
  refine tkD (i := 10) (v := ?v10x65q2) (some 59) rfl rfl (Or.inl ⟨by kernel_rfl, ?h10x65q2⟩) ?r10x65q2
  case h10x65q2 => (intro w' hSw; obtain ⟨sB, zg⟩ := hSw; obtain ⟨q0, q1, q2, q3, _⟩ := box6 sB; have zq := lt_of_heap sB; go_simp; first | done | (with_reducible rfl))
  try simp only [zA, zB, zC, zD, zE]
  refine tkD (i := 11) (v := ?v11x66q2) (some 60) rfl rfl (Or.inl ⟨by kernel_rfl, ?h11x66q2⟩) ?r11x66q2
  case h11x66q2 => (intro w' hSw; obtain ⟨sB, zg⟩ := hSw; obtain ⟨q0, q1, q2, q3, _⟩ := box6 sB; have zq := lt_of_heap sB; go_simp; first | done | (with_reducible rfl))
  try simp only [zA, zB, zC, zD, zE]
  refine wpAnyH_ready (rs := [12]) (by kernel_rfl) (by simp) ?_
  refine AllReadyH.cons rfl (fun K hK => ?_) AllReadyH.nil
  have b9 := lv_box hT0
  go_simp
  clear b9
  rw [show IntKind.i64.wrap (sz * 8) = sz * 8 from IntWalk.i64_in _ (by omega), show IntKind.i64.wrap (r.at_ + sz * 8) = r.at_ + sz * 8 from IntWalk.i64_in _ (by omega)]
  refine set_oneR (P := K _) y0 g 20 (.int .i64 (r.at_ + sz * 8)) _ _ hT0 ?_
  intro yS hr hk
  rw [pre_set _ _ 20 14 _ rfl] at hr
  have hT2 : Lvr yS g p s t i h fA fl.length fc { r with at_ := r.at_ + sz * 8 } := hr
  refine hK.out _ _ (⟨hk.row hS.1 (by simpa using HgH.out.symm), lt_of_heap hT2⟩) (fun hS => ?_)
  clear hK K
  try simp only [zA, zB, zC, zD, zE]
  clear hr
  refine wpAnyH_done (by kernel_rfl) ?_ _
  have hkk : Keep [g] w2 yS := (keep_below hB0 [g]).trans hk
  replace HA := Lib.hid (HA.out.kept hkk (by simpa using Hgp.out.2.symm) (by simpa using Hgp.out.1.symm))
  replace HK := Lib.hid (HK.out.trans (hkk.sub (T := [g, b]) (fun i hi => by simp at hi; simp [hi])))
  replace HT := Lib.hid hT2
  clear hS hB0 hT0 hT2 hk hkk
  go_wp2_with fail
  refine leaves_cons (f := 127) (args := #[.pointer (some ⟨g, 0, none⟩)]) (by simp) (by simp [go_sem]) ?_
  refine (lvOnD_any g p s t i h fA fl.length fc { r with at_ := r.at_ + sz * 8 } .returning _ HT.out (by rw [show ({ r with at_ := r.at_ + sz * 8 } : Rn).list.n = Ls.length from Hln.out]; have := Hl8.out; omega)).mono ?_
  rintro e u' w'' ⟨rfl, rfl, hT, hk9⟩
  exact ⟨_, results_none rfl _ _ _, rfl, hT, HA.out.kept hk9 (by simpa using Hgp.out.2.symm) (by simpa using Hgp.out.1.symm), HK.out.trans (hk9.sub (T := [g, b]) (fun i hi => by simp at hi; simp [hi]))⟩
set_option maxRecDepth 100000 in
set_option maxHeartbeats 16000000 in
theorem lvWalkNo_any (g p : Nat) (s t i h : Int) (fA : Option Addr) (fn fc : Nat) (b : Nat) (ws : List Int) (k : Nat) (sz sl tg : Int) (tN : Nat) (dn : Bool) (sc ep : Int) (fl : List FSl) (Ls : List Int) (HH : HeadOk sz sl tg sc ep) (htN : tg = (tN : Int)) (r : Rn) (w : World) (H : PlanOk s t i h) (hT : Lvr w g p s t i h fA fn fc r) (hA : Arn w p b ws) (hgb : g ≠ b) (hgp : g ≠ p) (h1 : ws[k]? = some (head1d sz sl tg dn)) (h2 : ws[k + 1]? = some (head2 sc ep)) (ha : r.at_ = 8 * (k : Int)) (hk8 : k ≤ 8192) (hfn : fn = fl.length) (hf8 : fl.length ≤ 8) (hF : FinsAt w fA fl) (hln : r.list.n = Ls.length) (hl8 : Ls.length ≤ 64) (hlc : Cells w r.list.a (Ls.flatMap nCells)) (hgw : g < w.heap.size) (hdn : dn = false) (hop : fsOf (fsL fl) tN = []) :
  Calls Tryz.prog 90 #[.pointer (some ⟨g, 0, none⟩)] w fun e w' => e = .returned (.tuple #[]) ∧ Lvr w' g p s t i h fA fn fc { r with at_ := r.at_ + sz * 8, pc := onP { r with at_ := r.at_ + sz * 8 } } ∧ Arn w' p b ws ∧ Keep [g, b] w w' := by
 subst hdn
 subst hfn
 subst htN
 have HLO : Hid ((finOf fl tN).l.length = 0) := Lib.hid (by rw [finOf_l]; rw [hop]; rfl)
 clear hop
 have HP0 := Lib.hid H
 have HT := Lib.hid hT
 have HA := Lib.hid hA
 have Hgb := Lib.hid hgb
 have Hgp : Hid (g ≠ b ∧ g ≠ p) := Lib.hid ⟨hgb, hgp⟩
 have HK : Hid (Keep [g, b] w w) := Lib.hid (Keep.refl _ _)
 have HAt := fun w' (hq : Arn w' p b ws) => Lib.hid (thingAtD_any p b ws k r.at_ sz sl (tN : Int) false sc ep w' hq HH h1 h2 ha)
 have HOf := fun w' (hq : FinsAt w' fA fl) => Lib.hid (finOf_any fA fc fl tN w' hq hf8 (by have := HH.htg; omega))
 have HF := Lib.hid hF
 have Hln := Lib.hid hln
 have Hl8 := Lib.hid hl8
 have HLC := Lib.hid hlc
 have Hgw := Lib.hid hgw
 have a0 : 0 ≤ r.at_ := by omega
 have a1 : r.at_ ≤ 65536 := by omega
 have sz0 : 0 ≤ sz := by have := HH.hsz; have := HH.hsl; omega
 have sz1 : sz ≤ 72 := HH.hsz.2
 clear h1 h2 ha hk8 hf8 hF hln hl8 hlc hgw HH
 clear H hT hA hgb hgp
 go_enter_defers Tryz.func90, Tryz.ntmps90
 skip
 go_wp2_with fail
 refine wp_region_held_drew (S := fun W => Lvr W g p s t i h fA fl.length fc r) (by kernel_rfl) (show Lvr w.drew g p s t i h fA fl.length fc r from HT.out) ?_
 intro hS
 have hA0 : Arn w.drew p b ws := HA.out.drew
 have hB0 : Below w.heap.size w w.drew := Below.drew (Below.refl _ _)
 generalize w.drew = y0 at hS hA0 hB0 ⊢
 refine tkD (i := 0) (v := ?v0x67) (some 6) rfl rfl (Or.inl ⟨by kernel_rfl, ?h0x67⟩) ?r0x67
 case h0x67 => (intro w' hSw; have b9 := lv_box hSw; go_simp; first | done | (with_reducible rfl))
 try simp only [zA, zB, zC, zD, zE]
 refine tkD (i := 1) (v := ?v1x68) (some 7) rfl rfl (Or.inl ⟨by kernel_rfl, ?h1x68⟩) ?r1x68
 case h1x68 => (intro w' hSw; have b9 := lv_box hSw; go_simp; first | done | (with_reducible rfl))
 try simp only [zA, zB, zC, zD, zE]
 refine tkD (i := 2) (v := ?v2x69) (some 8) rfl rfl (Or.inl ⟨by kernel_rfl, ?h2x69⟩) ?r2x69
 case h2x69 => (intro w' hSw; have b9 := lv_box hSw; go_simp; first | done | (with_reducible rfl))
 try simp only [zA, zB, zC, zD, zE]
 refine tkD (i := 3) (v := ?v3x70) (some 9) rfl rfl (Or.inl ⟨by kernel_rfl, ?h3x70⟩) ?r3x70
 case h3x70 => (intro w' hSw; have b9 := lv_box hSw; go_simp; first | done | (with_reducible rfl))
 try simp only [zA, zB, zC, zD, zE]
 refine tkD (i := 4) (v := ?v4x71) (some 10) rfl rfl (Or.inl ⟨by kernel_rfl, ?h4x71⟩) ?r4x71
 case h4x71 => (intro w' hSw; have b9 := lv_box hSw; go_simp; first | done | (with_reducible rfl))
 try simp only [zA, zB, zC, zD, zE]
 refine tkD (i := 5) (v := ?v5x72) (some 11) rfl rfl (Or.inl ⟨by kernel_rfl, ?h5x72⟩) ?r5x72
 case h5x72 => (intro w' hSw; have b9 := lv_box hSw; go_simp; first | done | (with_reducible rfl))
 try simp only [zA, zB, zC, zD, zE]
 refine tkD (i := 6) (v := ?v6x73) (some 12) rfl rfl (Or.inl ⟨by kernel_rfl, ?h6x73⟩) ?r6x73
 case h6x73 => (intro w' hSw; have b9 := lv_box hSw; go_simp; first | done | (with_reducible rfl))
 try simp only [zA, zB, zC, zD, zE]
 refine tkD (i := 7) (v := ?v7x74) (some 13) rfl rfl (Or.inl ⟨by kernel_rfl, ?h7x74⟩) ?r7x74
 case h7x74 => (intro w' hSw; have b9 := lv_box hSw; go_simp; first | done | (with_reducible rfl))
 try simp only [zA, zB, zC, zD, zE]
 refine tkD (i := 8) (v := ?v8x75) (some 14) rfl rfl (Or.inl ⟨by kernel_rfl, ?h8x75⟩) ?r8x75
 case h8x75 => (intro w' hSw; have b9 := lv_box hSw; go_simp; first | done | (with_reducible rfl))
 try simp only [zA, zB, zC, zD, zE]
 refine wpAnyH_ready (rs := [9, 13]) (by kernel_rfl) (by simp) ?_
 refine AllReadyH.cons rfl (fun K hK => ?_) (AllReadyH.cons rfl (fun K hK => ?_) AllReadyH.nil)
 ·skip
  go_simp
  refine (HAt _ hA0).out.mono ?_
  rintro e' yA ⟨rfl, hb⟩
  go_simp
  replace hB0 := below_only hB0 hb
  replace hA0 := hA0.below hb
  refine hK.out _ _ (row_below hS hb) (fun hS => ?_)
  clear hK K
  try simp only [zA, zB, zC, zD, zE]
  clear hb
  refine tkD (i := 10) (v := ?v10x76) (some 5) rfl rfl (Or.inl ⟨by kernel_rfl, ?h10x76⟩) ?r10x76
  case h10x76 => (intro w' hSw; have b9 := lv_box hSw; go_simp; first | done | (with_reducible rfl))
  try simp only [zA, zB, zC, zD, zE]
  refine tkD (i := 11) (v := ?v11x77) (some 16) rfl rfl (Or.inl ⟨by kernel_rfl, ?h11x77⟩) ?r11x77
  case h11x77 => (intro w' hSw; have b9 := lv_box hSw; go_simp; first | done | (with_reducible rfl))
  try simp only [zA, zB, zC, zD, zE]
  refine tkD (i := 12) (v := ?v12x78) (some 17) rfl rfl (Or.inl ⟨by kernel_rfl, ?h12x78⟩) ?r12x78
  case h12x78 => (intro w' hSw; have b9 := lv_box hSw; go_simp; first | done | (with_reducible rfl))
  try simp only [zA, zB, zC, zD, zE]
  refine wpAnyH_ready (rs := [13]) (by kernel_rfl) (by simp) ?_
  refine AllReadyH.cons rfl (fun K hK => ?_) AllReadyH.nil
  go_simp
  refine k_alloc (fun yZ hZ hb => ?_)
  have hgZ : w.heap.size ≤ yA.heap.size := hB0.size
  obtain ⟨gZ, HgZ⟩ : ∃ x, x = yA.heap.size := ⟨_, rfl⟩
  have hgg : g ≠ gZ := by have := lt_of_heap hS; omega
  replace hB0 := below_only hB0 hb
  replace hA0 := hA0.below hb
  rw [← HgZ] at hZ hgZ ⊢
  clear HgZ
  refine hK.out _ _ (row_below hS hb) (fun hS => ?_)
  clear hK K
  try simp only [zA, zB, zC, zD, zE]
  clear hb
  refine wpAnyH_ready (rs := [14]) (by kernel_rfl) (by simp) ?_
  refine AllReadyH.cons rfl (fun K hK => ?_) AllReadyH.nil
  refine step_store_row none rfl rfl 148 (.tmp 2) (.tmp 16) rfl gZ (hdCells sz sl (tN : Int) false sc ep) rfl rfl 148 _ hZ infoHd rfl (hd_one _ _ _ _ _ _) ?_
  have hw : (yZ.setRow gZ (hdCells sz sl (tN : Int) false sc ep)).heap[gZ]? = some (.cells (hdCells sz sl (tN : Int) false sc ep) 148 (0, 0)) := setRow_heap _ _ _ _ _ _ hZ
  have hbw : Below w.heap.size w (yZ.setRow gZ (hdCells sz sl (tN : Int) false sc ep)) := below_setRow hB0 hgZ _
  refine hK.out _ _ ((setRow_other _ _ _ _ hgg).trans hS) (fun hS => ?_)
  clear hK K
  try simp only [zA, zB, zC, zD, zE]
  refine tkD (i := 15) (v := ?v15x79) (some 3) rfl rfl (Or.inl ⟨by kernel_rfl, ?h15x79⟩) ?r15x79
  case h15x79 => (intro w' hSw; have b9 := lv_box hSw; go_simp; first | done | (with_reducible rfl))
  try simp only [zA, zB, zC, zD, zE]
  refine wpAnyH_done (by kernel_rfl) ?_ _
  clear hS hA0 hB0 hZ
  have HgH : Hid (g ≠ gZ) := Lib.hid hgg
  clear hgg
  generalize yZ.setRow gZ (hdCells sz sl (tN : Int) false sc ep) = w1 at hw hbw ⊢
  have HHd := Lib.hid hw
  have hb := hbw
  replace HF := Lib.hid (HF.out.below hb)
  replace HLC := Lib.hid (Cells.below HLC.out hb)
  clear hw hbw hgZ HAt
  replace HT := Lib.hid (row_below HT.out hb)
  replace HA := Lib.hid (HA.out.below hb)
  replace HK := Lib.hid (HK.out.call hb)
  clear hb
  go_wp2_with fail
  refine wp_region_held_drew (S := fun W => Lvr W g p s t i h fA fl.length fc r ∧ W.heap[gZ]? = some (.cells (hdCells sz sl (tN : Int) false sc ep) 148 (0, 0))) (by kernel_rfl) (show Lvr w1.drew g p s t i h fA fl.length fc r ∧ w1.drew.heap[gZ]? = _ from ⟨HT.out, HHd.out⟩) ?_
  intro hS
  have hF0 : FinsAt w1.drew fA fl := HF.out.below (Below.drew (Below.refl _ _))
  have hB1 : Below w1.heap.size w1 w1.drew := Below.drew (Below.refl _ _)
  generalize w1.drew = y0 at hS hF0 hB1 ⊢
  refine tkD (i := 0) (v := ?v0x84q3) (some 18) rfl rfl (Or.inl ⟨by kernel_rfl, ?h0x84q3⟩) ?r0x84q3
  case h0x84q3 => (intro w' hSw; obtain ⟨sA, sB⟩ := hSw; have b9 := lv_box sA; obtain ⟨q0, q1, q2, q3, _⟩ := box6 sB; have zq := lt_of_heap sB; go_simp; first | done | (with_reducible rfl))
  try simp only [zA, zB, zC, zD, zE]
  refine tkD (i := 1) (v := ?v1x85q3) (some 19) rfl rfl (Or.inl ⟨by kernel_rfl, ?h1x85q3⟩) ?r1x85q3
  case h1x85q3 => (intro w' hSw; obtain ⟨sA, sB⟩ := hSw; have b9 := lv_box sA; obtain ⟨q0, q1, q2, q3, _⟩ := box6 sB; have zq := lt_of_heap sB; go_simp; first | done | (with_reducible rfl))
  try simp only [zA, zB, zC, zD, zE]
  refine tkD (i := 2) (v := ?v2x86q3) (some 20) rfl rfl (Or.inl ⟨by kernel_rfl, ?h2x86q3⟩) ?r2x86q3
  case h2x86q3 => (intro w' hSw; obtain ⟨sA, sB⟩ := hSw; have b9 := lv_box sA; obtain ⟨q0, q1, q2, q3, _⟩ := box6 sB; have zq := lt_of_heap sB; go_simp; first | done | (with_reducible rfl))
  try simp only [zA, zB, zC, zD, zE]
  refine tkD (i := 3) (v := ?v3x87q3) (some 21) rfl rfl (Or.inl ⟨by kernel_rfl, ?h3x87q3⟩) ?r3x87q3
  case h3x87q3 => (intro w' hSw; obtain ⟨sA, sB⟩ := hSw; have b9 := lv_box sA; obtain ⟨q0, q1, q2, q3, _⟩ := box6 sB; have zq := lt_of_heap sB; go_simp; first | done | (with_reducible rfl))
  try simp only [zA, zB, zC, zD, zE]
  refine tkD (i := 4) (v := ?v4x88q3) (some 22) rfl rfl (Or.inl ⟨by kernel_rfl, ?h4x88q3⟩) ?r4x88q3
  case h4x88q3 => (intro w' hSw; obtain ⟨sA, sB⟩ := hSw; have b9 := lv_box sA; obtain ⟨q0, q1, q2, q3, _⟩ := box6 sB; have zq := lt_of_heap sB; go_simp; first | done | (with_reducible rfl))
  try simp only [zA, zB, zC, zD, zE]
  refine tkD (i := 5) (v := ?v5x89q3) (some 23) rfl rfl (Or.inl ⟨by kernel_rfl, ?h5x89q3⟩) ?r5x89q3
  case h5x89q3 => (intro w' hSw; obtain ⟨sA, sB⟩ := hSw; have b9 := lv_box sA; obtain ⟨q0, q1, q2, q3, _⟩ := box6 sB; have zq := lt_of_heap sB; go_simp; first | done | (with_reducible rfl))
  try simp only [zA, zB, zC, zD, zE]
  refine tkD (i := 6) (v := ?v6x90q3) (some 24) rfl rfl (Or.inl ⟨by kernel_rfl, ?h6x90q3⟩) ?r6x90q3
  case h6x90q3 => (intro w' hSw; obtain ⟨sA, sB⟩ := hSw; have b9 := lv_box sA; obtain ⟨q0, q1, q2, q3, _⟩ := box6 sB; have zq := lt_of_heap sB; go_simp; first | done | (with_reducible rfl))
  try simp only [zA, zB, zC, zD, zE]
  refine tkD (i := 7) (v := ?v7x91q3) (some 25) rfl rfl (Or.inl ⟨by kernel_rfl, ?h7x91q3⟩) ?r7x91q3
  case h7x91q3 => (intro w' hSw; obtain ⟨sA, sB⟩ := hSw; have b9 := lv_box sA; obtain ⟨q0, q1, q2, q3, _⟩ := box6 sB; have zq := lt_of_heap sB; go_simp; first | done | (with_reducible rfl))
  try simp only [zA, zB, zC, zD, zE]
  refine tkD (i := 8) (v := ?v8x92q3) (some 26) rfl rfl (Or.inl ⟨by kernel_rfl, ?h8x92q3⟩) ?r8x92q3
  case h8x92q3 => (intro w' hSw; obtain ⟨sA, sB⟩ := hSw; have b9 := lv_box sA; obtain ⟨q0, q1, q2, q3, _⟩ := box6 sB; have zq := lt_of_heap sB; go_simp; first | done | (with_reducible rfl))
  try simp only [zA, zB, zC, zD, zE]
  refine tkD (i := 9) (v := ?v9x93q3) (some 27) rfl rfl (Or.inl ⟨by kernel_rfl, ?h9x93q3⟩) ?r9x93q3
  case h9x93q3 => (intro w' hSw; obtain ⟨sA, sB⟩ := hSw; have b9 := lv_box sA; obtain ⟨q0, q1, q2, q3, _⟩ := box6 sB; have zq := lt_of_heap sB; go_simp; first | done | (with_reducible rfl))
  try simp only [zA, zB, zC, zD, zE]
  refine wpAnyH_ready (rs := [10]) (by kernel_rfl) (by simp) ?_
  refine AllReadyH.cons rfl (fun K hK => ?_) AllReadyH.nil
  go_simp
  refine (HOf _ hF0).out.mono ?_
  rintro e' y1 ⟨rfl, e2⟩
  rw [e2]
  clear e2 y1
  go_simp
  refine hK.out _ _ (hS) (fun hS => ?_)
  clear hK K
  try simp only [zA, zB, zC, zD, zE]
  refine tkD (i := 11) (v := ?v11x94q3) (some 29) rfl rfl (Or.inl ⟨by kernel_rfl, ?h11x94q3⟩) ?r11x94q3
  case h11x94q3 => (intro w' hSw; obtain ⟨sA, sB⟩ := hSw; have b9 := lv_box sA; obtain ⟨q0, q1, q2, q3, _⟩ := box6 sB; have zq := lt_of_heap sB; go_simp; first | done | (with_reducible rfl))
  try simp only [zA, zB, zC, zD, zE]
  refine tkD (i := 12) (v := ?v12x95q3) (some 30) rfl rfl (Or.inl ⟨by kernel_rfl, ?h12x95q3⟩) ?r12x95q3
  case h12x95q3 => (intro w' hSw; obtain ⟨sA, sB⟩ := hSw; have b9 := lv_box sA; obtain ⟨q0, q1, q2, q3, _⟩ := box6 sB; have zq := lt_of_heap sB; go_simp; first | done | (with_reducible rfl))
  try simp only [zA, zB, zC, zD, zE]
  refine tkD (i := 13) (v := ?v13x96q3) (some 31) rfl rfl (Or.inl ⟨by kernel_rfl, ?h13x96q3⟩) ?r13x96q3
  case h13x96q3 => (intro w' hSw; obtain ⟨sA, sB⟩ := hSw; have b9 := lv_box sA; obtain ⟨q0, q1, q2, q3, _⟩ := box6 sB; have zq := lt_of_heap sB; go_simp; first | done | (with_reducible rfl))
  try simp only [zA, zB, zC, zD, zE]
  refine wpAnyH_done (by kernel_rfl) ?_ _
  clear hS hF0
  obtain ⟨w2, hw2⟩ : ∃ x, x = y0 := ⟨_, rfl⟩
  rw [← hw2] at hB1 ⊢
  replace HHd := Lib.hid (row_below HHd.out hB1)
  replace HLC := Lib.hid (Cells.below HLC.out hB1)
  clear hw2 HOf HF
  replace HT := Lib.hid (row_below HT.out hB1)
  replace HA := Lib.hid (HA.out.below hB1)
  replace HK := Lib.hid (HK.out.call hB1)
  have Hw2 : Hid (w.heap.size ≤ w2.heap.size) := Lib.hid HK.out.size
  have Hgw2 : Hid (g < w2.heap.size) := Lib.hid (lt_of_heap HT.out)
  clear hB1
  obtain ⟨lo, Hlo⟩ : ∃ x, Hid ((finOf fl tN).l.length = x) := ⟨_, Lib.hid rfl⟩
  rw [Hlo.out] at HLO ⊢
  have lo0 : (0 : Int) ≤ (lo : Int) := by omega
  have hlo0 : lo = 0 := HLO.out
  subst hlo0
  go_wp2_with fail
  refine wp_region_held_drew (S := fun W => W.heap[gZ]? = some (.cells (hdCells sz sl (tN : Int) false sc ep) 148 (0, 0)) ∧ g < W.heap.size) (by kernel_rfl) (show w2.drew.heap[gZ]? = _ ∧ g < w2.drew.heap.size from ⟨HHd.out, lt_of_heap HT.out⟩) ?_
  intro hS
  have hB0 : Below w2.heap.size w2 w2.drew := Below.drew (Below.refl _ _)
  have hT0 : Lvr w2.drew g p s t i h fA fl.length fc r := HT.out
  generalize w2.drew = y0 at hS hB0 hT0 ⊢
  refine tkD (i := 0) (v := ?v0x97q3) (some 49) rfl rfl (Or.inl ⟨by kernel_rfl, ?h0x97q3⟩) ?r0x97q3
  case h0x97q3 => (intro w' hSw; obtain ⟨sB, zg⟩ := hSw; obtain ⟨q0, q1, q2, q3, _⟩ := box6 sB; have zq := lt_of_heap sB; go_simp; first | done | (with_reducible rfl))
  try simp only [zA, zB, zC, zD, zE]
  refine tkD (i := 1) (v := ?v1x98q3) (some 50) rfl rfl (Or.inl ⟨by kernel_rfl, ?h1x98q3⟩) ?r1x98q3
  case h1x98q3 => (intro w' hSw; obtain ⟨sB, zg⟩ := hSw; obtain ⟨q0, q1, q2, q3, _⟩ := box6 sB; have zq := lt_of_heap sB; go_simp; first | done | (with_reducible rfl))
  try simp only [zA, zB, zC, zD, zE]
  refine tkD (i := 2) (v := ?v2x99q3) (some 51) rfl rfl (Or.inl ⟨by kernel_rfl, ?h2x99q3⟩) ?r2x99q3
  case h2x99q3 => (intro w' hSw; obtain ⟨sB, zg⟩ := hSw; obtain ⟨q0, q1, q2, q3, _⟩ := box6 sB; have zq := lt_of_heap sB; go_simp; first | done | (with_reducible rfl))
  try simp only [zA, zB, zC, zD, zE]
  refine tkD (i := 3) (v := ?v3x100q3) (some 52) rfl rfl (Or.inl ⟨by kernel_rfl, ?h3x100q3⟩) ?r3x100q3
  case h3x100q3 => (intro w' hSw; obtain ⟨sB, zg⟩ := hSw; obtain ⟨q0, q1, q2, q3, _⟩ := box6 sB; have zq := lt_of_heap sB; go_simp; first | done | (with_reducible rfl))
  try simp only [zA, zB, zC, zD, zE]
  refine tkD (i := 5) (v := ?v5x101q3) (some 54) rfl rfl (Or.inl ⟨by kernel_rfl, ?h5x101q3⟩) ?r5x101q3
  case h5x101q3 => (intro w' hSw; obtain ⟨sB, zg⟩ := hSw; obtain ⟨q0, q1, q2, q3, _⟩ := box6 sB; have zq := lt_of_heap sB; go_simp; first | done | (with_reducible rfl))
  try simp only [zA, zB, zC, zD, zE]
  refine tkD (i := 6) (v := ?v6x102q3) (some 55) rfl rfl (Or.inl ⟨by kernel_rfl, ?h6x102q3⟩) ?r6x102q3
  case h6x102q3 => (intro w' hSw; obtain ⟨sB, zg⟩ := hSw; obtain ⟨q0, q1, q2, q3, _⟩ := box6 sB; have zq := lt_of_heap sB; go_simp; first | done | (with_reducible rfl))
  try simp only [zA, zB, zC, zD, zE]
  refine tkD (i := 7) (v := ?v7x103q3) (some 56) rfl rfl (Or.inl ⟨by kernel_rfl, ?h7x103q3⟩) ?r7x103q3
  case h7x103q3 => (intro w' hSw; obtain ⟨sB, zg⟩ := hSw; obtain ⟨q0, q1, q2, q3, _⟩ := box6 sB; have zq := lt_of_heap sB; go_simp; first | done | (with_reducible rfl))
  try simp only [zA, zB, zC, zD, zE]
  refine wpAnyH_ready (rs := [4]) (by kernel_rfl) (by simp) ?_
  refine AllReadyH.cons rfl (fun K hK => ?_) AllReadyH.nil
  have b9 := lv_box hT0
  go_simp
  clear b9
  refine hK.out _ _ (hS) (fun hS => ?_)
  clear hK K
  try simp only [zA, zB, zC, zD, zE]
  refine tkD (i := 8) (v := ?v8x104q3) (some 57) rfl rfl (Or.inl ⟨by kernel_rfl, ?h8x104q3⟩) ?r8x104q3
  case h8x104q3 => (intro w' hSw; obtain ⟨sB, zg⟩ := hSw; obtain ⟨q0, q1, q2, q3, _⟩ := box6 sB; have zq := lt_of_heap sB; go_simp; first | done | (with_reducible rfl))
  try simp only [zA, zB, zC, zD, zE]
  refine tkD (i := 9) (v := ?v9x105q3) (some 58) rfl rfl (Or.inl ⟨by kernel_rfl, ?h9x105q3⟩) ?r9x105q3
  case h9x105q3 => (intro w' hSw; obtain ⟨sB, zg⟩ := hSw; obtain ⟨q0, q1, q2, q3, _⟩ := box6 sB; have zq := lt_of_heap sB; go_simp; first | done | (with_reducible rfl))
  try simp only [zA, zB, zC, zD, zE]
  refine tkD (i := 10) (v := ?v10x106q3) (some 59) rfl rfl (Or.inl ⟨by kernel_rfl, ?h10x106q3⟩) ?r10x106q3
  case h10x106q3 => (intro w' hSw; obtain ⟨sB, zg⟩ := hSw; obtain ⟨q0, q1, q2, q3, _⟩ := box6 sB; have zq := lt_of_heap sB; go_simp; first | done | (with_reducible rfl))
  try simp only [zA, zB, zC, zD, zE]
  refine tkD (i := 11) (v := ?v11x107q3) (some 60) rfl rfl (Or.inl ⟨by kernel_rfl, ?h11x107q3⟩) ?r11x107q3
  case h11x107q3 => (intro w' hSw; obtain ⟨sB, zg⟩ := hSw; obtain ⟨q0, q1, q2, q3, _⟩ := box6 sB; have zq := lt_of_heap sB; go_simp; first | done | (with_reducible rfl))
  try simp only [zA, zB, zC, zD, zE]
  refine wpAnyH_ready (rs := [12]) (by kernel_rfl) (by simp) ?_
  refine AllReadyH.cons rfl (fun K hK => ?_) AllReadyH.nil
  have b9 := lv_box hT0
  go_simp
  clear b9
  rw [show IntKind.i64.wrap (sz * 8) = sz * 8 from IntWalk.i64_in _ (by omega), show IntKind.i64.wrap (r.at_ + sz * 8) = r.at_ + sz * 8 from IntWalk.i64_in _ (by omega)]
  refine set_oneR (P := K _) y0 g 20 (.int .i64 (r.at_ + sz * 8)) _ _ hT0 ?_
  intro yS hr hk
  rw [pre_set _ _ 20 14 _ rfl] at hr
  have hT2 : Lvr yS g p s t i h fA fl.length fc { r with at_ := r.at_ + sz * 8 } := hr
  refine hK.out _ _ (⟨hk.row hS.1 (by simpa using HgH.out.symm), lt_of_heap hT2⟩) (fun hS => ?_)
  clear hK K
  try simp only [zA, zB, zC, zD, zE]
  clear hr
  refine wpAnyH_done (by kernel_rfl) ?_ _
  have hkk : Keep [g] w2 yS := (keep_below hB0 [g]).trans hk
  replace HA := Lib.hid (HA.out.kept hkk (by simpa using Hgp.out.2.symm) (by simpa using Hgp.out.1.symm))
  replace HK := Lib.hid (HK.out.trans (hkk.sub (T := [g, b]) (fun i hi => by simp at hi; simp [hi])))
  replace HT := Lib.hid hT2
  clear hS hB0 hT0 hT2 hk hkk
  go_wp2_with fail
  refine leaves_cons (f := 127) (args := #[.pointer (some ⟨g, 0, none⟩)]) (by simp) (by simp [go_sem]) ?_
  refine (lvOnD_any g p s t i h fA fl.length fc { r with at_ := r.at_ + sz * 8 } .returning _ HT.out (by rw [show ({ r with at_ := r.at_ + sz * 8 } : Rn).list.n = Ls.length from Hln.out]; have := Hl8.out; omega)).mono ?_
  rintro e u' w'' ⟨rfl, rfl, hT, hk9⟩
  exact ⟨_, results_none rfl _ _ _, rfl, hT, HA.out.kept hk9 (by simpa using Hgp.out.2.symm) (by simpa using Hgp.out.1.symm), HK.out.trans (hk9.sub (T := [g, b]) (fun i hi => by simp at hi; simp [hi]))⟩
 ·skip
  go_simp
  refine k_alloc (fun yZ hZ hb => ?_)
  have hgZ : w.heap.size ≤ y0.heap.size := hB0.size
  obtain ⟨gZ, HgZ⟩ : ∃ x, x = y0.heap.size := ⟨_, rfl⟩
  have hgg : g ≠ gZ := by have := lt_of_heap hS; omega
  replace hB0 := below_only hB0 hb
  replace hA0 := hA0.below hb
  rw [← HgZ] at hZ hgZ ⊢
  clear HgZ
  refine hK.out _ _ (row_below hS hb) (fun hS => ?_)
  clear hK K
  try simp only [zA, zB, zC, zD, zE]
  clear hb
  refine wpAnyH_ready (rs := [9]) (by kernel_rfl) (by simp) ?_
  refine AllReadyH.cons rfl (fun K hK => ?_) AllReadyH.nil
  go_simp
  refine (HAt _ hA0).out.mono ?_
  rintro e' yA ⟨rfl, hb⟩
  go_simp
  replace hB0 := below_only hB0 hb
  replace hA0 := hA0.below hb
  replace hZ := row_below hZ hb
  refine hK.out _ _ (row_below hS hb) (fun hS => ?_)
  clear hK K
  try simp only [zA, zB, zC, zD, zE]
  clear hb
  refine tkD (i := 10) (v := ?v10x80) (some 5) rfl rfl (Or.inl ⟨by kernel_rfl, ?h10x80⟩) ?r10x80
  case h10x80 => (intro w' hSw; have b9 := lv_box hSw; go_simp; first | done | (with_reducible rfl))
  try simp only [zA, zB, zC, zD, zE]
  refine tkD (i := 11) (v := ?v11x81) (some 16) rfl rfl (Or.inl ⟨by kernel_rfl, ?h11x81⟩) ?r11x81
  case h11x81 => (intro w' hSw; have b9 := lv_box hSw; go_simp; first | done | (with_reducible rfl))
  try simp only [zA, zB, zC, zD, zE]
  refine tkD (i := 12) (v := ?v12x82) (some 17) rfl rfl (Or.inl ⟨by kernel_rfl, ?h12x82⟩) ?r12x82
  case h12x82 => (intro w' hSw; have b9 := lv_box hSw; go_simp; first | done | (with_reducible rfl))
  try simp only [zA, zB, zC, zD, zE]
  refine wpAnyH_ready (rs := [14]) (by kernel_rfl) (by simp) ?_
  refine AllReadyH.cons rfl (fun K hK => ?_) AllReadyH.nil
  refine step_store_row none rfl rfl 148 (.tmp 2) (.tmp 16) rfl gZ (hdCells sz sl (tN : Int) false sc ep) rfl rfl 148 _ hZ infoHd rfl (hd_one _ _ _ _ _ _) ?_
  have hw : (yA.setRow gZ (hdCells sz sl (tN : Int) false sc ep)).heap[gZ]? = some (.cells (hdCells sz sl (tN : Int) false sc ep) 148 (0, 0)) := setRow_heap _ _ _ _ _ _ hZ
  have hbw : Below w.heap.size w (yA.setRow gZ (hdCells sz sl (tN : Int) false sc ep)) := below_setRow hB0 hgZ _
  refine hK.out _ _ ((setRow_other _ _ _ _ hgg).trans hS) (fun hS => ?_)
  clear hK K
  try simp only [zA, zB, zC, zD, zE]
  refine tkD (i := 15) (v := ?v15x83) (some 3) rfl rfl (Or.inl ⟨by kernel_rfl, ?h15x83⟩) ?r15x83
  case h15x83 => (intro w' hSw; have b9 := lv_box hSw; go_simp; first | done | (with_reducible rfl))
  try simp only [zA, zB, zC, zD, zE]
  refine wpAnyH_done (by kernel_rfl) ?_ _
  clear hS hA0 hB0 hZ
  have HgH : Hid (g ≠ gZ) := Lib.hid hgg
  clear hgg
  generalize yA.setRow gZ (hdCells sz sl (tN : Int) false sc ep) = w1 at hw hbw ⊢
  have HHd := Lib.hid hw
  have hb := hbw
  replace HF := Lib.hid (HF.out.below hb)
  replace HLC := Lib.hid (Cells.below HLC.out hb)
  clear hw hbw hgZ HAt
  replace HT := Lib.hid (row_below HT.out hb)
  replace HA := Lib.hid (HA.out.below hb)
  replace HK := Lib.hid (HK.out.call hb)
  clear hb
  go_wp2_with fail
  refine wp_region_held_drew (S := fun W => Lvr W g p s t i h fA fl.length fc r ∧ W.heap[gZ]? = some (.cells (hdCells sz sl (tN : Int) false sc ep) 148 (0, 0))) (by kernel_rfl) (show Lvr w1.drew g p s t i h fA fl.length fc r ∧ w1.drew.heap[gZ]? = _ from ⟨HT.out, HHd.out⟩) ?_
  intro hS
  have hF0 : FinsAt w1.drew fA fl := HF.out.below (Below.drew (Below.refl _ _))
  have hB1 : Below w1.heap.size w1 w1.drew := Below.drew (Below.refl _ _)
  generalize w1.drew = y0 at hS hF0 hB1 ⊢
  refine tkD (i := 0) (v := ?v0x84q4) (some 18) rfl rfl (Or.inl ⟨by kernel_rfl, ?h0x84q4⟩) ?r0x84q4
  case h0x84q4 => (intro w' hSw; obtain ⟨sA, sB⟩ := hSw; have b9 := lv_box sA; obtain ⟨q0, q1, q2, q3, _⟩ := box6 sB; have zq := lt_of_heap sB; go_simp; first | done | (with_reducible rfl))
  try simp only [zA, zB, zC, zD, zE]
  refine tkD (i := 1) (v := ?v1x85q4) (some 19) rfl rfl (Or.inl ⟨by kernel_rfl, ?h1x85q4⟩) ?r1x85q4
  case h1x85q4 => (intro w' hSw; obtain ⟨sA, sB⟩ := hSw; have b9 := lv_box sA; obtain ⟨q0, q1, q2, q3, _⟩ := box6 sB; have zq := lt_of_heap sB; go_simp; first | done | (with_reducible rfl))
  try simp only [zA, zB, zC, zD, zE]
  refine tkD (i := 2) (v := ?v2x86q4) (some 20) rfl rfl (Or.inl ⟨by kernel_rfl, ?h2x86q4⟩) ?r2x86q4
  case h2x86q4 => (intro w' hSw; obtain ⟨sA, sB⟩ := hSw; have b9 := lv_box sA; obtain ⟨q0, q1, q2, q3, _⟩ := box6 sB; have zq := lt_of_heap sB; go_simp; first | done | (with_reducible rfl))
  try simp only [zA, zB, zC, zD, zE]
  refine tkD (i := 3) (v := ?v3x87q4) (some 21) rfl rfl (Or.inl ⟨by kernel_rfl, ?h3x87q4⟩) ?r3x87q4
  case h3x87q4 => (intro w' hSw; obtain ⟨sA, sB⟩ := hSw; have b9 := lv_box sA; obtain ⟨q0, q1, q2, q3, _⟩ := box6 sB; have zq := lt_of_heap sB; go_simp; first | done | (with_reducible rfl))
  try simp only [zA, zB, zC, zD, zE]
  refine tkD (i := 4) (v := ?v4x88q4) (some 22) rfl rfl (Or.inl ⟨by kernel_rfl, ?h4x88q4⟩) ?r4x88q4
  case h4x88q4 => (intro w' hSw; obtain ⟨sA, sB⟩ := hSw; have b9 := lv_box sA; obtain ⟨q0, q1, q2, q3, _⟩ := box6 sB; have zq := lt_of_heap sB; go_simp; first | done | (with_reducible rfl))
  try simp only [zA, zB, zC, zD, zE]
  refine tkD (i := 5) (v := ?v5x89q4) (some 23) rfl rfl (Or.inl ⟨by kernel_rfl, ?h5x89q4⟩) ?r5x89q4
  case h5x89q4 => (intro w' hSw; obtain ⟨sA, sB⟩ := hSw; have b9 := lv_box sA; obtain ⟨q0, q1, q2, q3, _⟩ := box6 sB; have zq := lt_of_heap sB; go_simp; first | done | (with_reducible rfl))
  try simp only [zA, zB, zC, zD, zE]
  refine tkD (i := 6) (v := ?v6x90q4) (some 24) rfl rfl (Or.inl ⟨by kernel_rfl, ?h6x90q4⟩) ?r6x90q4
  case h6x90q4 => (intro w' hSw; obtain ⟨sA, sB⟩ := hSw; have b9 := lv_box sA; obtain ⟨q0, q1, q2, q3, _⟩ := box6 sB; have zq := lt_of_heap sB; go_simp; first | done | (with_reducible rfl))
  try simp only [zA, zB, zC, zD, zE]
  refine tkD (i := 7) (v := ?v7x91q4) (some 25) rfl rfl (Or.inl ⟨by kernel_rfl, ?h7x91q4⟩) ?r7x91q4
  case h7x91q4 => (intro w' hSw; obtain ⟨sA, sB⟩ := hSw; have b9 := lv_box sA; obtain ⟨q0, q1, q2, q3, _⟩ := box6 sB; have zq := lt_of_heap sB; go_simp; first | done | (with_reducible rfl))
  try simp only [zA, zB, zC, zD, zE]
  refine tkD (i := 8) (v := ?v8x92q4) (some 26) rfl rfl (Or.inl ⟨by kernel_rfl, ?h8x92q4⟩) ?r8x92q4
  case h8x92q4 => (intro w' hSw; obtain ⟨sA, sB⟩ := hSw; have b9 := lv_box sA; obtain ⟨q0, q1, q2, q3, _⟩ := box6 sB; have zq := lt_of_heap sB; go_simp; first | done | (with_reducible rfl))
  try simp only [zA, zB, zC, zD, zE]
  refine tkD (i := 9) (v := ?v9x93q4) (some 27) rfl rfl (Or.inl ⟨by kernel_rfl, ?h9x93q4⟩) ?r9x93q4
  case h9x93q4 => (intro w' hSw; obtain ⟨sA, sB⟩ := hSw; have b9 := lv_box sA; obtain ⟨q0, q1, q2, q3, _⟩ := box6 sB; have zq := lt_of_heap sB; go_simp; first | done | (with_reducible rfl))
  try simp only [zA, zB, zC, zD, zE]
  refine wpAnyH_ready (rs := [10]) (by kernel_rfl) (by simp) ?_
  refine AllReadyH.cons rfl (fun K hK => ?_) AllReadyH.nil
  go_simp
  refine (HOf _ hF0).out.mono ?_
  rintro e' y1 ⟨rfl, e2⟩
  rw [e2]
  clear e2 y1
  go_simp
  refine hK.out _ _ (hS) (fun hS => ?_)
  clear hK K
  try simp only [zA, zB, zC, zD, zE]
  refine tkD (i := 11) (v := ?v11x94q4) (some 29) rfl rfl (Or.inl ⟨by kernel_rfl, ?h11x94q4⟩) ?r11x94q4
  case h11x94q4 => (intro w' hSw; obtain ⟨sA, sB⟩ := hSw; have b9 := lv_box sA; obtain ⟨q0, q1, q2, q3, _⟩ := box6 sB; have zq := lt_of_heap sB; go_simp; first | done | (with_reducible rfl))
  try simp only [zA, zB, zC, zD, zE]
  refine tkD (i := 12) (v := ?v12x95q4) (some 30) rfl rfl (Or.inl ⟨by kernel_rfl, ?h12x95q4⟩) ?r12x95q4
  case h12x95q4 => (intro w' hSw; obtain ⟨sA, sB⟩ := hSw; have b9 := lv_box sA; obtain ⟨q0, q1, q2, q3, _⟩ := box6 sB; have zq := lt_of_heap sB; go_simp; first | done | (with_reducible rfl))
  try simp only [zA, zB, zC, zD, zE]
  refine tkD (i := 13) (v := ?v13x96q4) (some 31) rfl rfl (Or.inl ⟨by kernel_rfl, ?h13x96q4⟩) ?r13x96q4
  case h13x96q4 => (intro w' hSw; obtain ⟨sA, sB⟩ := hSw; have b9 := lv_box sA; obtain ⟨q0, q1, q2, q3, _⟩ := box6 sB; have zq := lt_of_heap sB; go_simp; first | done | (with_reducible rfl))
  try simp only [zA, zB, zC, zD, zE]
  refine wpAnyH_done (by kernel_rfl) ?_ _
  clear hS hF0
  obtain ⟨w2, hw2⟩ : ∃ x, x = y0 := ⟨_, rfl⟩
  rw [← hw2] at hB1 ⊢
  replace HHd := Lib.hid (row_below HHd.out hB1)
  replace HLC := Lib.hid (Cells.below HLC.out hB1)
  clear hw2 HOf HF
  replace HT := Lib.hid (row_below HT.out hB1)
  replace HA := Lib.hid (HA.out.below hB1)
  replace HK := Lib.hid (HK.out.call hB1)
  have Hw2 : Hid (w.heap.size ≤ w2.heap.size) := Lib.hid HK.out.size
  have Hgw2 : Hid (g < w2.heap.size) := Lib.hid (lt_of_heap HT.out)
  clear hB1
  obtain ⟨lo, Hlo⟩ : ∃ x, Hid ((finOf fl tN).l.length = x) := ⟨_, Lib.hid rfl⟩
  rw [Hlo.out] at HLO ⊢
  have lo0 : (0 : Int) ≤ (lo : Int) := by omega
  have hlo0 : lo = 0 := HLO.out
  subst hlo0
  go_wp2_with fail
  refine wp_region_held_drew (S := fun W => W.heap[gZ]? = some (.cells (hdCells sz sl (tN : Int) false sc ep) 148 (0, 0)) ∧ g < W.heap.size) (by kernel_rfl) (show w2.drew.heap[gZ]? = _ ∧ g < w2.drew.heap.size from ⟨HHd.out, lt_of_heap HT.out⟩) ?_
  intro hS
  have hB0 : Below w2.heap.size w2 w2.drew := Below.drew (Below.refl _ _)
  have hT0 : Lvr w2.drew g p s t i h fA fl.length fc r := HT.out
  generalize w2.drew = y0 at hS hB0 hT0 ⊢
  refine tkD (i := 0) (v := ?v0x97q4) (some 49) rfl rfl (Or.inl ⟨by kernel_rfl, ?h0x97q4⟩) ?r0x97q4
  case h0x97q4 => (intro w' hSw; obtain ⟨sB, zg⟩ := hSw; obtain ⟨q0, q1, q2, q3, _⟩ := box6 sB; have zq := lt_of_heap sB; go_simp; first | done | (with_reducible rfl))
  try simp only [zA, zB, zC, zD, zE]
  refine tkD (i := 1) (v := ?v1x98q4) (some 50) rfl rfl (Or.inl ⟨by kernel_rfl, ?h1x98q4⟩) ?r1x98q4
  case h1x98q4 => (intro w' hSw; obtain ⟨sB, zg⟩ := hSw; obtain ⟨q0, q1, q2, q3, _⟩ := box6 sB; have zq := lt_of_heap sB; go_simp; first | done | (with_reducible rfl))
  try simp only [zA, zB, zC, zD, zE]
  refine tkD (i := 2) (v := ?v2x99q4) (some 51) rfl rfl (Or.inl ⟨by kernel_rfl, ?h2x99q4⟩) ?r2x99q4
  case h2x99q4 => (intro w' hSw; obtain ⟨sB, zg⟩ := hSw; obtain ⟨q0, q1, q2, q3, _⟩ := box6 sB; have zq := lt_of_heap sB; go_simp; first | done | (with_reducible rfl))
  try simp only [zA, zB, zC, zD, zE]
  refine tkD (i := 3) (v := ?v3x100q4) (some 52) rfl rfl (Or.inl ⟨by kernel_rfl, ?h3x100q4⟩) ?r3x100q4
  case h3x100q4 => (intro w' hSw; obtain ⟨sB, zg⟩ := hSw; obtain ⟨q0, q1, q2, q3, _⟩ := box6 sB; have zq := lt_of_heap sB; go_simp; first | done | (with_reducible rfl))
  try simp only [zA, zB, zC, zD, zE]
  refine tkD (i := 5) (v := ?v5x101q4) (some 54) rfl rfl (Or.inl ⟨by kernel_rfl, ?h5x101q4⟩) ?r5x101q4
  case h5x101q4 => (intro w' hSw; obtain ⟨sB, zg⟩ := hSw; obtain ⟨q0, q1, q2, q3, _⟩ := box6 sB; have zq := lt_of_heap sB; go_simp; first | done | (with_reducible rfl))
  try simp only [zA, zB, zC, zD, zE]
  refine tkD (i := 6) (v := ?v6x102q4) (some 55) rfl rfl (Or.inl ⟨by kernel_rfl, ?h6x102q4⟩) ?r6x102q4
  case h6x102q4 => (intro w' hSw; obtain ⟨sB, zg⟩ := hSw; obtain ⟨q0, q1, q2, q3, _⟩ := box6 sB; have zq := lt_of_heap sB; go_simp; first | done | (with_reducible rfl))
  try simp only [zA, zB, zC, zD, zE]
  refine tkD (i := 7) (v := ?v7x103q4) (some 56) rfl rfl (Or.inl ⟨by kernel_rfl, ?h7x103q4⟩) ?r7x103q4
  case h7x103q4 => (intro w' hSw; obtain ⟨sB, zg⟩ := hSw; obtain ⟨q0, q1, q2, q3, _⟩ := box6 sB; have zq := lt_of_heap sB; go_simp; first | done | (with_reducible rfl))
  try simp only [zA, zB, zC, zD, zE]
  refine wpAnyH_ready (rs := [4]) (by kernel_rfl) (by simp) ?_
  refine AllReadyH.cons rfl (fun K hK => ?_) AllReadyH.nil
  have b9 := lv_box hT0
  go_simp
  clear b9
  refine hK.out _ _ (hS) (fun hS => ?_)
  clear hK K
  try simp only [zA, zB, zC, zD, zE]
  refine tkD (i := 8) (v := ?v8x104q4) (some 57) rfl rfl (Or.inl ⟨by kernel_rfl, ?h8x104q4⟩) ?r8x104q4
  case h8x104q4 => (intro w' hSw; obtain ⟨sB, zg⟩ := hSw; obtain ⟨q0, q1, q2, q3, _⟩ := box6 sB; have zq := lt_of_heap sB; go_simp; first | done | (with_reducible rfl))
  try simp only [zA, zB, zC, zD, zE]
  refine tkD (i := 9) (v := ?v9x105q4) (some 58) rfl rfl (Or.inl ⟨by kernel_rfl, ?h9x105q4⟩) ?r9x105q4
  case h9x105q4 => (intro w' hSw; obtain ⟨sB, zg⟩ := hSw; obtain ⟨q0, q1, q2, q3, _⟩ := box6 sB; have zq := lt_of_heap sB; go_simp; first | done | (with_reducible rfl))
  try simp only [zA, zB, zC, zD, zE]
  refine tkD (i := 10) (v := ?v10x106q4) (some 59) rfl rfl (Or.inl ⟨by kernel_rfl, ?h10x106q4⟩) ?r10x106q4
  case h10x106q4 => (intro w' hSw; obtain ⟨sB, zg⟩ := hSw; obtain ⟨q0, q1, q2, q3, _⟩ := box6 sB; have zq := lt_of_heap sB; go_simp; first | done | (with_reducible rfl))
  try simp only [zA, zB, zC, zD, zE]
  refine tkD (i := 11) (v := ?v11x107q4) (some 60) rfl rfl (Or.inl ⟨by kernel_rfl, ?h11x107q4⟩) ?r11x107q4
  case h11x107q4 => (intro w' hSw; obtain ⟨sB, zg⟩ := hSw; obtain ⟨q0, q1, q2, q3, _⟩ := box6 sB; have zq := lt_of_heap sB; go_simp; first | done | (with_reducible rfl))
  try simp only [zA, zB, zC, zD, zE]
  refine wpAnyH_ready (rs := [12]) (by kernel_rfl) (by simp) ?_
  refine AllReadyH.cons rfl (fun K hK => ?_) AllReadyH.nil
  have b9 := lv_box hT0
  go_simp
  clear b9
  rw [show IntKind.i64.wrap (sz * 8) = sz * 8 from IntWalk.i64_in _ (by omega), show IntKind.i64.wrap (r.at_ + sz * 8) = r.at_ + sz * 8 from IntWalk.i64_in _ (by omega)]
  refine set_oneR (P := K _) y0 g 20 (.int .i64 (r.at_ + sz * 8)) _ _ hT0 ?_
  intro yS hr hk
  rw [pre_set _ _ 20 14 _ rfl] at hr
  have hT2 : Lvr yS g p s t i h fA fl.length fc { r with at_ := r.at_ + sz * 8 } := hr
  refine hK.out _ _ (⟨hk.row hS.1 (by simpa using HgH.out.symm), lt_of_heap hT2⟩) (fun hS => ?_)
  clear hK K
  try simp only [zA, zB, zC, zD, zE]
  clear hr
  refine wpAnyH_done (by kernel_rfl) ?_ _
  have hkk : Keep [g] w2 yS := (keep_below hB0 [g]).trans hk
  replace HA := Lib.hid (HA.out.kept hkk (by simpa using Hgp.out.2.symm) (by simpa using Hgp.out.1.symm))
  replace HK := Lib.hid (HK.out.trans (hkk.sub (T := [g, b]) (fun i hi => by simp at hi; simp [hi])))
  replace HT := Lib.hid hT2
  clear hS hB0 hT0 hT2 hk hkk
  go_wp2_with fail
  refine leaves_cons (f := 127) (args := #[.pointer (some ⟨g, 0, none⟩)]) (by simp) (by simp [go_sem]) ?_
  refine (lvOnD_any g p s t i h fA fl.length fc { r with at_ := r.at_ + sz * 8 } .returning _ HT.out (by rw [show ({ r with at_ := r.at_ + sz * 8 } : Rn).list.n = Ls.length from Hln.out]; have := Hl8.out; omega)).mono ?_
  rintro e u' w'' ⟨rfl, rfl, hT, hk9⟩
  exact ⟨_, results_none rfl _ _ _, rfl, hT, HA.out.kept hk9 (by simpa using Hgp.out.2.symm) (by simpa using Hgp.out.1.symm), HK.out.trans (hk9.sub (T := [g, b]) (fun i hi => by simp at hi; simp [hi]))⟩
end Go.Proofs.YtbijaloeilnjoaaGreat
