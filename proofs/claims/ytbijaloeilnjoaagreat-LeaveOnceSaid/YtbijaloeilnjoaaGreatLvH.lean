/- Layer 18: the walks of leaver's hold, open, clear, zero, top. (Printed by gen_lvh.py.) -/
import Derived.Test.YtbijaloeilnjoaaGreatLvG
namespace Go.Proofs.YtbijaloeilnjoaaGreat
open Go.RowKit
set_option linter.unusedVariables false
set_option linter.unusedSimpArgs false

set_option maxRecDepth 100000 in
set_option maxHeartbeats 2000000 in
theorem lvHold_any (g p : Nat) (s t i h : Int) (fA : Option Addr) (fn fc : Nat) (b : Nat) (ws : List Int) (k : Nat) (y : Int) (c c' : Ctl) (r : Rn) (w : World) (H : PlanOk s t i h) (hT : Lvr w g p s t i h fA fn fc r) (hA : Arn w p b ws) (hgb : g ≠ b) (hgp : g ≠ p) (hc : Right c) (hc' : Right c') (hn : r.next = word c) (hl : hold c = (c', 0)) (hk : ws[k]? = some y) (ha : (k : Int) = 8 * r.area) (hs : 0 ≤ r.area ∧ r.area ≤ s - 1) (S : List Int) (hsn : r.said.n = S.length) (hsl : S.length ≤ 1024) (hsc : Cells w r.said.a (S.flatMap nCells)) (hsf : ∀ z, 0 < S.length → r.said.a = some z → z.block ≠ g ∧ z.block ≠ b) :
  Calls Tryz.prog 93 #[.pointer (some ⟨g, 0, none⟩)] w fun e w' => e = .returned (.tuple #[]) ∧ ∃ sa : Sl, Lvr w' g p s t i h fA fn fc (toldR r 25 r.n sa) ∧ sa.n = S.length ∧ Cells w' sa.a (S.flatMap nCells) ∧ (∀ z, sa.a = some z → w.heap.size ≤ z.block) ∧ Arn w' p b (ws.set k (word c')) ∧ Keep [g, b] w w' := by
 have HB := Lib.hid (lvBecomesH_any g p s t i h fA fn fc b ws k y c c' r w H hT hA hgb hgp hc hc' hn hl hk ha hs S hsn hsl hsc hsf)
 clear H hT hA hgb hgp hc hc' hn hl hk ha hs hsn hsl hsc hsf
 go_enter Tryz.func93, Tryz.ntmps93
 go_wp2_with fail
 refine HB.out.mono ?_
 rintro e' w1 ⟨rfl, h1⟩
 have H1 := Lib.hid h1
 clear h1 HB
 go_wp2_with fail
 go_end0
 exact ⟨rfl, H1.out⟩
set_option maxRecDepth 100000 in
set_option maxHeartbeats 2000000 in
theorem lvOpen_any (g p : Nat) (s t i h : Int) (fA : Option Addr) (fn fc : Nat) (b : Nat) (ws : List Int) (k : Nat) (y : Int) (c c' : Ctl) (r : Rn) (w : World) (H : PlanOk s t i h) (hT : Lvr w g p s t i h fA fn fc r) (hA : Arn w p b ws) (hgb : g ≠ b) (hgp : g ≠ p) (hc : Right c) (hc' : Right c') (hn : r.next = word c) (hl : openC c = (c', 0)) (hk : ws[k]? = some y) (ha : (k : Int) = 8 * r.area) (hs : 0 ≤ r.area ∧ r.area ≤ s - 1) (S : List Int) (hsn : r.said.n = S.length) (hsl : S.length ≤ 1024) (hsc : Cells w r.said.a (S.flatMap nCells)) (hsf : ∀ z, 0 < S.length → r.said.a = some z → z.block ≠ g ∧ z.block ≠ b) :
  Calls Tryz.prog 97 #[.pointer (some ⟨g, 0, none⟩)] w fun e w' => e = .returned (.tuple #[]) ∧ ∃ sa : Sl, Lvr w' g p s t i h fA fn fc (toldR r 0 r.n sa) ∧ sa.n = S.length ∧ Cells w' sa.a (S.flatMap nCells) ∧ (∀ z, sa.a = some z → w.heap.size ≤ z.block) ∧ Arn w' p b (ws.set k (word c')) ∧ Keep [g, b] w w' := by
 have HB := Lib.hid (lvBecomesO_any g p s t i h fA fn fc b ws k y c c' r w H hT hA hgb hgp hc hc' hn hl hk ha hs S hsn hsl hsc hsf)
 clear H hT hA hgb hgp hc hc' hn hl hk ha hs hsn hsl hsc hsf
 go_enter Tryz.func97, Tryz.ntmps97
 go_wp2_with fail
 refine HB.out.mono ?_
 rintro e' w1 ⟨rfl, h1⟩
 have H1 := Lib.hid h1
 clear h1 HB
 go_wp2_with fail
 go_end0
 exact ⟨rfl, H1.out⟩
set_option maxRecDepth 100000 in
set_option maxHeartbeats 2000000 in
theorem lvClear_any (g p : Nat) (s t i h : Int) (fA : Option Addr) (fn fc : Nat) (b : Nat) (ws : List Int) (k : Nat) (y : Int) (r : Rn) (w : World) (H : PlanOk s t i h) (hT : Lvr w g p s t i h fA fn fc r) (hA : Arn w p b ws) (hgb : g ≠ b) (hgp : g ≠ p) (hx : 0 ≤ r.word ∧ r.word ≤ 1048576) (hk : ws[k]? = some y) (ha : (k : Int) = 8 * r.area + 4) (hs : 0 ≤ r.area ∧ r.area ≤ s - 1) :
  Calls Tryz.prog 94 #[.pointer (some ⟨g, 0, none⟩)] w fun e w' => e = .returned (.tuple #[]) ∧ Lvr w' g p s t i h fA fn fc { r with at_ := r.word, pc := zerosP r.word r.top } ∧ Arn w' p b (ws.set k 0) ∧ Keep [g, b] w w' := by
 have HP0 := Lib.hid H
 have HT := Lib.hid hT
 have HA := Lib.hid hA
 have Hgb := Lib.hid hgb
 have Hgp : Hid (g ≠ b ∧ g ≠ p) := Lib.hid ⟨hgb, hgp⟩
 have HK : Hid (Keep [g, b] w w) := Lib.hid (Keep.refl _ _)
 have HL := fun w' (h1 : Lvr w' g p s t i h fA fn fc r) (h2 : Arn w' p b ws) => Lib.hid (lvPut_any g p s t i h fA fn fc b 4 0 ws k y r w' H h1 h2 hgb hk (by omega) (by decide) hs (by decide))
 obtain ⟨x0, x1⟩ := hx
 clear hk ha hs
 clear H hT hA hgb hgp
 go_enter_defers Tryz.func94, Tryz.ntmps94
 go_wp2_with fail
 refine (HL _ HT.out HA.out).out.mono ?_
 rintro e' w1 ⟨rfl, hT1, hA, hK⟩
 clear hT1
 replace HT := Lib.hid (hK.row HT.out (by simpa using Hgb.out))
 replace HA := Lib.hid hA
 replace HK := Lib.hid (HK.out.trans (hK.sub (T := [g, b]) (fun i hi => by simp at hi; simp [hi])))
 clear hA hK
 have v9 := lv_box HT.out
 go_wp2_with fail
 clear v9
 refine set_oneR w1 g 20 (.int .i64 r.word) _ _ HT.out ?_
 intro w2 hr hk
 rw [pre_set _ _ 20 14 _ rfl] at hr
 replace HT : Hid (Lvr w2 g p s t i h fA fn fc ({ r with at_ := r.word } : Rn)) := Lib.hid hr
 replace HA := Lib.hid (HA.out.kept hk (by simpa using Hgp.out.2.symm) (by simpa using Hgp.out.1.symm))
 replace HK := Lib.hid (HK.out.trans (hk.sub (T := [g, b]) (fun i hi => by simp at hi; simp [hi])))
 clear hr hk
 refine leaves_cons (f := 137) (args := #[.pointer (some ⟨g, 0, none⟩)]) (by simp) (by simp [go_sem]) ?_
 refine (lvZerosD_any g p s t i h fA fn fc { r with at_ := r.word } .returning _ HT.out).mono ?_
 rintro e u' w'' ⟨rfl, rfl, hT, hk9⟩
 exact ⟨_, results_none rfl _ _ _, rfl, hT, HA.out.kept hk9 (by simpa using Hgp.out.2.symm) (by simpa using Hgp.out.1.symm), HK.out.trans (hk9.sub (T := [g, b]) (fun i hi => by simp at hi; simp [hi]))⟩
set_option maxRecDepth 100000 in
set_option maxHeartbeats 2000000 in
theorem lvZero_any (g p : Nat) (s t i h : Int) (fA : Option Addr) (fn fc : Nat) (b : Nat) (ws : List Int) (k : Nat) (y : Int) (r : Rn) (w : World) (H : PlanOk s t i h) (hT : Lvr w g p s t i h fA fn fc r) (hA : Arn w p b ws) (hgb : g ≠ b) (hgp : g ≠ p) (hx : 0 ≤ r.at_ ∧ r.at_ ≤ 1048576) (hk : ws[k]? = some y) (ha : r.at_ = ((k * 8 : Nat) : Int)) :
  Calls Tryz.prog 95 #[.pointer (some ⟨g, 0, none⟩)] w fun e w' => e = .returned (.tuple #[]) ∧ Lvr w' g p s t i h fA fn fc { r with at_ := r.at_ + 8, pc := zerosP (r.at_ + 8) r.top } ∧ Arn w' p b (ws.set k 0) ∧ Keep [g, b] w w' := by
 have HP0 := Lib.hid H
 have HT := Lib.hid hT
 have HA := Lib.hid hA
 have Hgb := Lib.hid hgb
 have Hgp : Hid (g ≠ b ∧ g ≠ p) := Lib.hid ⟨hgb, hgp⟩
 have HK : Hid (Keep [g, b] w w) := Lib.hid (Keep.refl _ _)
 have HL := fun w' (h2 : Arn w' p b ws) => Lib.hid (arnPut_any p b ws k y 0 w' h2 hk (by decide))
 rw [← ha] at HL
 obtain ⟨x0, x1⟩ := hx
 clear hk ha
 clear H hT hA hgb hgp
 go_enter_defers Tryz.func95, Tryz.ntmps95
 go_wp2_with fail
 refine wp_region_held_drew (S := fun W => Lvr W g p s t i h fA fn fc r) (by kernel_rfl) (show Lvr w.drew g p s t i h fA fn fc r from HT.out) ?_
 intro hS
 have hA0 : Arn w.drew p b ws := HA.out.drew
 have hK0 : Keep [b] w w.drew := (Keep.refl _ _).drew
 generalize w.drew = y0 at hS hA0 hK0 ⊢
 refine tkD (i := 0) (v := ?v0x34) (some 3) rfl rfl (Or.inl ⟨by kernel_rfl, ?h0x34⟩) ?r0x34
 case h0x34 => (intro w' hSw; have b9 := lv_box hSw; go_simp; first | done | (with_reducible rfl))
 try simp only [zA, zB, zC, zD, zE]
 refine tkD (i := 1) (v := ?v1x35) (some 4) rfl rfl (Or.inl ⟨by kernel_rfl, ?h1x35⟩) ?r1x35
 case h1x35 => (intro w' hSw; have b9 := lv_box hSw; go_simp; first | done | (with_reducible rfl))
 try simp only [zA, zB, zC, zD, zE]
 refine tkD (i := 2) (v := ?v2x36) (some 5) rfl rfl (Or.inl ⟨by kernel_rfl, ?h2x36⟩) ?r2x36
 case h2x36 => (intro w' hSw; have b9 := lv_box hSw; go_simp; first | done | (with_reducible rfl))
 try simp only [zA, zB, zC, zD, zE]
 refine tkD (i := 3) (v := ?v3x37) (some 6) rfl rfl (Or.inl ⟨by kernel_rfl, ?h3x37⟩) ?r3x37
 case h3x37 => (intro w' hSw; have b9 := lv_box hSw; go_simp; first | done | (with_reducible rfl))
 try simp only [zA, zB, zC, zD, zE]
 refine tkD (i := 4) (v := ?v4x38) (some 7) rfl rfl (Or.inl ⟨by kernel_rfl, ?h4x38⟩) ?r4x38
 case h4x38 => (intro w' hSw; have b9 := lv_box hSw; go_simp; first | done | (with_reducible rfl))
 try simp only [zA, zB, zC, zD, zE]
 refine tkD (i := 5) (v := ?v5x39) (some 8) rfl rfl (Or.inl ⟨by kernel_rfl, ?h5x39⟩) ?r5x39
 case h5x39 => (intro w' hSw; have b9 := lv_box hSw; go_simp; first | done | (with_reducible rfl))
 try simp only [zA, zB, zC, zD, zE]
 refine tkD (i := 6) (v := ?v6x40) (some 9) rfl rfl (Or.inl ⟨by kernel_rfl, ?h6x40⟩) ?r6x40
 case h6x40 => (intro w' hSw; have b9 := lv_box hSw; go_simp; first | done | (with_reducible rfl))
 try simp only [zA, zB, zC, zD, zE]
 refine tkD (i := 7) (v := ?v7x41) (some 10) rfl rfl (Or.inl ⟨by kernel_rfl, ?h7x41⟩) ?r7x41
 case h7x41 => (intro w' hSw; have b9 := lv_box hSw; go_simp; first | done | (with_reducible rfl))
 try simp only [zA, zB, zC, zD, zE]
 refine tkD (i := 8) (v := ?v8x42) (some 11) rfl rfl (Or.inl ⟨by kernel_rfl, ?h8x42⟩) ?r8x42
 case h8x42 => (intro w' hSw; have b9 := lv_box hSw; go_simp; first | done | (with_reducible rfl))
 try simp only [zA, zB, zC, zD, zE]
 refine wpAnyH_ready (rs := [9]) (by kernel_rfl) (by simp) ?_
 refine AllReadyH.cons rfl (fun K hK => ?_) AllReadyH.nil
 go_simp
 refine (HL _ hA0).out.mono ?_
 rintro e' y1 ⟨rfl, hA2, hk2⟩
 go_simp
 refine hK.out _ _ (hk2.row hS (by simpa using Hgb.out)) (fun hS => ?_)
 clear hK K
 try simp only [zA, zB, zC, zD, zE]
 replace hK0 := hK0.trans hk2
 clear hA0
 have hA0 := hA2
 clear hA2 hk2
 refine wpAnyH_done (by kernel_rfl) ?_ _
 replace HT := Lib.hid hS
 replace HA := Lib.hid hA0
 replace HK := Lib.hid (hK0.sub (T := [g, b]) (fun i hi => by simp at hi; simp [hi]))
 clear hS hA0 hK0
 have v9 := lv_box HT.out
 go_wp2_with fail
 clear v9
 refine set_oneR y1 g 20 (.int .i64 (r.at_ + 8)) _ _ HT.out ?_
 intro w2 hr hk
 rw [pre_set _ _ 20 14 _ rfl] at hr
 replace HT : Hid (Lvr w2 g p s t i h fA fn fc ({ r with at_ := r.at_ + 8 } : Rn)) := Lib.hid hr
 replace HA := Lib.hid (HA.out.kept hk (by simpa using Hgp.out.2.symm) (by simpa using Hgp.out.1.symm))
 replace HK := Lib.hid (HK.out.trans (hk.sub (T := [g, b]) (fun i hi => by simp at hi; simp [hi])))
 clear hr hk
 refine leaves_cons (f := 137) (args := #[.pointer (some ⟨g, 0, none⟩)]) (by simp) (by simp [go_sem]) ?_
 refine (lvZerosD_any g p s t i h fA fn fc { r with at_ := r.at_ + 8 } .returning _ HT.out).mono ?_
 rintro e u' w'' ⟨rfl, rfl, hT, hk9⟩
 exact ⟨_, results_none rfl _ _ _, rfl, hT, HA.out.kept hk9 (by simpa using Hgp.out.2.symm) (by simpa using Hgp.out.1.symm), HK.out.trans (hk9.sub (T := [g, b]) (fun i hi => by simp at hi; simp [hi]))⟩
set_option maxRecDepth 100000 in
set_option maxHeartbeats 2000000 in
theorem lvTop_any (g p : Nat) (s t i h : Int) (fA : Option Addr) (fn fc : Nat) (b : Nat) (ws : List Int) (k : Nat) (x : Int) (r : Rn) (w : World) (H : PlanOk s t i h) (hT : Lvr w g p s t i h fA fn fc r) (hA : Arn w p b ws) (hgb : g ≠ b) (hgp : g ≠ p) (hat : 0 ≤ r.at_ ∧ r.at_ ≤ 1048576) (hln : r.list.n ≤ 1048576) (hx : 0 ≤ x ∧ x ≤ 1048576) (hk : ws[k]? = some x) (ha : (k : Int) = 8 * r.area + 3) (hs : 0 ≤ r.area ∧ r.area ≤ s - 1) :
  Calls Tryz.prog 89 #[.pointer (some ⟨g, 0, none⟩)] w fun e w' => e = .returned (.tuple #[]) ∧ Lvr w' g p s t i h fA fn fc { r with top := r.at_ + x, pc := onP { r with top := r.at_ + x } } ∧ Arn w' p b ws ∧ Keep [g, b] w w' := by
 have HP0 := Lib.hid H
 have HT := Lib.hid hT
 have HA := Lib.hid hA
 have Hgb := Lib.hid hgb
 have Hgp : Hid (g ≠ b ∧ g ≠ p) := Lib.hid ⟨hgb, hgp⟩
 have HK : Hid (Keep [g, b] w w) := Lib.hid (Keep.refl _ _)
 have HL := fun w' (h1 : Lvr w' g p s t i h fA fn fc r) (h2 : Arn w' p b ws) => Lib.hid (lvLoad_any g p s t i h fA fn fc b 3 ws k x r w' H h1 h2 hk (by omega) (by decide) hs)
 obtain ⟨x0, x1⟩ := hx
 obtain ⟨a0, a1⟩ := hat
 have Hln := Lib.hid hln
 clear hk ha hs hln
 clear H hT hA hgb hgp
 go_enter_defers Tryz.func89, Tryz.ntmps89
 go_wp2_with fail
 refine wp_region_held_drew (S := fun W => W.cell? ⟨g, 20, none⟩ = some (.int .i64 r.at_) ∧ g < W.heap.size) (by kernel_rfl) (show w.drew.cell? _ = _ ∧ g < w.drew.heap.size from ⟨Lvr.hi (r := r) HT.out 20 14 _ rfl rfl, lt_of_heap HT.out⟩) ?_
 intro hS
 have hA0 : Arn w.drew p b ws := HA.out.drew
 have hT0 : Lvr w.drew g p s t i h fA fn fc r := HT.out
 have hB0 : Below w.heap.size w w.drew := Below.drew (Below.refl _ _)
 generalize w.drew = y0 at hS hA0 hT0 hB0 ⊢
 refine tkD (i := 0) (v := ?v0x43) (some 3) rfl rfl (Or.inl ⟨by kernel_rfl, ?h0x43⟩) ?r0x43
 case h0x43 => (intro w' hSw; obtain ⟨c20, zg⟩ := hSw; go_simp; first | done | (with_reducible rfl))
 try simp only [zA, zB, zC, zD, zE]
 refine tkD (i := 1) (v := ?v1x44) (some 4) rfl rfl (Or.inl ⟨by kernel_rfl, ?h1x44⟩) ?r1x44
 case h1x44 => (intro w' hSw; obtain ⟨c20, zg⟩ := hSw; go_simp; first | done | (with_reducible rfl))
 try simp only [zA, zB, zC, zD, zE]
 refine tkD (i := 2) (v := ?v2x45) (some 5) rfl rfl (Or.inl ⟨by kernel_rfl, ?h2x45⟩) ?r2x45
 case h2x45 => (intro w' hSw; obtain ⟨c20, zg⟩ := hSw; go_simp; first | done | (with_reducible rfl))
 try simp only [zA, zB, zC, zD, zE]
 refine tkD (i := 3) (v := ?v3x46) (some 6) rfl rfl (Or.inl ⟨by kernel_rfl, ?h3x46⟩) ?r3x46
 case h3x46 => (intro w' hSw; obtain ⟨c20, zg⟩ := hSw; go_simp; first | done | (with_reducible rfl))
 try simp only [zA, zB, zC, zD, zE]
 refine tkD (i := 4) (v := ?v4x47) (some 7) rfl rfl (Or.inl ⟨by kernel_rfl, ?h4x47⟩) ?r4x47
 case h4x47 => (intro w' hSw; obtain ⟨c20, zg⟩ := hSw; go_simp; first | done | (with_reducible rfl))
 try simp only [zA, zB, zC, zD, zE]
 refine tkD (i := 5) (v := ?v5x48) (some 8) rfl rfl (Or.inl ⟨by kernel_rfl, ?h5x48⟩) ?r5x48
 case h5x48 => (intro w' hSw; obtain ⟨c20, zg⟩ := hSw; go_simp; first | done | (with_reducible rfl))
 try simp only [zA, zB, zC, zD, zE]
 refine tkD (i := 6) (v := ?v6x49) (some 9) rfl rfl (Or.inl ⟨by kernel_rfl, ?h6x49⟩) ?r6x49
 case h6x49 => (intro w' hSw; obtain ⟨c20, zg⟩ := hSw; go_simp; first | done | (with_reducible rfl))
 try simp only [zA, zB, zC, zD, zE]
 refine wpAnyH_ready (rs := [7]) (by kernel_rfl) (by simp) ?_
 refine AllReadyH.cons rfl (fun K hK => ?_) AllReadyH.nil
 go_simp
 refine (HL _ hT0 hA0).out.mono ?_
 rintro e' y1 ⟨rfl, hb⟩
 go_simp
 replace hB0 := below_only hB0 hb
 replace hT0 := row_below hT0 hb
 replace hA0 := hA0.below hb
 refine hK.out _ _ (⟨Lvr.hi (r := r) hT0 20 14 _ rfl rfl, lt_of_heap hT0⟩) (fun hS => ?_)
 clear hK K
 try simp only [zA, zB, zC, zD, zE]
 clear hb
 refine tkD (i := 8) (v := ?v8x50) (some 11) rfl rfl (Or.inl ⟨by kernel_rfl, ?h8x50⟩) ?r8x50
 case h8x50 => (intro w' hSw; obtain ⟨c20, zg⟩ := hSw; go_simp; first | done | (with_reducible rfl))
 try simp only [zA, zB, zC, zD, zE]
 refine tkD (i := 9) (v := ?v9x51) (some 12) rfl rfl (Or.inl ⟨by kernel_rfl, ?h9x51⟩) ?r9x51
 case h9x51 => (intro w' hSw; obtain ⟨c20, zg⟩ := hSw; go_simp; first | done | (with_reducible rfl))
 try simp only [zA, zB, zC, zD, zE]
 refine tkD (i := 10) (v := ?v10x52) (some 13) rfl rfl (Or.inl ⟨by kernel_rfl, ?h10x52⟩) ?r10x52
 case h10x52 => (intro w' hSw; obtain ⟨c20, zg⟩ := hSw; go_simp; first | done | (with_reducible rfl))
 try simp only [zA, zB, zC, zD, zE]
 refine tkD (i := 11) (v := ?v11x53) (some 14) rfl rfl (Or.inl ⟨by kernel_rfl, ?h11x53⟩) ?r11x53
 case h11x53 => (intro w' hSw; obtain ⟨c20, zg⟩ := hSw; go_simp; first | done | (with_reducible rfl))
 try simp only [zA, zB, zC, zD, zE]
 refine tkD (i := 12) (v := ?v12x54) (some 15) rfl rfl (Or.inl ⟨by kernel_rfl, ?h12x54⟩) ?r12x54
 case h12x54 => (intro w' hSw; obtain ⟨c20, zg⟩ := hSw; go_simp; first | done | (with_reducible rfl))
 try simp only [zA, zB, zC, zD, zE]
 refine wpAnyH_ready (rs := [13]) (by kernel_rfl) (by simp) ?_
 refine AllReadyH.cons rfl (fun K hK => ?_) AllReadyH.nil
 have b9 := lv_box hT0
 go_simp
 clear b9
 rw [show IntKind.i64.wrap x = x from IntWalk.i64_in _ (by omega), show IntKind.i64.wrap (r.at_ + x) = r.at_ + x from IntWalk.i64_in _ (by omega)]
 refine set_oneR (P := K _) y1 g 21 (.int .i64 (r.at_ + x)) _ _ hT0 ?_
 intro y2 hr hk
 rw [pre_set _ _ 21 15 _ rfl] at hr
 have hT2 : Lvr y2 g p s t i h fA fn fc { r with top := r.at_ + x } := hr
 refine hK.out _ _ (⟨Lvr.hi (r := { r with top := r.at_ + x }) hT2 20 14 _ rfl rfl, lt_of_heap hT2⟩) (fun hS => ?_)
 clear hK K
 try simp only [zA, zB, zC, zD, zE]
 refine wpAnyH_done (by kernel_rfl) ?_ _
 replace HT := Lib.hid hT2
 replace HA := Lib.hid (hA0.kept hk (by simpa using Hgp.out.2.symm) (by simpa using Hgp.out.1.symm))
 replace HK := Lib.hid ((HK.out.call hB0).trans (hk.sub (T := [g, b]) (fun i hi => by simp at hi; simp [hi])))
 clear hS hA0 hB0 hT0 hr hT2 hk
 go_wp2_with fail
 refine leaves_cons (f := 127) (args := #[.pointer (some ⟨g, 0, none⟩)]) (by simp) (by simp [go_sem]) ?_
 refine (lvOnD_any g p s t i h fA fn fc { r with top := r.at_ + x } .returning _ HT.out Hln.out).mono ?_
 rintro e u' w'' ⟨rfl, rfl, hT, hk9⟩
 exact ⟨_, results_none rfl _ _ _, rfl, hT, HA.out.kept hk9 (by simpa using Hgp.out.2.symm) (by simpa using Hgp.out.1.symm), HK.out.trans (hk9.sub (T := [g, b]) (fun i hi => by simp at hi; simp [hi]))⟩
end Go.Proofs.YtbijaloeilnjoaaGreat
