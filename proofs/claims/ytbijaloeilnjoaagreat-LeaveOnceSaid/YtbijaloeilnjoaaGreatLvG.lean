/- Layer 18: the walks of leaver's becomes, hold, open, top, clear, zero. (Printed by gen_lve.py.) -/
import Derived.Test.YtbijaloeilnjoaaGreatLvE
namespace Go.Proofs.YtbijaloeilnjoaaGreat
open Go.RowKit
set_option linter.unusedVariables false
set_option linter.unusedSimpArgs false

theorem cells_keep' {w w' : World} {T : List Nat} {A : Option Addr} {l : List Int} (h : Cells w A (l.flatMap nCells)) (k : Keep T w w') (hn : ∀ a, 0 < l.length → A = some a → a.block ∉ T) : Cells w' A (l.flatMap nCells) := by
 intro h0
 have h1 : 0 < l.length := by rw [n_len] at h0; omega
 exact Cells.kept h k (fun a ha => hn a h1 ha) h0
set_option maxRecDepth 100000 in
set_option maxHeartbeats 2000000 in
theorem lvBecomesH_any (g p : Nat) (s t i h : Int) (fA : Option Addr) (fn fc : Nat) (b : Nat) (ws : List Int) (k : Nat) (y : Int) (c c' : Ctl) (r : Rn) (w : World) (H : PlanOk s t i h) (hT : Lvr w g p s t i h fA fn fc r) (hA : Arn w p b ws) (hgb : g ≠ b) (hgp : g ≠ p) (hc : Right c) (hc' : Right c') (hn : r.next = word c) (hl : hold c = (c', 0)) (hk : ws[k]? = some y) (ha : (k : Int) = 8 * r.area) (hs : 0 ≤ r.area ∧ r.area ≤ s - 1) (S : List Int) (hsn : r.said.n = S.length) (hsl : S.length ≤ 1024) (hsc : Cells w r.said.a (S.flatMap nCells)) (hsf : ∀ z, 0 < S.length → r.said.a = some z → z.block ≠ g ∧ z.block ≠ b) :
  Calls Tryz.prog 135 #[.pointer (some ⟨g, 0, none⟩), .func (.func 136) #[] #[], .int .i64 25] w fun e w' => e = .returned (.tuple #[]) ∧ ∃ sa : Sl, Lvr w' g p s t i h fA fn fc (toldR r 25 r.n sa) ∧ sa.n = S.length ∧ Cells w' sa.a (S.flatMap nCells) ∧ (∀ z, sa.a = some z → w.heap.size ≤ z.block) ∧ Arn w' p b (ws.set k (word c')) ∧ Keep [g, b] w w' := by
 have HPt := fun w' (h1 : Lvr w' g p s t i h fA fn fc r) (h2 : Arn w' p b ws) => Lib.hid (lvPut_any g p s t i h fA fn fc b 0 (word c') ws k y r w' H h1 h2 hgb hk (by omega) (by decide) hs (word_bd hc'))
 have HU := fun w' => Lib.hid (unpackC_any hc w')
 have HLv := fun w' => Lib.hid (holdC_any hl w')
 have HPk := fun w' => Lib.hid (packC_any hc' w')
 have HTl := fun w' (h1 : Cells w' r.said.a (S.flatMap nCells)) => Lib.hid (tellG_any r 25 r.n S w' hsn hsl h1)
 have hnb : 0 ≤ r.next ∧ r.next < 18446744073709551616 := by rw [hn]; exact word_bd hc
 rw [← hn] at HU
 obtain ⟨wd, Hwd⟩ : ∃ x, Hid (word c' = x) := ⟨_, Lib.hid rfl⟩
 simp only [Hwd.out] at HPt HPk
 rw [Hwd.out]
 have HSC := Lib.hid hsc
 have HSF := Lib.hid hsf
 have HT := Lib.hid hT
 have HA := Lib.hid hA
 have Hgb := Lib.hid hgb
 have Hgp : Hid (g ≠ b ∧ g ≠ p) := Lib.hid ⟨hgb, hgp⟩
 have HK : Hid (Keep [g, b] w w) := Lib.hid (Keep.refl _ _)
 clear H hT hA hgb hgp hc hc' hn hl hk ha hs hsn hsl hsc hsf
 go_enter Tryz.func135, Tryz.ntmps135
 have v9 := lv_box HT.out
 go_wp2_with fail
 refine (HU _).out.mono ?_
 rintro e' w1 ⟨rfl, hb⟩
 clear v9
 replace HT := Lib.hid (row_below HT.out hb)
 replace HA := Lib.hid (HA.out.below hb)
 replace HK := Lib.hid (HK.out.call hb)
 clear hb
 go_upto_region 1 with (first | refine wpList_store_row rfl 61 (.tmp 6) (.tmp 17) rfl w1.heap.size #[.int .i64 c.st, .int .i64 c.n, .int .i64 c.p, .int .i64 c.ep] rfl rfl 61 _ (row_new _ _ _) infoCtl4 rfl (one4 _ _ _ _) ?_)
 refine alloc_set' w1 _ _ _ ?_
 intro w2 hr hb
 have hl1 := lt_of_heap HT.out
 have hl2 := lt_of_heap HA.out.row
 have hl3 := lt_of_heap HA.out.box
 obtain ⟨g_c, hg_c⟩ : ∃ x, x = w1.heap.size := ⟨_, rfl⟩
 rw [← hg_c] at hr ⊢
 have M_c : Hid (g_c ≠ g) := Lib.hid (by omega)
 have B_c : Hid (g_c ≠ b) := Lib.hid (by omega)
 have P_c : Hid (p ≠ g_c) := Lib.hid (by omega)
 have L_c : Hid (w.heap.size ≤ g_c) := Lib.hid (by have := HK.out.size; omega)
 have H_c := Lib.hid (show w2.heap[g_c]? = some (.cells #[.int .i64 c.st, .int .i64 c.n, .int .i64 c.p, .int .i64 c.ep] 61 (0, 0)) from hr)
 clear hr hg_c hl1 hl2 hl3
 replace HT := Lib.hid (row_below HT.out hb)
 replace HA := Lib.hid (HA.out.below hb)
 replace HK := Lib.hid (HK.out.call hb)
 clear hb
 go_wp2_with (first | refine wpList_load_row rfl 61 (.tmp 6) rfl g_c rfl 61 #[.int .i64 c.st, .int .i64 c.n, .int .i64 c.p, .int .i64 c.ep] (0, 0) _ H_c.out undCtl4 rfl infoCtl4 ?_)
 refine (HLv _).out.mono ?_
 rintro e' w3 ⟨rfl, hb⟩
 replace HT := Lib.hid (row_below HT.out hb)
 replace HA := Lib.hid (HA.out.below hb)
 replace HK := Lib.hid (HK.out.call hb)
 replace H_c := Lib.hid (row_below H_c.out hb)
 clear hb
 go_upto_region 2 with (first | refine wpList_store_row rfl 61 (.tmp 6) (.tmp 23) rfl g_c #[.int .i64 c'.st, .int .i64 c'.n, .int .i64 c'.p, .int .i64 c'.ep] rfl rfl 61 _ H_c.out infoCtl4 rfl (one4 _ _ _ _) ?_)
 refine set_row' w3 g_c _ _ _ H_c.out ?_
 intro w4 hr hk
 replace HT := Lib.hid (hk.row HT.out (by simpa using M_c.out.symm))
 replace HA := Lib.hid (HA.out.kept hk (by simpa using P_c.out) (by simpa using B_c.out.symm))
 replace HK := Lib.hid (keep_new HK.out hk L_c.out)
 replace H_c := Lib.hid hr
 clear hr hk
 go_wp2_with (first | refine wpList_load_row rfl 61 (.tmp 6) rfl g_c rfl 61 #[.int .i64 c'.st, .int .i64 c'.n, .int .i64 c'.p, .int .i64 c'.ep] (0, 0) _ H_c.out undCtl4 rfl infoCtl4 ?_)
 refine (HPk _).out.mono ?_
 rintro e' w5 ⟨rfl, hb⟩
 replace HT := Lib.hid (row_below HT.out hb)
 replace HA := Lib.hid (HA.out.below hb)
 replace HK := Lib.hid (HK.out.call hb)
 replace H_c := Lib.hid (row_below H_c.out hb)
 clear hb
 go_wp2_with fail
 refine (HPt _ HT.out HA.out).out.mono ?_
 rintro e' w6 ⟨rfl, hT1, hA, hK⟩
 clear hT1
 replace HT := Lib.hid (hK.row HT.out (by simpa using Hgb.out))
 replace HA := Lib.hid hA
 replace HK := Lib.hid (HK.out.trans (hK.sub (T := [g, b]) (fun i hi => by simp at hi; simp [hi])))
 replace H_c := Lib.hid (hK.row H_c.out (by simpa using B_c.out))
 clear hA hK
 go_upto_region 4 with fail
 have HSC6 : Hid (Cells w6 r.said.a (S.flatMap nCells)) := Lib.hid (cells_keep' HSC.out HK.out (fun z h0 hz => by have := HSF.out z h0 hz; simp; exact this))
 clear HPt HU HLv HPk H_c M_c B_c P_c L_c HSC
 refine wp_region_held_drew (S := fun _ => True) (by kernel_rfl) trivial ?_
 intro hS
 have hB0 : Below w6.heap.size w6 w6.drew := Below.drew (Below.refl _ _)
 have hT0 : Lvr w6.drew g p s t i h fA fn fc r := HT.out
 have hA0 : Arn w6.drew p b (ws.set k wd) := HA.out.drew
 have hC0 : Cells w6.drew r.said.a (S.flatMap nCells) := Cells.below HSC6.out hB0
 generalize w6.drew = y0 at hS hB0 hT0 hA0 hC0 ⊢
 refine tk (i := 0) (v := ?v0x94) (some 33) rfl rfl (Or.inl ⟨by kernel_rfl, ?h0x94⟩) ?r0x94
 case h0x94 => (intro w' hSw; go_simp; first | done | (with_reducible rfl))
 try simp only [zA, zB, zC, zD, zE]
 refine tk (i := 1) (v := ?v1x95) (some 34) rfl rfl (Or.inl ⟨by kernel_rfl, ?h1x95⟩) ?r1x95
 case h1x95 => (intro w' hSw; go_simp; first | done | (with_reducible rfl))
 try simp only [zA, zB, zC, zD, zE]
 refine tk (i := 2) (v := ?v2x96) (some 35) rfl rfl (Or.inl ⟨by kernel_rfl, ?h2x96⟩) ?r2x96
 case h2x96 => (intro w' hSw; go_simp; first | done | (with_reducible rfl))
 try simp only [zA, zB, zC, zD, zE]
 refine tk (i := 3) (v := ?v3x97) (some 36) rfl rfl (Or.inl ⟨by kernel_rfl, ?h3x97⟩) ?r3x97
 case h3x97 => (intro w' hSw; go_simp; first | done | (with_reducible rfl))
 try simp only [zA, zB, zC, zD, zE]
 refine tk (i := 5) (v := ?v5x98) (some 38) rfl rfl (Or.inl ⟨by kernel_rfl, ?h5x98⟩) ?r5x98
 case h5x98 => (intro w' hSw; go_simp; first | done | (with_reducible rfl))
 try simp only [zA, zB, zC, zD, zE]
 refine tk (i := 6) (v := ?v6x99) (some 39) rfl rfl (Or.inl ⟨by kernel_rfl, ?h6x99⟩) ?r6x99
 case h6x99 => (intro w' hSw; go_simp; first | done | (with_reducible rfl))
 try simp only [zA, zB, zC, zD, zE]
 refine tk (i := 7) (v := ?v7x100) (some 40) rfl rfl (Or.inl ⟨by kernel_rfl, ?h7x100⟩) ?r7x100
 case h7x100 => (intro w' hSw; go_simp; first | done | (with_reducible rfl))
 try simp only [zA, zB, zC, zD, zE]
 refine tk (i := 8) (v := ?v8x101) (some 41) rfl rfl (Or.inl ⟨by kernel_rfl, ?h8x101⟩) ?r8x101
 case h8x101 => (intro w' hSw; go_simp; first | done | (with_reducible rfl))
 try simp only [zA, zB, zC, zD, zE]
 refine tk (i := 9) (v := ?v9x102) (some 42) rfl rfl (Or.inl ⟨by kernel_rfl, ?h9x102⟩) ?r9x102
 case h9x102 => (intro w' hSw; go_simp; first | done | (with_reducible rfl))
 try simp only [zA, zB, zC, zD, zE]
 refine wpAnyH_ready (rs := [4, 10]) (by kernel_rfl) (by simp) ?_
 refine AllReadyH.cons rfl (fun K hK => ?_) (AllReadyH.cons rfl (fun K hK => ?_) AllReadyH.nil)
 ·skip
  refine step_load_sub (some 37) rfl rfl 43 (.tmp 36) rfl g 6 rfl 104 _ r.arr (0, 0) _ hT0 (fun j v hv => lv_sub j v hv) undRun rfl infoRun ?_
  refine hK.out _ _ (trivial) (fun hS => ?_)
  clear hK K
  try simp only [zA, zB, zC, zD, zE]
  refine wpAnyH_ready (rs := [10]) (by kernel_rfl) (by simp) ?_
  refine AllReadyH.cons rfl (fun K hK => ?_) AllReadyH.nil
  have b9 := lv_box hT0
  go_simp
  clear b9
  refine hK.out _ _ (trivial) (fun hS => ?_)
  clear hK K
  try simp only [zA, zB, zC, zD, zE]
  refine wpAnyH_ready (rs := [11]) (by kernel_rfl) (by simp) ?_
  refine AllReadyH.cons rfl (fun K hK => ?_) AllReadyH.nil
  go_simp
  refine (HTl _ hC0).out.mono ?_
  rintro e' yT ⟨sa, rfl, hs1, hs2, hs3, hb⟩
  go_simp
  have hl3 : ∀ z, sa.a = some z → w6.heap.size ≤ z.block := fun z hz => Nat.le_trans hB0.size (hs3 z hz)
  replace hB0 := below_only hB0 hb
  replace hT0 := row_below hT0 hb
  replace hA0 := hA0.below hb
  refine hK.out _ _ (trivial) (fun hS => ?_)
  clear hK K
  try simp only [zA, zB, zC, zD, zE]
  clear hb hs3 hC0
  refine tk (i := 12) (v := ?v12x103) (some 45) rfl rfl (Or.inl ⟨by kernel_rfl, ?h12x103⟩) ?r12x103
  case h12x103 => (intro w' hSw; go_simp; first | done | (with_reducible rfl))
  try simp only [zA, zB, zC, zD, zE]
  refine tk (i := 13) (v := ?v13x104) (some 46) rfl rfl (Or.inl ⟨by kernel_rfl, ?h13x104⟩) ?r13x104
  case h13x104 => (intro w' hSw; go_simp; first | done | (with_reducible rfl))
  try simp only [zA, zB, zC, zD, zE]
  refine wpAnyH_ready (rs := [14]) (by kernel_rfl) (by simp) ?_
  refine AllReadyH.cons rfl (fun K hK => ?_) AllReadyH.nil
  refine step_store_sub none rfl rfl 43 (.tmp 46) (.tmp 44) rfl g 6 (toldR r 25 r.n sa).arr rfl rfl 104 _ hT0 infoRun (by rw [pre_size]; exact Nat.le_refl _) (Rn.one _) ?_
  rw [pre_sub (lvPre p s t i h fA fn fc) r.arr (toldR r 25 r.n sa).arr 6 rfl rfl]
  refine hK.out _ _ (trivial) (fun hS => ?_)
  clear hK K
  try simp only [zA, zB, zC, zD, zE]
  refine wpAnyH_done (by kernel_rfl) ?_ _
  have hgl := lt_of_heap HT.out
  go_wp2_with fail
  go_end0
  have hr := setRow_heap _ g (preArr (lvPre p s t i h fA fn fc) r.arr) (preArr (lvPre p s t i h fA fn fc) (toldR r 25 r.n sa).arr) _ _ hT0
  have hk9 := (Keep.refl [g] yT).setRow (g := g) (.inl (by simp)) (preArr (lvPre p s t i h fA fn fc) (toldR r 25 r.n sa).arr)
  exact ⟨rfl, sa, hr, hs1, cells_setRow hs2 (fun z hz => by have := hl3 z hz; omega) _, fun z hz => Nat.le_trans HK.out.size (hl3 z hz), hA0.kept hk9 (by simpa using Hgp.out.2.symm) (by simpa using Hgp.out.1.symm), (HK.out.call hB0).trans (hk9.sub (T := [g, b]) (fun i hi => by simp at hi; simp [hi]))⟩
 ·skip
  have b9 := lv_box hT0
  go_simp
  clear b9
  refine hK.out _ _ (trivial) (fun hS => ?_)
  clear hK K
  try simp only [zA, zB, zC, zD, zE]
  refine wpAnyH_ready (rs := [4]) (by kernel_rfl) (by simp) ?_
  refine AllReadyH.cons rfl (fun K hK => ?_) AllReadyH.nil
  refine step_load_sub (some 37) rfl rfl 43 (.tmp 36) rfl g 6 rfl 104 _ r.arr (0, 0) _ hT0 (fun j v hv => lv_sub j v hv) undRun rfl infoRun ?_
  refine hK.out _ _ (trivial) (fun hS => ?_)
  clear hK K
  try simp only [zA, zB, zC, zD, zE]
  refine wpAnyH_ready (rs := [11]) (by kernel_rfl) (by simp) ?_
  refine AllReadyH.cons rfl (fun K hK => ?_) AllReadyH.nil
  go_simp
  refine (HTl _ hC0).out.mono ?_
  rintro e' yT ⟨sa, rfl, hs1, hs2, hs3, hb⟩
  go_simp
  have hl3 : ∀ z, sa.a = some z → w6.heap.size ≤ z.block := fun z hz => Nat.le_trans hB0.size (hs3 z hz)
  replace hB0 := below_only hB0 hb
  replace hT0 := row_below hT0 hb
  replace hA0 := hA0.below hb
  refine hK.out _ _ (trivial) (fun hS => ?_)
  clear hK K
  try simp only [zA, zB, zC, zD, zE]
  clear hb hs3 hC0
  refine tk (i := 12) (v := ?v12x105) (some 45) rfl rfl (Or.inl ⟨by kernel_rfl, ?h12x105⟩) ?r12x105
  case h12x105 => (intro w' hSw; go_simp; first | done | (with_reducible rfl))
  try simp only [zA, zB, zC, zD, zE]
  refine tk (i := 13) (v := ?v13x106) (some 46) rfl rfl (Or.inl ⟨by kernel_rfl, ?h13x106⟩) ?r13x106
  case h13x106 => (intro w' hSw; go_simp; first | done | (with_reducible rfl))
  try simp only [zA, zB, zC, zD, zE]
  refine wpAnyH_ready (rs := [14]) (by kernel_rfl) (by simp) ?_
  refine AllReadyH.cons rfl (fun K hK => ?_) AllReadyH.nil
  refine step_store_sub none rfl rfl 43 (.tmp 46) (.tmp 44) rfl g 6 (toldR r 25 r.n sa).arr rfl rfl 104 _ hT0 infoRun (by rw [pre_size]; exact Nat.le_refl _) (Rn.one _) ?_
  rw [pre_sub (lvPre p s t i h fA fn fc) r.arr (toldR r 25 r.n sa).arr 6 rfl rfl]
  refine hK.out _ _ (trivial) (fun hS => ?_)
  clear hK K
  try simp only [zA, zB, zC, zD, zE]
  refine wpAnyH_done (by kernel_rfl) ?_ _
  have hgl := lt_of_heap HT.out
  go_wp2_with fail
  go_end0
  have hr := setRow_heap _ g (preArr (lvPre p s t i h fA fn fc) r.arr) (preArr (lvPre p s t i h fA fn fc) (toldR r 25 r.n sa).arr) _ _ hT0
  have hk9 := (Keep.refl [g] yT).setRow (g := g) (.inl (by simp)) (preArr (lvPre p s t i h fA fn fc) (toldR r 25 r.n sa).arr)
  exact ⟨rfl, sa, hr, hs1, cells_setRow hs2 (fun z hz => by have := hl3 z hz; omega) _, fun z hz => Nat.le_trans HK.out.size (hl3 z hz), hA0.kept hk9 (by simpa using Hgp.out.2.symm) (by simpa using Hgp.out.1.symm), (HK.out.call hB0).trans (hk9.sub (T := [g, b]) (fun i hi => by simp at hi; simp [hi]))⟩
set_option maxRecDepth 100000 in
set_option maxHeartbeats 2000000 in
theorem lvBecomesO_any (g p : Nat) (s t i h : Int) (fA : Option Addr) (fn fc : Nat) (b : Nat) (ws : List Int) (k : Nat) (y : Int) (c c' : Ctl) (r : Rn) (w : World) (H : PlanOk s t i h) (hT : Lvr w g p s t i h fA fn fc r) (hA : Arn w p b ws) (hgb : g ≠ b) (hgp : g ≠ p) (hc : Right c) (hc' : Right c') (hn : r.next = word c) (hl : openC c = (c', 0)) (hk : ws[k]? = some y) (ha : (k : Int) = 8 * r.area) (hs : 0 ≤ r.area ∧ r.area ≤ s - 1) (S : List Int) (hsn : r.said.n = S.length) (hsl : S.length ≤ 1024) (hsc : Cells w r.said.a (S.flatMap nCells)) (hsf : ∀ z, 0 < S.length → r.said.a = some z → z.block ≠ g ∧ z.block ≠ b) :
  Calls Tryz.prog 135 #[.pointer (some ⟨g, 0, none⟩), .func (.func 139) #[] #[], .int .i64 0] w fun e w' => e = .returned (.tuple #[]) ∧ ∃ sa : Sl, Lvr w' g p s t i h fA fn fc (toldR r 0 r.n sa) ∧ sa.n = S.length ∧ Cells w' sa.a (S.flatMap nCells) ∧ (∀ z, sa.a = some z → w.heap.size ≤ z.block) ∧ Arn w' p b (ws.set k (word c')) ∧ Keep [g, b] w w' := by
 have HPt := fun w' (h1 : Lvr w' g p s t i h fA fn fc r) (h2 : Arn w' p b ws) => Lib.hid (lvPut_any g p s t i h fA fn fc b 0 (word c') ws k y r w' H h1 h2 hgb hk (by omega) (by decide) hs (word_bd hc'))
 have HU := fun w' => Lib.hid (unpackC_any hc w')
 have HLv := fun w' => Lib.hid (openC_any hl w')
 have HPk := fun w' => Lib.hid (packC_any hc' w')
 have HTl := fun w' (h1 : Cells w' r.said.a (S.flatMap nCells)) => Lib.hid (tellG_any r 0 r.n S w' hsn hsl h1)
 have hnb : 0 ≤ r.next ∧ r.next < 18446744073709551616 := by rw [hn]; exact word_bd hc
 rw [← hn] at HU
 obtain ⟨wd, Hwd⟩ : ∃ x, Hid (word c' = x) := ⟨_, Lib.hid rfl⟩
 simp only [Hwd.out] at HPt HPk
 rw [Hwd.out]
 have HSC := Lib.hid hsc
 have HSF := Lib.hid hsf
 have HT := Lib.hid hT
 have HA := Lib.hid hA
 have Hgb := Lib.hid hgb
 have Hgp : Hid (g ≠ b ∧ g ≠ p) := Lib.hid ⟨hgb, hgp⟩
 have HK : Hid (Keep [g, b] w w) := Lib.hid (Keep.refl _ _)
 clear H hT hA hgb hgp hc hc' hn hl hk ha hs hsn hsl hsc hsf
 go_enter Tryz.func135, Tryz.ntmps135
 have v9 := lv_box HT.out
 go_wp2_with fail
 refine (HU _).out.mono ?_
 rintro e' w1 ⟨rfl, hb⟩
 clear v9
 replace HT := Lib.hid (row_below HT.out hb)
 replace HA := Lib.hid (HA.out.below hb)
 replace HK := Lib.hid (HK.out.call hb)
 clear hb
 go_upto_region 1 with (first | refine wpList_store_row rfl 61 (.tmp 6) (.tmp 17) rfl w1.heap.size #[.int .i64 c.st, .int .i64 c.n, .int .i64 c.p, .int .i64 c.ep] rfl rfl 61 _ (row_new _ _ _) infoCtl4 rfl (one4 _ _ _ _) ?_)
 refine alloc_set' w1 _ _ _ ?_
 intro w2 hr hb
 have hl1 := lt_of_heap HT.out
 have hl2 := lt_of_heap HA.out.row
 have hl3 := lt_of_heap HA.out.box
 obtain ⟨g_c, hg_c⟩ : ∃ x, x = w1.heap.size := ⟨_, rfl⟩
 rw [← hg_c] at hr ⊢
 have M_c : Hid (g_c ≠ g) := Lib.hid (by omega)
 have B_c : Hid (g_c ≠ b) := Lib.hid (by omega)
 have P_c : Hid (p ≠ g_c) := Lib.hid (by omega)
 have L_c : Hid (w.heap.size ≤ g_c) := Lib.hid (by have := HK.out.size; omega)
 have H_c := Lib.hid (show w2.heap[g_c]? = some (.cells #[.int .i64 c.st, .int .i64 c.n, .int .i64 c.p, .int .i64 c.ep] 61 (0, 0)) from hr)
 clear hr hg_c hl1 hl2 hl3
 replace HT := Lib.hid (row_below HT.out hb)
 replace HA := Lib.hid (HA.out.below hb)
 replace HK := Lib.hid (HK.out.call hb)
 clear hb
 go_wp2_with (first | refine wpList_load_row rfl 61 (.tmp 6) rfl g_c rfl 61 #[.int .i64 c.st, .int .i64 c.n, .int .i64 c.p, .int .i64 c.ep] (0, 0) _ H_c.out undCtl4 rfl infoCtl4 ?_)
 refine (HLv _).out.mono ?_
 rintro e' w3 ⟨rfl, hb⟩
 replace HT := Lib.hid (row_below HT.out hb)
 replace HA := Lib.hid (HA.out.below hb)
 replace HK := Lib.hid (HK.out.call hb)
 replace H_c := Lib.hid (row_below H_c.out hb)
 clear hb
 go_upto_region 2 with (first | refine wpList_store_row rfl 61 (.tmp 6) (.tmp 23) rfl g_c #[.int .i64 c'.st, .int .i64 c'.n, .int .i64 c'.p, .int .i64 c'.ep] rfl rfl 61 _ H_c.out infoCtl4 rfl (one4 _ _ _ _) ?_)
 refine set_row' w3 g_c _ _ _ H_c.out ?_
 intro w4 hr hk
 replace HT := Lib.hid (hk.row HT.out (by simpa using M_c.out.symm))
 replace HA := Lib.hid (HA.out.kept hk (by simpa using P_c.out) (by simpa using B_c.out.symm))
 replace HK := Lib.hid (keep_new HK.out hk L_c.out)
 replace H_c := Lib.hid hr
 clear hr hk
 go_wp2_with (first | refine wpList_load_row rfl 61 (.tmp 6) rfl g_c rfl 61 #[.int .i64 c'.st, .int .i64 c'.n, .int .i64 c'.p, .int .i64 c'.ep] (0, 0) _ H_c.out undCtl4 rfl infoCtl4 ?_)
 refine (HPk _).out.mono ?_
 rintro e' w5 ⟨rfl, hb⟩
 replace HT := Lib.hid (row_below HT.out hb)
 replace HA := Lib.hid (HA.out.below hb)
 replace HK := Lib.hid (HK.out.call hb)
 replace H_c := Lib.hid (row_below H_c.out hb)
 clear hb
 go_wp2_with fail
 refine (HPt _ HT.out HA.out).out.mono ?_
 rintro e' w6 ⟨rfl, hT1, hA, hK⟩
 clear hT1
 replace HT := Lib.hid (hK.row HT.out (by simpa using Hgb.out))
 replace HA := Lib.hid hA
 replace HK := Lib.hid (HK.out.trans (hK.sub (T := [g, b]) (fun i hi => by simp at hi; simp [hi])))
 replace H_c := Lib.hid (hK.row H_c.out (by simpa using B_c.out))
 clear hA hK
 go_upto_region 4 with fail
 have HSC6 : Hid (Cells w6 r.said.a (S.flatMap nCells)) := Lib.hid (cells_keep' HSC.out HK.out (fun z h0 hz => by have := HSF.out z h0 hz; simp; exact this))
 clear HPt HU HLv HPk H_c M_c B_c P_c L_c HSC
 refine wp_region_held_drew (S := fun _ => True) (by kernel_rfl) trivial ?_
 intro hS
 have hB0 : Below w6.heap.size w6 w6.drew := Below.drew (Below.refl _ _)
 have hT0 : Lvr w6.drew g p s t i h fA fn fc r := HT.out
 have hA0 : Arn w6.drew p b (ws.set k wd) := HA.out.drew
 have hC0 : Cells w6.drew r.said.a (S.flatMap nCells) := Cells.below HSC6.out hB0
 generalize w6.drew = y0 at hS hB0 hT0 hA0 hC0 ⊢
 refine tk (i := 0) (v := ?v0x107) (some 33) rfl rfl (Or.inl ⟨by kernel_rfl, ?h0x107⟩) ?r0x107
 case h0x107 => (intro w' hSw; go_simp; first | done | (with_reducible rfl))
 try simp only [zA, zB, zC, zD, zE]
 refine tk (i := 1) (v := ?v1x108) (some 34) rfl rfl (Or.inl ⟨by kernel_rfl, ?h1x108⟩) ?r1x108
 case h1x108 => (intro w' hSw; go_simp; first | done | (with_reducible rfl))
 try simp only [zA, zB, zC, zD, zE]
 refine tk (i := 2) (v := ?v2x109) (some 35) rfl rfl (Or.inl ⟨by kernel_rfl, ?h2x109⟩) ?r2x109
 case h2x109 => (intro w' hSw; go_simp; first | done | (with_reducible rfl))
 try simp only [zA, zB, zC, zD, zE]
 refine tk (i := 3) (v := ?v3x110) (some 36) rfl rfl (Or.inl ⟨by kernel_rfl, ?h3x110⟩) ?r3x110
 case h3x110 => (intro w' hSw; go_simp; first | done | (with_reducible rfl))
 try simp only [zA, zB, zC, zD, zE]
 refine tk (i := 5) (v := ?v5x111) (some 38) rfl rfl (Or.inl ⟨by kernel_rfl, ?h5x111⟩) ?r5x111
 case h5x111 => (intro w' hSw; go_simp; first | done | (with_reducible rfl))
 try simp only [zA, zB, zC, zD, zE]
 refine tk (i := 6) (v := ?v6x112) (some 39) rfl rfl (Or.inl ⟨by kernel_rfl, ?h6x112⟩) ?r6x112
 case h6x112 => (intro w' hSw; go_simp; first | done | (with_reducible rfl))
 try simp only [zA, zB, zC, zD, zE]
 refine tk (i := 7) (v := ?v7x113) (some 40) rfl rfl (Or.inl ⟨by kernel_rfl, ?h7x113⟩) ?r7x113
 case h7x113 => (intro w' hSw; go_simp; first | done | (with_reducible rfl))
 try simp only [zA, zB, zC, zD, zE]
 refine tk (i := 8) (v := ?v8x114) (some 41) rfl rfl (Or.inl ⟨by kernel_rfl, ?h8x114⟩) ?r8x114
 case h8x114 => (intro w' hSw; go_simp; first | done | (with_reducible rfl))
 try simp only [zA, zB, zC, zD, zE]
 refine tk (i := 9) (v := ?v9x115) (some 42) rfl rfl (Or.inl ⟨by kernel_rfl, ?h9x115⟩) ?r9x115
 case h9x115 => (intro w' hSw; go_simp; first | done | (with_reducible rfl))
 try simp only [zA, zB, zC, zD, zE]
 refine wpAnyH_ready (rs := [4, 10]) (by kernel_rfl) (by simp) ?_
 refine AllReadyH.cons rfl (fun K hK => ?_) (AllReadyH.cons rfl (fun K hK => ?_) AllReadyH.nil)
 ·skip
  refine step_load_sub (some 37) rfl rfl 43 (.tmp 36) rfl g 6 rfl 104 _ r.arr (0, 0) _ hT0 (fun j v hv => lv_sub j v hv) undRun rfl infoRun ?_
  refine hK.out _ _ (trivial) (fun hS => ?_)
  clear hK K
  try simp only [zA, zB, zC, zD, zE]
  refine wpAnyH_ready (rs := [10]) (by kernel_rfl) (by simp) ?_
  refine AllReadyH.cons rfl (fun K hK => ?_) AllReadyH.nil
  have b9 := lv_box hT0
  go_simp
  clear b9
  refine hK.out _ _ (trivial) (fun hS => ?_)
  clear hK K
  try simp only [zA, zB, zC, zD, zE]
  refine wpAnyH_ready (rs := [11]) (by kernel_rfl) (by simp) ?_
  refine AllReadyH.cons rfl (fun K hK => ?_) AllReadyH.nil
  go_simp
  refine (HTl _ hC0).out.mono ?_
  rintro e' yT ⟨sa, rfl, hs1, hs2, hs3, hb⟩
  go_simp
  have hl3 : ∀ z, sa.a = some z → w6.heap.size ≤ z.block := fun z hz => Nat.le_trans hB0.size (hs3 z hz)
  replace hB0 := below_only hB0 hb
  replace hT0 := row_below hT0 hb
  replace hA0 := hA0.below hb
  refine hK.out _ _ (trivial) (fun hS => ?_)
  clear hK K
  try simp only [zA, zB, zC, zD, zE]
  clear hb hs3 hC0
  refine tk (i := 12) (v := ?v12x116) (some 45) rfl rfl (Or.inl ⟨by kernel_rfl, ?h12x116⟩) ?r12x116
  case h12x116 => (intro w' hSw; go_simp; first | done | (with_reducible rfl))
  try simp only [zA, zB, zC, zD, zE]
  refine tk (i := 13) (v := ?v13x117) (some 46) rfl rfl (Or.inl ⟨by kernel_rfl, ?h13x117⟩) ?r13x117
  case h13x117 => (intro w' hSw; go_simp; first | done | (with_reducible rfl))
  try simp only [zA, zB, zC, zD, zE]
  refine wpAnyH_ready (rs := [14]) (by kernel_rfl) (by simp) ?_
  refine AllReadyH.cons rfl (fun K hK => ?_) AllReadyH.nil
  refine step_store_sub none rfl rfl 43 (.tmp 46) (.tmp 44) rfl g 6 (toldR r 0 r.n sa).arr rfl rfl 104 _ hT0 infoRun (by rw [pre_size]; exact Nat.le_refl _) (Rn.one _) ?_
  rw [pre_sub (lvPre p s t i h fA fn fc) r.arr (toldR r 0 r.n sa).arr 6 rfl rfl]
  refine hK.out _ _ (trivial) (fun hS => ?_)
  clear hK K
  try simp only [zA, zB, zC, zD, zE]
  refine wpAnyH_done (by kernel_rfl) ?_ _
  have hgl := lt_of_heap HT.out
  go_wp2_with fail
  go_end0
  have hr := setRow_heap _ g (preArr (lvPre p s t i h fA fn fc) r.arr) (preArr (lvPre p s t i h fA fn fc) (toldR r 0 r.n sa).arr) _ _ hT0
  have hk9 := (Keep.refl [g] yT).setRow (g := g) (.inl (by simp)) (preArr (lvPre p s t i h fA fn fc) (toldR r 0 r.n sa).arr)
  exact ⟨rfl, sa, hr, hs1, cells_setRow hs2 (fun z hz => by have := hl3 z hz; omega) _, fun z hz => Nat.le_trans HK.out.size (hl3 z hz), hA0.kept hk9 (by simpa using Hgp.out.2.symm) (by simpa using Hgp.out.1.symm), (HK.out.call hB0).trans (hk9.sub (T := [g, b]) (fun i hi => by simp at hi; simp [hi]))⟩
 ·skip
  have b9 := lv_box hT0
  go_simp
  clear b9
  refine hK.out _ _ (trivial) (fun hS => ?_)
  clear hK K
  try simp only [zA, zB, zC, zD, zE]
  refine wpAnyH_ready (rs := [4]) (by kernel_rfl) (by simp) ?_
  refine AllReadyH.cons rfl (fun K hK => ?_) AllReadyH.nil
  refine step_load_sub (some 37) rfl rfl 43 (.tmp 36) rfl g 6 rfl 104 _ r.arr (0, 0) _ hT0 (fun j v hv => lv_sub j v hv) undRun rfl infoRun ?_
  refine hK.out _ _ (trivial) (fun hS => ?_)
  clear hK K
  try simp only [zA, zB, zC, zD, zE]
  refine wpAnyH_ready (rs := [11]) (by kernel_rfl) (by simp) ?_
  refine AllReadyH.cons rfl (fun K hK => ?_) AllReadyH.nil
  go_simp
  refine (HTl _ hC0).out.mono ?_
  rintro e' yT ⟨sa, rfl, hs1, hs2, hs3, hb⟩
  go_simp
  have hl3 : ∀ z, sa.a = some z → w6.heap.size ≤ z.block := fun z hz => Nat.le_trans hB0.size (hs3 z hz)
  replace hB0 := below_only hB0 hb
  replace hT0 := row_below hT0 hb
  replace hA0 := hA0.below hb
  refine hK.out _ _ (trivial) (fun hS => ?_)
  clear hK K
  try simp only [zA, zB, zC, zD, zE]
  clear hb hs3 hC0
  refine tk (i := 12) (v := ?v12x118) (some 45) rfl rfl (Or.inl ⟨by kernel_rfl, ?h12x118⟩) ?r12x118
  case h12x118 => (intro w' hSw; go_simp; first | done | (with_reducible rfl))
  try simp only [zA, zB, zC, zD, zE]
  refine tk (i := 13) (v := ?v13x119) (some 46) rfl rfl (Or.inl ⟨by kernel_rfl, ?h13x119⟩) ?r13x119
  case h13x119 => (intro w' hSw; go_simp; first | done | (with_reducible rfl))
  try simp only [zA, zB, zC, zD, zE]
  refine wpAnyH_ready (rs := [14]) (by kernel_rfl) (by simp) ?_
  refine AllReadyH.cons rfl (fun K hK => ?_) AllReadyH.nil
  refine step_store_sub none rfl rfl 43 (.tmp 46) (.tmp 44) rfl g 6 (toldR r 0 r.n sa).arr rfl rfl 104 _ hT0 infoRun (by rw [pre_size]; exact Nat.le_refl _) (Rn.one _) ?_
  rw [pre_sub (lvPre p s t i h fA fn fc) r.arr (toldR r 0 r.n sa).arr 6 rfl rfl]
  refine hK.out _ _ (trivial) (fun hS => ?_)
  clear hK K
  try simp only [zA, zB, zC, zD, zE]
  refine wpAnyH_done (by kernel_rfl) ?_ _
  have hgl := lt_of_heap HT.out
  go_wp2_with fail
  go_end0
  have hr := setRow_heap _ g (preArr (lvPre p s t i h fA fn fc) r.arr) (preArr (lvPre p s t i h fA fn fc) (toldR r 0 r.n sa).arr) _ _ hT0
  have hk9 := (Keep.refl [g] yT).setRow (g := g) (.inl (by simp)) (preArr (lvPre p s t i h fA fn fc) (toldR r 0 r.n sa).arr)
  exact ⟨rfl, sa, hr, hs1, cells_setRow hs2 (fun z hz => by have := hl3 z hz; omega) _, fun z hz => Nat.le_trans HK.out.size (hl3 z hz), hA0.kept hk9 (by simpa using Hgp.out.2.symm) (by simpa using Hgp.out.1.symm), (HK.out.call hB0).trans (hk9.sub (T := [g, b]) (fun i hi => by simp at hi; simp [hi]))⟩
end Go.Proofs.YtbijaloeilnjoaaGreat
