/- Layer 18: the walks of leaver's leave, becomes, hold, open, top, clear, zero. (Printed by gen_lve.py.) -/
import Derived.Test.YtbijaloeilnjoaaGreatLvB
import Derived.Test.YtbijaloeilnjoaaGreatLvD
namespace Go.Proofs.YtbijaloeilnjoaaGreat
open Go.RowKit
set_option linter.unusedVariables false
set_option linter.unusedSimpArgs false

theorem step_load_sub {P : Program} {ops : Array Oper} {o : Oper} {a : Act} {w : World} {K : Act → World → Prop} {Q : Exit → Act → World → Prop} {E : Prop} (dd : Option Tmp) (hdd : o.dst = dd) (hgd : o.guard = none) (ty : TypeId) (x : Operand) (ho : o.op = .load ty x)
  (g off : Nat) (hx : a.eval x = .pointer (some ⟨g, off, none⟩)) (t : TypeId) (cur cs : Array Value) (fr : Nat × Nat) (d : TypeDesc) (hg : w.heap[g]? = some (.cells cur t fr))
  (hc : ∀ j v, cs[j]? = some v → cur[off + j]? = some v)
  (hu : P.underlying ty = some d) (hd : (match d with | .struct _ | .array _ _ => true | _ => false) = true) (hi : (P.info? ty).map (·.size) = some cs.size)
  (h : K (a.put dd (.agg cs)) w) : if Region.wanted o (yielded ops a.tmps) = true then Oper.wp P o a w K Q else E := by
 subst hdd
 have hw : Region.wanted o (yielded ops a.tmps) = true := by simp [Region.wanted, hgd]
 rw [if_pos hw]
 exact wp_load_sub ty x ho g off hx t cur cs fr d hg hc hu hd hi h
theorem step_store_sub {P : Program} {ops : Array Oper} {o : Oper} {a : Act} {w : World} {K : Act → World → Prop} {Q : Exit → Act → World → Prop} {E : Prop} (dd : Option Tmp) (hdd : o.dst = dd) (hgd : o.guard = none) (ty : TypeId) (x y : Operand) (ho : o.op = .store ty x y)
  (g off : Nat) (cells : Array Value) (hx : a.eval x = .pointer (some ⟨g, off, none⟩)) (hy : a.eval y = .agg cells)
  (t : TypeId) (old : Array Value) (hg : w.heap[g]? = some (.cells old t (0, 0))) (hi : (P.info? ty).map (·.size) = some cells.size)
  (hold : off + cells.size ≤ old.size) (h1 : cells.all (·.oneCell') = true)
  (h : K (a.put dd undef) (w.setRow g (subSet old off cells))) : if Region.wanted o (yielded ops a.tmps) = true then Oper.wp P o a w K Q else E := by
 subst hdd
 have hw : Region.wanted o (yielded ops a.tmps) = true := by simp [Region.wanted, hgd]
 rw [if_pos hw]
 exact wp_store_sub ty x y ho g off cells hx hy t old hg hi hold h1 h
set_option maxRecDepth 100000 in
set_option maxHeartbeats 2000000 in
theorem lvLeaveNo_any (g p : Nat) (s t i h : Int) (fA : Option Addr) (fn fc : Nat) (b : Nat) (ws : List Int) (k : Nat) (x : Int) (c : Ctl) (r : Rn) (w : World) (H : PlanOk s t i h) (hT : Lvr w g p s t i h fA fn fc r) (hA : Arn w p b ws) (hgb : g ≠ b) (hgp : g ≠ p) (hc : Right c) (hn : r.next = word c) (hw : 0 ≤ r.word ∧ r.word < 18446744073709551616) (hk : ws[k]? = some x) (ha : (k : Int) = 8 * r.area) (hs : 0 ≤ r.area ∧ r.area ≤ s - 1) (hx : x ≠ r.word) :
  Calls Tryz.prog 87 #[.pointer (some ⟨g, 0, none⟩)] w fun e w' => e = .returned (.tuple #[]) ∧ Lvr w' g p s t i h fA fn fc { r with word := 0, next := 0, pc := 15 } ∧ Arn w' p b ws ∧ Keep [g, b] w w' := by
 have HP0 := Lib.hid H
 have HT := Lib.hid hT
 have HA := Lib.hid hA
 have Hgb := Lib.hid hgb
 have Hgp : Hid (g ≠ b ∧ g ≠ p) := Lib.hid ⟨hgb, hgp⟩
 have HK : Hid (Keep [g, b] w w) := Lib.hid (Keep.refl _ _)
 have HP := fun w' (h1 : Lvr w' g p s t i h fA fn fc r) => Lib.hid (lvPlace_any g p s t i h fA fn fc 0 r w' H h1 (by decide) hs)
 have hnb : 0 ≤ r.next ∧ r.next < 18446744073709551616 := by rw [hn]; exact word_bd hc
 have HC := fun w' (h1 : Arn w' p b ws) => Lib.hid (arnCas_no p b ws k x r.word r.next w' h1 hk hx)
 have HU := fun w' => Lib.hid (unpackC_any hc w')
 have Hn := Lib.hid hn
 rw [← hn] at HU
 obtain ⟨m, Hm⟩ : ∃ m, Hid (((k * 8 : Nat) : Int) = m) := ⟨_, Lib.hid rfl⟩
 have He := show 64 * r.area + 8 * 0 = m by rw [← Hm.out]; omega
 simp only [Hm.out] at HC
 simp only [He] at HP
 clear hc hn hw hk ha hs He Hm
 clear H hT hA hgb hgp
 go_enter Tryz.func87, Tryz.ntmps87
 go_wp2_with fail
 try simp only [Act.put]
 go_cut [2, 3] from 6 to 25 (fun va vb wx => va = .bool false ∧ vb = .int .i64 0 ∧ Lvr wx g p s t i h fA fn fc r ∧ Arn wx p b ws ∧ Keep [b] w wx)
 case first =>
  as_aux_lemma =>
   refine wp_region_held_drew (S := fun W => Lvr W g p s t i h fA fn fc r) (by kernel_rfl) (show Lvr w.drew g p s t i h fA fn fc r from HT.out) ?_
   intro hS
   have hA0 : Arn w.drew p b ws := HA.out.drew
   have hK0 : Keep [b] w w.drew := (Keep.refl _ _).drew
   generalize w.drew = y0 at hS hA0 hK0 ⊢
   refine tk (i := 0) (v := ?v0x34) (some 7) rfl rfl (Or.inl ⟨by kernel_rfl, ?h0x34⟩) ?r0x34
   case h0x34 => (intro w' hSw; have b9 := lv_box hSw; go_simp; first | done | (with_reducible rfl))
   try simp only [zA, zB, zC, zD, zE]
   refine tk (i := 1) (v := ?v1x35) (some 8) rfl rfl (Or.inl ⟨by kernel_rfl, ?h1x35⟩) ?r1x35
   case h1x35 => (intro w' hSw; have b9 := lv_box hSw; go_simp; first | done | (with_reducible rfl))
   try simp only [zA, zB, zC, zD, zE]
   refine tk (i := 2) (v := ?v2x36) (some 9) rfl rfl (Or.inl ⟨by kernel_rfl, ?h2x36⟩) ?r2x36
   case h2x36 => (intro w' hSw; have b9 := lv_box hSw; go_simp; first | done | (with_reducible rfl))
   try simp only [zA, zB, zC, zD, zE]
   refine tk (i := 3) (v := ?v3x37) (some 10) rfl rfl (Or.inl ⟨by kernel_rfl, ?h3x37⟩) ?r3x37
   case h3x37 => (intro w' hSw; have b9 := lv_box hSw; go_simp; first | done | (with_reducible rfl))
   try simp only [zA, zB, zC, zD, zE]
   refine tk (i := 4) (v := ?v4x38) (some 11) rfl rfl (Or.inl ⟨by kernel_rfl, ?h4x38⟩) ?r4x38
   case h4x38 => (intro w' hSw; have b9 := lv_box hSw; go_simp; first | done | (with_reducible rfl))
   try simp only [zA, zB, zC, zD, zE]
   refine tk (i := 6) (v := ?v6x39) (some 13) rfl rfl (Or.inl ⟨by kernel_rfl, ?h6x39⟩) ?r6x39
   case h6x39 => (intro w' hSw; have b9 := lv_box hSw; go_simp; first | done | (with_reducible rfl))
   try simp only [zA, zB, zC, zD, zE]
   refine tk (i := 7) (v := ?v7x40) (some 14) rfl rfl (Or.inl ⟨by kernel_rfl, ?h7x40⟩) ?r7x40
   case h7x40 => (intro w' hSw; have b9 := lv_box hSw; go_simp; first | done | (with_reducible rfl))
   try simp only [zA, zB, zC, zD, zE]
   refine tk (i := 8) (v := ?v8x41) (some 15) rfl rfl (Or.inl ⟨by kernel_rfl, ?h8x41⟩) ?r8x41
   case h8x41 => (intro w' hSw; have b9 := lv_box hSw; go_simp; first | done | (with_reducible rfl))
   try simp only [zA, zB, zC, zD, zE]
   refine tk (i := 9) (v := ?v9x42) (some 16) rfl rfl (Or.inl ⟨by kernel_rfl, ?h9x42⟩) ?r9x42
   case h9x42 => (intro w' hSw; have b9 := lv_box hSw; go_simp; first | done | (with_reducible rfl))
   try simp only [zA, zB, zC, zD, zE]
   refine tk (i := 10) (v := ?v10x43) (some 17) rfl rfl (Or.inl ⟨by kernel_rfl, ?h10x43⟩) ?r10x43
   case h10x43 => (intro w' hSw; have b9 := lv_box hSw; go_simp; first | done | (with_reducible rfl))
   try simp only [zA, zB, zC, zD, zE]
   refine tk (i := 11) (v := ?v11x44) (some 18) rfl rfl (Or.inl ⟨by kernel_rfl, ?h11x44⟩) ?r11x44
   case h11x44 => (intro w' hSw; have b9 := lv_box hSw; go_simp; first | done | (with_reducible rfl))
   try simp only [zA, zB, zC, zD, zE]
   refine tk (i := 12) (v := ?v12x45) (some 19) rfl rfl (Or.inl ⟨by kernel_rfl, ?h12x45⟩) ?r12x45
   case h12x45 => (intro w' hSw; have b9 := lv_box hSw; go_simp; first | done | (with_reducible rfl))
   try simp only [zA, zB, zC, zD, zE]
   refine tk (i := 13) (v := ?v13x46) (some 20) rfl rfl (Or.inl ⟨by kernel_rfl, ?h13x46⟩) ?r13x46
   case h13x46 => (intro w' hSw; have b9 := lv_box hSw; go_simp; first | done | (with_reducible rfl))
   try simp only [zA, zB, zC, zD, zE]
   refine tk (i := 14) (v := ?v14x47) (some 21) rfl rfl (Or.inl ⟨by kernel_rfl, ?h14x47⟩) ?r14x47
   case h14x47 => (intro w' hSw; have b9 := lv_box hSw; go_simp; first | done | (with_reducible rfl))
   try simp only [zA, zB, zC, zD, zE]
   refine tk (i := 15) (v := ?v15x48) (some 22) rfl rfl (Or.inl ⟨by kernel_rfl, ?h15x48⟩) ?r15x48
   case h15x48 => (intro w' hSw; have b9 := lv_box hSw; go_simp; first | done | (with_reducible rfl))
   try simp only [zA, zB, zC, zD, zE]
   refine wpAnyH_ready (rs := [5]) (by kernel_rfl) (by simp) ?_
   refine AllReadyH.cons rfl (fun K hK => ?_) AllReadyH.nil
   go_simp
   refine (HP _ hS).out.mono ?_
   rintro e' y1 ⟨rfl, hb⟩
   go_simp
   replace hK0 := hK0.call hb
   replace hA0 := hA0.below hb
   refine hK.out _ _ (row_below hS hb) (fun hS => ?_)
   clear hK K
   try simp only [zA, zB, zC, zD, zE]
   clear hb
   refine wpAnyH_ready (rs := [16]) (by kernel_rfl) (by simp) ?_
   refine AllReadyH.cons rfl (fun K hK => ?_) AllReadyH.nil
   go_simp
   refine (HC _ hA0).out.mono ?_
   rintro e' y2 ⟨rfl, e2⟩
   rw [e2]
   clear e2 y2
   go_simp
   refine hK.out _ _ (hS) (fun hS => ?_)
   clear hK K
   try simp only [zA, zB, zC, zD, zE]
   refine tk (i := 17) (v := ?v17x49) (some 6) rfl rfl (Or.inl ⟨by kernel_rfl, ?h17x49⟩) ?r17x49
   case h17x49 => (intro w' hSw; have b9 := lv_box hSw; go_simp; first | done | (with_reducible rfl))
   try simp only [zA, zB, zC, zD, zE]
   refine tk (i := 18) (v := ?v18x50) (some 24) rfl rfl (Or.inl ⟨by kernel_rfl, ?h18x50⟩) ?r18x50
   case h18x50 => (intro w' hSw; have b9 := lv_box hSw; go_simp; first | done | (with_reducible rfl))
   try simp only [zA, zB, zC, zD, zE]
   refine tk (i := 19) (v := ?v19x51) (some 25) rfl rfl (Or.inl ⟨by kernel_rfl, ?h19x51⟩) ?r19x51
   case h19x51 => (intro w' hSw; have b9 := lv_box hSw; go_simp; first | done | (with_reducible rfl))
   try simp only [zA, zB, zC, zD, zE]
   refine tk (i := 20) (v := ?v20x52) (some 2) rfl rfl (Or.inl ⟨by kernel_rfl, ?h20x52⟩) ?r20x52
   case h20x52 => (intro w' hSw; have b9 := lv_box hSw; go_simp; first | done | (with_reducible rfl))
   try simp only [zA, zB, zC, zD, zE]
   refine tk (i := 21) (v := ?v21x53) (some 3) rfl rfl (Or.inl ⟨by kernel_rfl, ?h21x53⟩) ?r21x53
   case h21x53 => (intro w' hSw; have b9 := lv_box hSw; go_simp; first | done | (with_reducible rfl))
   try simp only [zA, zB, zC, zD, zE]
   refine wpAnyH_done (by kernel_rfl) ?_ _
   go_wp2_with fail
   go_meet
   exact ⟨rfl, rfl, hS, hA0, hK0⟩
 case rest =>
  obtain ⟨rfl, rfl, hT, hA, hK⟩ := hcut
  obtain ⟨w1, hwx⟩ : ∃ x, x = wc := ⟨_, rfl⟩
  subst hwx
  replace HT := Lib.hid hT
  replace HA := Lib.hid hA
  replace HK := Lib.hid (hK.sub (T := [g, b]) (fun i hi => by simp at hi; simp [hi]))
  clear hT hA hK
  have v9 := lv_box HT.out
  go_wp2_with fail
  refine (HU _).out.mono ?_
  rintro e' w3 ⟨rfl, hb⟩
  clear v9
  replace HT := Lib.hid (row_below HT.out hb)
  replace HA := Lib.hid (HA.out.below hb)
  replace HK := Lib.hid (HK.out.call hb)
  clear hb
  go_upto_region 3 with (first | refine wpList_store_row rfl 61 (.tmp 4) (.tmp 33) rfl w3.heap.size #[.int .i64 c.st, .int .i64 c.n, .int .i64 c.p, .int .i64 c.ep] rfl rfl 61 _ (row_new _ _ _) infoCtl4 rfl (one4 _ _ _ _) ?_)
  refine alloc_set' w3 _ _ _ ?_
  intro w4 hr hb
  have hl1 := lt_of_heap HT.out
  have hl2 := lt_of_heap HA.out.row
  have hl3 := lt_of_heap HA.out.box
  obtain ⟨g_c, hg_c⟩ : ∃ x, x = w3.heap.size := ⟨_, rfl⟩
  rw [← hg_c] at hr ⊢
  have M_c : Hid (g_c ≠ g) := Lib.hid (by omega)
  have B_c : Hid (g_c ≠ b) := Lib.hid (by omega)
  have P_c : Hid (p ≠ g_c) := Lib.hid (by omega)
  have L_c : Hid (w.heap.size ≤ g_c) := Lib.hid (by have := HK.out.size; omega)
  have H_c := Lib.hid (show w4.heap[g_c]? = some (.cells #[.int .i64 c.st, .int .i64 c.n, .int .i64 c.p, .int .i64 c.ep] 61 (0, 0)) from hr)
  clear hr hg_c hl1 hl2 hl3
  replace HT := Lib.hid (row_below HT.out hb)
  replace HA := Lib.hid (HA.out.below hb)
  replace HK := Lib.hid (HK.out.call hb)
  clear hb
  have v9 := lv_box HT.out
  go_wp2_with fail
  clear v9
  go_end0
  have hk9 := ((((Keep.refl [g] w4).setCell (p := ⟨g, 18, none⟩) (.inl (by simp)) (.int .u64 0)).setCell (p := ⟨g, 19, none⟩) (.inl (by simp)) (.int .u64 0)).setCell (p := ⟨g, 13, none⟩) (.inl (by simp)) (.int .i64 15))
  exact ⟨rfl, (Lvr.set_pc (Lvr.set_next (Lvr.set_word HT.out 0) 0) 15), HA.out.kept hk9 (by simpa using Hgp.out.2.symm) (by simpa using Hgp.out.1.symm), HK.out.trans (hk9.sub (T := [g, b]) (fun i hi => by simp at hi; simp [hi]))⟩
set_option maxRecDepth 100000 in
set_option maxHeartbeats 2000000 in
theorem lvLeaveDrain_any (g p : Nat) (s t i h : Int) (fA : Option Addr) (fn fc : Nat) (b : Nat) (ws : List Int) (k : Nat) (x : Int) (c : Ctl) (r : Rn) (w : World) (H : PlanOk s t i h) (hT : Lvr w g p s t i h fA fn fc r) (hA : Arn w p b ws) (hgb : g ≠ b) (hgp : g ≠ p) (hc : Right c) (hn : r.next = word c) (hw : 0 ≤ r.word ∧ r.word < 18446744073709551616) (hk : ws[k]? = some x) (ha : (k : Int) = 8 * r.area) (hs : 0 ≤ r.area ∧ r.area ≤ s - 1) (hx : x = r.word) (h3 : c.st = 3) :
  Calls Tryz.prog 87 #[.pointer (some ⟨g, 0, none⟩)] w fun e w' => e = .returned (.tuple #[]) ∧ Lvr w' g p s t i h fA fn fc { r with pc := 17 } ∧ Arn w' p b (ws.set k r.next) ∧ Keep [g, b] w w' := by
 have HP0 := Lib.hid H
 have HT := Lib.hid hT
 have HA := Lib.hid hA
 have Hgb := Lib.hid hgb
 have Hgp : Hid (g ≠ b ∧ g ≠ p) := Lib.hid ⟨hgb, hgp⟩
 have HK : Hid (Keep [g, b] w w) := Lib.hid (Keep.refl _ _)
 have HP := fun w' (h1 : Lvr w' g p s t i h fA fn fc r) => Lib.hid (lvPlace_any g p s t i h fA fn fc 0 r w' H h1 (by decide) hs)
 have hnb : 0 ≤ r.next ∧ r.next < 18446744073709551616 := by rw [hn]; exact word_bd hc
 have HC := fun w' (h1 : Arn w' p b ws) => Lib.hid (arnCas_yes p b ws k r.word r.next w' h1 (by rw [← hx]; exact hk) hnb)
 have HU := fun w' => Lib.hid (unpackC_any hc w')
 have Hn := Lib.hid hn
 rw [← hn] at HU
 obtain ⟨m, Hm⟩ : ∃ m, Hid (((k * 8 : Nat) : Int) = m) := ⟨_, Lib.hid rfl⟩
 have He := show 64 * r.area + 8 * 0 = m by rw [← Hm.out]; omega
 simp only [Hm.out] at HC
 simp only [He] at HP
 have Hst := Lib.hid h3
 clear h3
 clear hc hn hw hk ha hs He Hm
 clear H hT hA hgb hgp
 go_enter Tryz.func87, Tryz.ntmps87
 go_wp2_with fail
 try simp only [Act.put]
 go_cut [2, 3] from 6 to 25 (fun va vb wx => va = .bool true ∧ vb = .int .i64 0 ∧ Lvr wx g p s t i h fA fn fc r ∧ Arn wx p b (ws.set k r.next) ∧ Keep [b] w wx)
 case first =>
  as_aux_lemma =>
   refine wp_region_held_drew (S := fun W => Lvr W g p s t i h fA fn fc r) (by kernel_rfl) (show Lvr w.drew g p s t i h fA fn fc r from HT.out) ?_
   intro hS
   have hA0 : Arn w.drew p b ws := HA.out.drew
   have hK0 : Keep [b] w w.drew := (Keep.refl _ _).drew
   generalize w.drew = y0 at hS hA0 hK0 ⊢
   refine tk (i := 0) (v := ?v0x54) (some 7) rfl rfl (Or.inl ⟨by kernel_rfl, ?h0x54⟩) ?r0x54
   case h0x54 => (intro w' hSw; have b9 := lv_box hSw; go_simp; first | done | (with_reducible rfl))
   try simp only [zA, zB, zC, zD, zE]
   refine tk (i := 1) (v := ?v1x55) (some 8) rfl rfl (Or.inl ⟨by kernel_rfl, ?h1x55⟩) ?r1x55
   case h1x55 => (intro w' hSw; have b9 := lv_box hSw; go_simp; first | done | (with_reducible rfl))
   try simp only [zA, zB, zC, zD, zE]
   refine tk (i := 2) (v := ?v2x56) (some 9) rfl rfl (Or.inl ⟨by kernel_rfl, ?h2x56⟩) ?r2x56
   case h2x56 => (intro w' hSw; have b9 := lv_box hSw; go_simp; first | done | (with_reducible rfl))
   try simp only [zA, zB, zC, zD, zE]
   refine tk (i := 3) (v := ?v3x57) (some 10) rfl rfl (Or.inl ⟨by kernel_rfl, ?h3x57⟩) ?r3x57
   case h3x57 => (intro w' hSw; have b9 := lv_box hSw; go_simp; first | done | (with_reducible rfl))
   try simp only [zA, zB, zC, zD, zE]
   refine tk (i := 4) (v := ?v4x58) (some 11) rfl rfl (Or.inl ⟨by kernel_rfl, ?h4x58⟩) ?r4x58
   case h4x58 => (intro w' hSw; have b9 := lv_box hSw; go_simp; first | done | (with_reducible rfl))
   try simp only [zA, zB, zC, zD, zE]
   refine tk (i := 6) (v := ?v6x59) (some 13) rfl rfl (Or.inl ⟨by kernel_rfl, ?h6x59⟩) ?r6x59
   case h6x59 => (intro w' hSw; have b9 := lv_box hSw; go_simp; first | done | (with_reducible rfl))
   try simp only [zA, zB, zC, zD, zE]
   refine tk (i := 7) (v := ?v7x60) (some 14) rfl rfl (Or.inl ⟨by kernel_rfl, ?h7x60⟩) ?r7x60
   case h7x60 => (intro w' hSw; have b9 := lv_box hSw; go_simp; first | done | (with_reducible rfl))
   try simp only [zA, zB, zC, zD, zE]
   refine tk (i := 8) (v := ?v8x61) (some 15) rfl rfl (Or.inl ⟨by kernel_rfl, ?h8x61⟩) ?r8x61
   case h8x61 => (intro w' hSw; have b9 := lv_box hSw; go_simp; first | done | (with_reducible rfl))
   try simp only [zA, zB, zC, zD, zE]
   refine tk (i := 9) (v := ?v9x62) (some 16) rfl rfl (Or.inl ⟨by kernel_rfl, ?h9x62⟩) ?r9x62
   case h9x62 => (intro w' hSw; have b9 := lv_box hSw; go_simp; first | done | (with_reducible rfl))
   try simp only [zA, zB, zC, zD, zE]
   refine tk (i := 10) (v := ?v10x63) (some 17) rfl rfl (Or.inl ⟨by kernel_rfl, ?h10x63⟩) ?r10x63
   case h10x63 => (intro w' hSw; have b9 := lv_box hSw; go_simp; first | done | (with_reducible rfl))
   try simp only [zA, zB, zC, zD, zE]
   refine tk (i := 11) (v := ?v11x64) (some 18) rfl rfl (Or.inl ⟨by kernel_rfl, ?h11x64⟩) ?r11x64
   case h11x64 => (intro w' hSw; have b9 := lv_box hSw; go_simp; first | done | (with_reducible rfl))
   try simp only [zA, zB, zC, zD, zE]
   refine tk (i := 12) (v := ?v12x65) (some 19) rfl rfl (Or.inl ⟨by kernel_rfl, ?h12x65⟩) ?r12x65
   case h12x65 => (intro w' hSw; have b9 := lv_box hSw; go_simp; first | done | (with_reducible rfl))
   try simp only [zA, zB, zC, zD, zE]
   refine tk (i := 13) (v := ?v13x66) (some 20) rfl rfl (Or.inl ⟨by kernel_rfl, ?h13x66⟩) ?r13x66
   case h13x66 => (intro w' hSw; have b9 := lv_box hSw; go_simp; first | done | (with_reducible rfl))
   try simp only [zA, zB, zC, zD, zE]
   refine tk (i := 14) (v := ?v14x67) (some 21) rfl rfl (Or.inl ⟨by kernel_rfl, ?h14x67⟩) ?r14x67
   case h14x67 => (intro w' hSw; have b9 := lv_box hSw; go_simp; first | done | (with_reducible rfl))
   try simp only [zA, zB, zC, zD, zE]
   refine tk (i := 15) (v := ?v15x68) (some 22) rfl rfl (Or.inl ⟨by kernel_rfl, ?h15x68⟩) ?r15x68
   case h15x68 => (intro w' hSw; have b9 := lv_box hSw; go_simp; first | done | (with_reducible rfl))
   try simp only [zA, zB, zC, zD, zE]
   refine wpAnyH_ready (rs := [5]) (by kernel_rfl) (by simp) ?_
   refine AllReadyH.cons rfl (fun K hK => ?_) AllReadyH.nil
   go_simp
   refine (HP _ hS).out.mono ?_
   rintro e' y1 ⟨rfl, hb⟩
   go_simp
   replace hK0 := hK0.call hb
   replace hA0 := hA0.below hb
   refine hK.out _ _ (row_below hS hb) (fun hS => ?_)
   clear hK K
   try simp only [zA, zB, zC, zD, zE]
   clear hb
   refine wpAnyH_ready (rs := [16]) (by kernel_rfl) (by simp) ?_
   refine AllReadyH.cons rfl (fun K hK => ?_) AllReadyH.nil
   go_simp
   refine (HC _ hA0).out.mono ?_
   rintro e' y2 ⟨rfl, hA2, hk2⟩
   go_simp
   replace hK0 := hK0.trans hk2
   clear hA0
   have hA0 := hA2
   refine hK.out _ _ (hk2.row hS (by simpa using Hgb.out)) (fun hS => ?_)
   clear hK K
   try simp only [zA, zB, zC, zD, zE]
   clear hA2 hk2
   refine tk (i := 17) (v := ?v17x69) (some 6) rfl rfl (Or.inl ⟨by kernel_rfl, ?h17x69⟩) ?r17x69
   case h17x69 => (intro w' hSw; have b9 := lv_box hSw; go_simp; first | done | (with_reducible rfl))
   try simp only [zA, zB, zC, zD, zE]
   refine tk (i := 18) (v := ?v18x70) (some 24) rfl rfl (Or.inl ⟨by kernel_rfl, ?h18x70⟩) ?r18x70
   case h18x70 => (intro w' hSw; have b9 := lv_box hSw; go_simp; first | done | (with_reducible rfl))
   try simp only [zA, zB, zC, zD, zE]
   refine tk (i := 19) (v := ?v19x71) (some 25) rfl rfl (Or.inl ⟨by kernel_rfl, ?h19x71⟩) ?r19x71
   case h19x71 => (intro w' hSw; have b9 := lv_box hSw; go_simp; first | done | (with_reducible rfl))
   try simp only [zA, zB, zC, zD, zE]
   refine tk (i := 20) (v := ?v20x72) (some 2) rfl rfl (Or.inl ⟨by kernel_rfl, ?h20x72⟩) ?r20x72
   case h20x72 => (intro w' hSw; have b9 := lv_box hSw; go_simp; first | done | (with_reducible rfl))
   try simp only [zA, zB, zC, zD, zE]
   refine tk (i := 21) (v := ?v21x73) (some 3) rfl rfl (Or.inl ⟨by kernel_rfl, ?h21x73⟩) ?r21x73
   case h21x73 => (intro w' hSw; have b9 := lv_box hSw; go_simp; first | done | (with_reducible rfl))
   try simp only [zA, zB, zC, zD, zE]
   refine wpAnyH_done (by kernel_rfl) ?_ _
   go_wp2_with fail
   go_meet
   exact ⟨rfl, rfl, hS, hA0, hK0⟩
 case rest =>
  obtain ⟨rfl, rfl, hT, hA, hK⟩ := hcut
  obtain ⟨w1, hwx⟩ : ∃ x, x = wc := ⟨_, rfl⟩
  subst hwx
  replace HT := Lib.hid hT
  replace HA := Lib.hid hA
  replace HK := Lib.hid (hK.sub (T := [g, b]) (fun i hi => by simp at hi; simp [hi]))
  clear hT hA hK
  have v9 := lv_box HT.out
  go_wp2_with fail
  refine (HU _).out.mono ?_
  rintro e' w3 ⟨rfl, hb⟩
  clear v9
  replace HT := Lib.hid (row_below HT.out hb)
  replace HA := Lib.hid (HA.out.below hb)
  replace HK := Lib.hid (HK.out.call hb)
  clear hb
  go_upto_region 3 with (first | refine wpList_store_row rfl 61 (.tmp 4) (.tmp 33) rfl w3.heap.size #[.int .i64 c.st, .int .i64 c.n, .int .i64 c.p, .int .i64 c.ep] rfl rfl 61 _ (row_new _ _ _) infoCtl4 rfl (one4 _ _ _ _) ?_)
  refine alloc_set' w3 _ _ _ ?_
  intro w4 hr hb
  have hl1 := lt_of_heap HT.out
  have hl2 := lt_of_heap HA.out.row
  have hl3 := lt_of_heap HA.out.box
  obtain ⟨g_c, hg_c⟩ : ∃ x, x = w3.heap.size := ⟨_, rfl⟩
  rw [← hg_c] at hr ⊢
  have M_c : Hid (g_c ≠ g) := Lib.hid (by omega)
  have B_c : Hid (g_c ≠ b) := Lib.hid (by omega)
  have P_c : Hid (p ≠ g_c) := Lib.hid (by omega)
  have L_c : Hid (w.heap.size ≤ g_c) := Lib.hid (by have := HK.out.size; omega)
  have H_c := Lib.hid (show w4.heap[g_c]? = some (.cells #[.int .i64 c.st, .int .i64 c.n, .int .i64 c.p, .int .i64 c.ep] 61 (0, 0)) from hr)
  clear hr hg_c hl1 hl2 hl3
  replace HT := Lib.hid (row_below HT.out hb)
  replace HA := Lib.hid (HA.out.below hb)
  replace HK := Lib.hid (HK.out.call hb)
  clear hb
  obtain ⟨x0, x1, x2, x3, _⟩ := box4 H_c.out
  have zc := lt_of_heap H_c.out
  rw [Hst.out] at x0
  have v9 := lv_box HT.out
  go_wp2_with fail
  clear x0 x1 x2 x3 zc
  clear v9
  go_end0
  have hk9 := ((Keep.refl [g] w4).setCell (p := ⟨g, 13, none⟩) (.inl (by simp)) (.int .i64 17))
  exact ⟨rfl, (Lvr.set_pc HT.out 17), HA.out.kept hk9 (by simpa using Hgp.out.2.symm) (by simpa using Hgp.out.1.symm), HK.out.trans (hk9.sub (T := [g, b]) (fun i hi => by simp at hi; simp [hi]))⟩
set_option maxRecDepth 100000 in
set_option maxHeartbeats 2000000 in
theorem lvLeaveOk_any (g p : Nat) (s t i h : Int) (fA : Option Addr) (fn fc : Nat) (b : Nat) (ws : List Int) (k : Nat) (x : Int) (c : Ctl) (r : Rn) (w : World) (H : PlanOk s t i h) (hT : Lvr w g p s t i h fA fn fc r) (hA : Arn w p b ws) (hgb : g ≠ b) (hgp : g ≠ p) (hc : Right c) (hn : r.next = word c) (hw : 0 ≤ r.word ∧ r.word < 18446744073709551616) (hk : ws[k]? = some x) (ha : (k : Int) = 8 * r.area) (hs : 0 ≤ r.area ∧ r.area ≤ s - 1) (hx : x = r.word) (h3 : c.st ≠ 3) (hsd : r.said = noS) :
  Calls Tryz.prog 87 #[.pointer (some ⟨g, 0, none⟩)] w fun e w' => e = .returned (.tuple #[]) ∧ Lvr w' g p s t i h fA fn fc (toldR r 0 0 noS) ∧ Arn w' p b (ws.set k r.next) ∧ Keep [g, b] w w' := by
 have HP0 := Lib.hid H
 have HT := Lib.hid hT
 have HA := Lib.hid hA
 have Hgb := Lib.hid hgb
 have Hgp : Hid (g ≠ b ∧ g ≠ p) := Lib.hid ⟨hgb, hgp⟩
 have HK : Hid (Keep [g, b] w w) := Lib.hid (Keep.refl _ _)
 have HP := fun w' (h1 : Lvr w' g p s t i h fA fn fc r) => Lib.hid (lvPlace_any g p s t i h fA fn fc 0 r w' H h1 (by decide) hs)
 have hnb : 0 ≤ r.next ∧ r.next < 18446744073709551616 := by rw [hn]; exact word_bd hc
 have HC := fun w' (h1 : Arn w' p b ws) => Lib.hid (arnCas_yes p b ws k r.word r.next w' h1 (by rw [← hx]; exact hk) hnb)
 have HU := fun w' => Lib.hid (unpackC_any hc w')
 have Hn := Lib.hid hn
 rw [← hn] at HU
 obtain ⟨m, Hm⟩ : ∃ m, Hid (((k * 8 : Nat) : Int) = m) := ⟨_, Lib.hid rfl⟩
 have He := show 64 * r.area + 8 * 0 = m by rw [← Hm.out]; omega
 simp only [Hm.out] at HC
 simp only [He] at HP
 have Hst := Lib.hid h3
 have Hsd := Lib.hid hsd
 clear h3 hsd
 clear hc hn hw hk ha hs He Hm
 clear H hT hA hgb hgp
 go_enter Tryz.func87, Tryz.ntmps87
 go_wp2_with fail
 try simp only [Act.put]
 go_cut [2, 3] from 6 to 25 (fun va vb wx => va = .bool true ∧ vb = .int .i64 0 ∧ Lvr wx g p s t i h fA fn fc r ∧ Arn wx p b (ws.set k r.next) ∧ Keep [b] w wx)
 case first =>
  as_aux_lemma =>
   refine wp_region_held_drew (S := fun W => Lvr W g p s t i h fA fn fc r) (by kernel_rfl) (show Lvr w.drew g p s t i h fA fn fc r from HT.out) ?_
   intro hS
   have hA0 : Arn w.drew p b ws := HA.out.drew
   have hK0 : Keep [b] w w.drew := (Keep.refl _ _).drew
   generalize w.drew = y0 at hS hA0 hK0 ⊢
   refine tk (i := 0) (v := ?v0x74) (some 7) rfl rfl (Or.inl ⟨by kernel_rfl, ?h0x74⟩) ?r0x74
   case h0x74 => (intro w' hSw; have b9 := lv_box hSw; go_simp; first | done | (with_reducible rfl))
   try simp only [zA, zB, zC, zD, zE]
   refine tk (i := 1) (v := ?v1x75) (some 8) rfl rfl (Or.inl ⟨by kernel_rfl, ?h1x75⟩) ?r1x75
   case h1x75 => (intro w' hSw; have b9 := lv_box hSw; go_simp; first | done | (with_reducible rfl))
   try simp only [zA, zB, zC, zD, zE]
   refine tk (i := 2) (v := ?v2x76) (some 9) rfl rfl (Or.inl ⟨by kernel_rfl, ?h2x76⟩) ?r2x76
   case h2x76 => (intro w' hSw; have b9 := lv_box hSw; go_simp; first | done | (with_reducible rfl))
   try simp only [zA, zB, zC, zD, zE]
   refine tk (i := 3) (v := ?v3x77) (some 10) rfl rfl (Or.inl ⟨by kernel_rfl, ?h3x77⟩) ?r3x77
   case h3x77 => (intro w' hSw; have b9 := lv_box hSw; go_simp; first | done | (with_reducible rfl))
   try simp only [zA, zB, zC, zD, zE]
   refine tk (i := 4) (v := ?v4x78) (some 11) rfl rfl (Or.inl ⟨by kernel_rfl, ?h4x78⟩) ?r4x78
   case h4x78 => (intro w' hSw; have b9 := lv_box hSw; go_simp; first | done | (with_reducible rfl))
   try simp only [zA, zB, zC, zD, zE]
   refine tk (i := 6) (v := ?v6x79) (some 13) rfl rfl (Or.inl ⟨by kernel_rfl, ?h6x79⟩) ?r6x79
   case h6x79 => (intro w' hSw; have b9 := lv_box hSw; go_simp; first | done | (with_reducible rfl))
   try simp only [zA, zB, zC, zD, zE]
   refine tk (i := 7) (v := ?v7x80) (some 14) rfl rfl (Or.inl ⟨by kernel_rfl, ?h7x80⟩) ?r7x80
   case h7x80 => (intro w' hSw; have b9 := lv_box hSw; go_simp; first | done | (with_reducible rfl))
   try simp only [zA, zB, zC, zD, zE]
   refine tk (i := 8) (v := ?v8x81) (some 15) rfl rfl (Or.inl ⟨by kernel_rfl, ?h8x81⟩) ?r8x81
   case h8x81 => (intro w' hSw; have b9 := lv_box hSw; go_simp; first | done | (with_reducible rfl))
   try simp only [zA, zB, zC, zD, zE]
   refine tk (i := 9) (v := ?v9x82) (some 16) rfl rfl (Or.inl ⟨by kernel_rfl, ?h9x82⟩) ?r9x82
   case h9x82 => (intro w' hSw; have b9 := lv_box hSw; go_simp; first | done | (with_reducible rfl))
   try simp only [zA, zB, zC, zD, zE]
   refine tk (i := 10) (v := ?v10x83) (some 17) rfl rfl (Or.inl ⟨by kernel_rfl, ?h10x83⟩) ?r10x83
   case h10x83 => (intro w' hSw; have b9 := lv_box hSw; go_simp; first | done | (with_reducible rfl))
   try simp only [zA, zB, zC, zD, zE]
   refine tk (i := 11) (v := ?v11x84) (some 18) rfl rfl (Or.inl ⟨by kernel_rfl, ?h11x84⟩) ?r11x84
   case h11x84 => (intro w' hSw; have b9 := lv_box hSw; go_simp; first | done | (with_reducible rfl))
   try simp only [zA, zB, zC, zD, zE]
   refine tk (i := 12) (v := ?v12x85) (some 19) rfl rfl (Or.inl ⟨by kernel_rfl, ?h12x85⟩) ?r12x85
   case h12x85 => (intro w' hSw; have b9 := lv_box hSw; go_simp; first | done | (with_reducible rfl))
   try simp only [zA, zB, zC, zD, zE]
   refine tk (i := 13) (v := ?v13x86) (some 20) rfl rfl (Or.inl ⟨by kernel_rfl, ?h13x86⟩) ?r13x86
   case h13x86 => (intro w' hSw; have b9 := lv_box hSw; go_simp; first | done | (with_reducible rfl))
   try simp only [zA, zB, zC, zD, zE]
   refine tk (i := 14) (v := ?v14x87) (some 21) rfl rfl (Or.inl ⟨by kernel_rfl, ?h14x87⟩) ?r14x87
   case h14x87 => (intro w' hSw; have b9 := lv_box hSw; go_simp; first | done | (with_reducible rfl))
   try simp only [zA, zB, zC, zD, zE]
   refine tk (i := 15) (v := ?v15x88) (some 22) rfl rfl (Or.inl ⟨by kernel_rfl, ?h15x88⟩) ?r15x88
   case h15x88 => (intro w' hSw; have b9 := lv_box hSw; go_simp; first | done | (with_reducible rfl))
   try simp only [zA, zB, zC, zD, zE]
   refine wpAnyH_ready (rs := [5]) (by kernel_rfl) (by simp) ?_
   refine AllReadyH.cons rfl (fun K hK => ?_) AllReadyH.nil
   go_simp
   refine (HP _ hS).out.mono ?_
   rintro e' y1 ⟨rfl, hb⟩
   go_simp
   replace hK0 := hK0.call hb
   replace hA0 := hA0.below hb
   refine hK.out _ _ (row_below hS hb) (fun hS => ?_)
   clear hK K
   try simp only [zA, zB, zC, zD, zE]
   clear hb
   refine wpAnyH_ready (rs := [16]) (by kernel_rfl) (by simp) ?_
   refine AllReadyH.cons rfl (fun K hK => ?_) AllReadyH.nil
   go_simp
   refine (HC _ hA0).out.mono ?_
   rintro e' y2 ⟨rfl, hA2, hk2⟩
   go_simp
   replace hK0 := hK0.trans hk2
   clear hA0
   have hA0 := hA2
   refine hK.out _ _ (hk2.row hS (by simpa using Hgb.out)) (fun hS => ?_)
   clear hK K
   try simp only [zA, zB, zC, zD, zE]
   clear hA2 hk2
   refine tk (i := 17) (v := ?v17x89) (some 6) rfl rfl (Or.inl ⟨by kernel_rfl, ?h17x89⟩) ?r17x89
   case h17x89 => (intro w' hSw; have b9 := lv_box hSw; go_simp; first | done | (with_reducible rfl))
   try simp only [zA, zB, zC, zD, zE]
   refine tk (i := 18) (v := ?v18x90) (some 24) rfl rfl (Or.inl ⟨by kernel_rfl, ?h18x90⟩) ?r18x90
   case h18x90 => (intro w' hSw; have b9 := lv_box hSw; go_simp; first | done | (with_reducible rfl))
   try simp only [zA, zB, zC, zD, zE]
   refine tk (i := 19) (v := ?v19x91) (some 25) rfl rfl (Or.inl ⟨by kernel_rfl, ?h19x91⟩) ?r19x91
   case h19x91 => (intro w' hSw; have b9 := lv_box hSw; go_simp; first | done | (with_reducible rfl))
   try simp only [zA, zB, zC, zD, zE]
   refine tk (i := 20) (v := ?v20x92) (some 2) rfl rfl (Or.inl ⟨by kernel_rfl, ?h20x92⟩) ?r20x92
   case h20x92 => (intro w' hSw; have b9 := lv_box hSw; go_simp; first | done | (with_reducible rfl))
   try simp only [zA, zB, zC, zD, zE]
   refine tk (i := 21) (v := ?v21x93) (some 3) rfl rfl (Or.inl ⟨by kernel_rfl, ?h21x93⟩) ?r21x93
   case h21x93 => (intro w' hSw; have b9 := lv_box hSw; go_simp; first | done | (with_reducible rfl))
   try simp only [zA, zB, zC, zD, zE]
   refine wpAnyH_done (by kernel_rfl) ?_ _
   go_wp2_with fail
   go_meet
   exact ⟨rfl, rfl, hS, hA0, hK0⟩
 case rest =>
  obtain ⟨rfl, rfl, hT, hA, hK⟩ := hcut
  obtain ⟨w1, hwx⟩ : ∃ x, x = wc := ⟨_, rfl⟩
  subst hwx
  replace HT := Lib.hid hT
  replace HA := Lib.hid hA
  replace HK := Lib.hid (hK.sub (T := [g, b]) (fun i hi => by simp at hi; simp [hi]))
  clear hT hA hK
  have v9 := lv_box HT.out
  go_wp2_with fail
  refine (HU _).out.mono ?_
  rintro e' w3 ⟨rfl, hb⟩
  clear v9
  replace HT := Lib.hid (row_below HT.out hb)
  replace HA := Lib.hid (HA.out.below hb)
  replace HK := Lib.hid (HK.out.call hb)
  clear hb
  go_upto_region 3 with (first | refine wpList_store_row rfl 61 (.tmp 4) (.tmp 33) rfl w3.heap.size #[.int .i64 c.st, .int .i64 c.n, .int .i64 c.p, .int .i64 c.ep] rfl rfl 61 _ (row_new _ _ _) infoCtl4 rfl (one4 _ _ _ _) ?_)
  refine alloc_set' w3 _ _ _ ?_
  intro w4 hr hb
  have hl1 := lt_of_heap HT.out
  have hl2 := lt_of_heap HA.out.row
  have hl3 := lt_of_heap HA.out.box
  obtain ⟨g_c, hg_c⟩ : ∃ x, x = w3.heap.size := ⟨_, rfl⟩
  rw [← hg_c] at hr ⊢
  have M_c : Hid (g_c ≠ g) := Lib.hid (by omega)
  have B_c : Hid (g_c ≠ b) := Lib.hid (by omega)
  have P_c : Hid (p ≠ g_c) := Lib.hid (by omega)
  have L_c : Hid (w.heap.size ≤ g_c) := Lib.hid (by have := HK.out.size; omega)
  have H_c := Lib.hid (show w4.heap[g_c]? = some (.cells #[.int .i64 c.st, .int .i64 c.n, .int .i64 c.p, .int .i64 c.ep] 61 (0, 0)) from hr)
  clear hr hg_c hl1 hl2 hl3
  replace HT := Lib.hid (row_below HT.out hb)
  replace HA := Lib.hid (HA.out.below hb)
  replace HK := Lib.hid (HK.out.call hb)
  clear hb
  obtain ⟨x0, x1, x2, x3, _⟩ := box4 H_c.out
  have zc := lt_of_heap H_c.out
  have hst1 : (c.st == 3) = false := by simpa using Hst.out
  have hst2 : decide (c.st = 3) = false := decide_eq_false Hst.out
  go_wp2_with (first | refine wpList_load_sub rfl 43 (.tmp 38) rfl g 6 rfl 104 _ r.arr (0, 0) _ HT.out (fun j v hv => lv_sub j v hv) undRun rfl infoRun ?_)
  clear x0 x1 x2 x3 zc hst1 hst2
  refine (tell_any r 0 0 _ Hsd.out).mono ?_
  rintro e' w5 ⟨rfl, hb⟩
  replace HT := Lib.hid (row_below HT.out hb)
  replace HA := Lib.hid (HA.out.below hb)
  replace HK := Lib.hid (HK.out.call hb)
  replace H_c := Lib.hid (row_below H_c.out hb)
  clear hb
  go_wp2_with (first | refine wpList_store_sub rfl 43 (.tmp 42) (.tmp 40) rfl g 6 (toldR r 0 0 noS).arr rfl rfl 104 _ HT.out infoRun (by rw [pre_size]; exact Nat.le_refl _) (Rn.one _) ?_)
  go_end0
  rw [pre_sub (lvPre p s t i h fA fn fc) r.arr (toldR r 0 0 noS).arr 6 rfl rfl]
  have hr := setRow_heap _ g (preArr (lvPre p s t i h fA fn fc) r.arr) (preArr (lvPre p s t i h fA fn fc) (toldR r 0 0 noS).arr) _ _ HT.out
  have hk9 := (Keep.refl [g] w5).setRow (g := g) (.inl (by simp)) (preArr (lvPre p s t i h fA fn fc) (toldR r 0 0 noS).arr)
  exact ⟨rfl, hr, HA.out.kept hk9 (by simpa using Hgp.out.2.symm) (by simpa using Hgp.out.1.symm), HK.out.trans (hk9.sub (T := [g, b]) (fun i hi => by simp at hi; simp [hi]))⟩
end Go.Proofs.YtbijaloeilnjoaaGreat
