/- Layer 18: the walks of leaver's see, first, reset, becomes, hold, open, leave. (Printed by gen_lvb.py.) -/
import Derived.Test.YtbijaloeilnjoaaGreatLvA
import Derived.Test.YtbijaloeilnjoaaGreatLvU
import Derived.Test.YtbijaloeilnjoaaGreatFR
namespace Go.Proofs.YtbijaloeilnjoaaGreat
open Go.RowKit
set_option linter.unusedVariables false
set_option linter.unusedSimpArgs false

theorem keep_new {T : List Nat} {g : Nat} {w w1 w2 : World} (h : Keep T w w1) (k : Keep [g] w1 w2) (hg : w.heap.size ≤ g) : Keep T w w2 :=
 Keep.mk (k.os.trans h.os) (k.tape.trans h.tape) (k.output.trans h.output) (Nat.le_trans h.size k.size) (fun i hi hs => by
  have h1 := h.block i hi hs
  have h2 := k.block i (Nat.lt_of_lt_of_le hi h.size) (by simp; omega)
  exact h2.trans h1)
theorem undCtl4 : Tryz.prog.underlying 61 = some (.struct (Tryz.prog.fieldsOf 61)) := by kernel_rfl
set_option maxRecDepth 100000 in
set_option maxHeartbeats 2000000 in
theorem lvSee_any (g p : Nat) (s t i h : Int) (fA : Option Addr) (fn fc : Nat) (b : Nat) (ws : List Int) (k : Nat) (c c' : Ctl) (r : Rn) (w : World) (H : PlanOk s t i h) (hT : Lvr w g p s t i h fA fn fc r) (hA : Arn w p b ws) (hgb : g ≠ b) (hgp : g ≠ p) (hc : Right c) (hc' : Right c') (hl : leave c = (c', 0)) (hk : ws[k]? = some (word c)) (ha : (k : Int) = 8 * r.area) (hs : 0 ≤ r.area ∧ r.area ≤ s - 1) :
  Calls Tryz.prog 86 #[.pointer (some ⟨g, 0, none⟩)] w fun e w' => e = .returned (.tuple #[]) ∧ Lvr w' g p s t i h fA fn fc { r with word := word c, next := word c', pc := 16 } ∧ Arn w' p b ws ∧ Keep [g, b] w w' := by
 have HP0 := Lib.hid H
 have HT := Lib.hid hT
 have HA := Lib.hid hA
 have Hgb := Lib.hid hgb
 have Hgp : Hid (g ≠ b ∧ g ≠ p) := Lib.hid ⟨hgb, hgp⟩
 have HK : Hid (Keep [g, b] w w) := Lib.hid (Keep.refl _ _)
 have HL := fun w' (h1 : Lvr w' g p s t i h fA fn fc r) (h2 : Arn w' p b ws) => Lib.hid (lvLoad_any g p s t i h fA fn fc b 0 ws k (word c) r w' H h1 h2 hk (by omega) (by decide) hs)
 have HU := fun w' => Lib.hid (unpackC_any hc w')
 have HLv := fun w' => Lib.hid (leaveC_any hl w')
 have HPk := fun w' => Lib.hid (packC_any hc' w')
 obtain ⟨wc, Hwc⟩ : ∃ x, Hid (word c = x) := ⟨_, Lib.hid rfl⟩
 obtain ⟨wd, Hwd⟩ : ∃ x, Hid (word c' = x) := ⟨_, Lib.hid rfl⟩
 have wcb : 0 ≤ wc ∧ wc < 18446744073709551616 := by rw [← Hwc.out]; exact word_bd hc
 simp only [Hwc.out, Hwd.out] at HL HU HPk
 rw [Hwc.out, Hwd.out]
 clear hc hc' hl hk ha hs
 clear H hT hA hgb hgp
 go_enter Tryz.func86, Tryz.ntmps86
 go_wp2_with fail
 refine (HL _ HT.out HA.out).out.mono ?_
 rintro e' w1 ⟨rfl, hb⟩
 replace HT := Lib.hid (row_below HT.out hb)
 replace HA := Lib.hid (HA.out.below hb)
 replace HK := Lib.hid (HK.out.call hb)
 clear hb
 have v9 := lv_box HT.out
 go_upto_region 1 with fail
 clear v9
 refine set_oneR w1 g 18 (.int .u64 wc) _ _ HT.out ?_
 intro w2 hr hk
 rw [pre_set _ _ 18 12 _ rfl] at hr
 replace HT : Hid (Lvr w2 g p s t i h fA fn fc ({ r with word := wc } : Rn)) := Lib.hid hr
 replace HA := Lib.hid (HA.out.kept hk (by simpa using Hgp.out.2.symm) (by simpa using Hgp.out.1.symm))
 replace HK := Lib.hid (HK.out.trans (hk.sub (T := [g, b]) (fun i hi => by simp at hi; simp [hi])))
 clear hr hk
 have v9 := lv_box HT.out
 go_wp2_with fail
 refine (HU _).out.mono ?_
 rintro e' w3 ⟨rfl, hb⟩
 clear v9
 replace HT := Lib.hid (row_below HT.out hb)
 replace HA := Lib.hid (HA.out.below hb)
 replace HK := Lib.hid (HK.out.call hb)
 clear hb
 go_upto_region 2 with (first | refine wpList_store_row rfl 61 (.tmp 2) (.tmp 17) rfl w3.heap.size #[.int .i64 c.st, .int .i64 c.n, .int .i64 c.p, .int .i64 c.ep] rfl rfl 61 _ (row_new _ _ _) infoCtl4 rfl (one4 _ _ _ _) ?_)
 refine alloc_set' w3 _ _ _ ?_
 intro w4 hr hb
 have hl1 := lt_of_heap HT.out
 have hl2 := lt_of_heap HA.out.row
 have hl3 := lt_of_heap HA.out.box
 obtain ⟨g_c, hg_c⟩ : ∃ x, x = w3.heap.size := ⟨_, rfl⟩
 rw [← hg_c] at hr ⊢
 have M_c : Hid (g_c ≠ g) := Lib.hid (by omega)
 have B_c : Hid (g_c ≠ b) := Lib.hid (by omega)
 have P_c : Hid (p ≠ g_c) := Lib.hid (by omega)
 have L_c : Hid (w.heap.size ≤ g_c) := Lib.hid (by have := HK.out.size; omega)
 have H_c := Lib.hid (show w4.heap[g_c]? = some (.cells #[.int .i64 c.st, .int .i64 c.n, .int .i64 c.p, .int .i64 c.ep] 61 (0, 0)) from hr)
 clear hr hg_c hl1 hl2 hl3
 replace HT := Lib.hid (row_below HT.out hb)
 replace HA := Lib.hid (HA.out.below hb)
 replace HK := Lib.hid (HK.out.call hb)
 clear hb
 go_wp2_with (first | refine wpList_load_row rfl 61 (.tmp 2) rfl g_c rfl 61 #[.int .i64 c.st, .int .i64 c.n, .int .i64 c.p, .int .i64 c.ep] (0, 0) _ H_c.out undCtl4 rfl infoCtl4 ?_)
 refine (HLv _).out.mono ?_
 rintro e' w5 ⟨rfl, hb⟩
 replace HT := Lib.hid (row_below HT.out hb)
 replace HA := Lib.hid (HA.out.below hb)
 replace HK := Lib.hid (HK.out.call hb)
 replace H_c := Lib.hid (row_below H_c.out hb)
 clear hb
 go_upto_region 3 with (first | refine wpList_store_row rfl 61 (.tmp 2) (.tmp 22) rfl g_c #[.int .i64 c'.st, .int .i64 c'.n, .int .i64 c'.p, .int .i64 c'.ep] rfl rfl 61 _ H_c.out infoCtl4 rfl (one4 _ _ _ _) ?_)
 refine set_row' w5 g_c _ _ _ H_c.out ?_
 intro w6 hr hk
 replace HT := Lib.hid (hk.row HT.out (by simpa using M_c.out.symm))
 replace HA := Lib.hid (HA.out.kept hk (by simpa using P_c.out) (by simpa using B_c.out.symm))
 replace HK := Lib.hid (keep_new HK.out hk L_c.out)
 replace H_c := Lib.hid hr
 clear hr hk
 have v9 := lv_box HT.out
 go_wp2_with (first | refine wpList_load_row rfl 61 (.tmp 2) rfl g_c rfl 61 #[.int .i64 c'.st, .int .i64 c'.n, .int .i64 c'.p, .int .i64 c'.ep] (0, 0) _ H_c.out undCtl4 rfl infoCtl4 ?_)
 refine (HPk _).out.mono ?_
 rintro e' w7 ⟨rfl, hb⟩
 clear v9
 replace HT := Lib.hid (row_below HT.out hb)
 replace HA := Lib.hid (HA.out.below hb)
 replace HK := Lib.hid (HK.out.call hb)
 replace H_c := Lib.hid (row_below H_c.out hb)
 clear hb
 have v9 := lv_box HT.out
 go_upto_region 4 with fail
 clear v9
 refine set_oneR w7 g 19 (.int .u64 wd) _ _ HT.out ?_
 intro w8 hr hk
 rw [pre_set _ _ 19 13 _ rfl] at hr
 replace HT : Hid (Lvr w8 g p s t i h fA fn fc ({ ({ r with word := wc } : Rn) with next := wd } : Rn)) := Lib.hid hr
 replace HA := Lib.hid (HA.out.kept hk (by simpa using Hgp.out.2.symm) (by simpa using Hgp.out.1.symm))
 replace HK := Lib.hid (HK.out.trans (hk.sub (T := [g, b]) (fun i hi => by simp at hi; simp [hi])))
 replace H_c := Lib.hid (hk.row H_c.out (by simpa using M_c.out))
 clear hr hk
 have v9 := lv_box HT.out
 go_wp2_with fail
 clear v9
 go_end0
 have hk9 := ((Keep.refl [g] w8).setCell (p := ⟨g, 13, none⟩) (.inl (by simp)) (.int .i64 16))
 exact ⟨rfl, (Lvr.set_pc HT.out 16), HA.out.kept hk9 (by simpa using Hgp.out.2.symm) (by simpa using Hgp.out.1.symm), HK.out.trans (hk9.sub (T := [g, b]) (fun i hi => by simp at hi; simp [hi]))⟩
set_option maxRecDepth 100000 in
set_option maxHeartbeats 2000000 in
theorem lvFirst_any (g p : Nat) (s t i h : Int) (fA : Option Addr) (fn fc : Nat) (b : Nat) (ws : List Int) (k : Nat) (x : Int) (r : Rn) (w : World) (H : PlanOk s t i h) (hT : Lvr w g p s t i h fA fn fc r) (hA : Arn w p b ws) (hgb : g ≠ b) (hgp : g ≠ p) (hx : 0 ≤ x ∧ x ≤ 1048576) (hk : ws[k]? = some x) (ha : (k : Int) = 8 * r.area + 1) (hs : 0 ≤ r.area ∧ r.area ≤ s - 1) :
  Calls Tryz.prog 88 #[.pointer (some ⟨g, 0, none⟩)] w fun e w' => e = .returned (.tuple #[]) ∧ Lvr w' g p s t i h fA fn fc { r with word := x, at_ := x, pc := 18 } ∧ Arn w' p b ws ∧ Keep [g, b] w w' := by
 have HP0 := Lib.hid H
 have HT := Lib.hid hT
 have HA := Lib.hid hA
 have Hgb := Lib.hid hgb
 have Hgp : Hid (g ≠ b ∧ g ≠ p) := Lib.hid ⟨hgb, hgp⟩
 have HK : Hid (Keep [g, b] w w) := Lib.hid (Keep.refl _ _)
 have HL := fun w' (h1 : Lvr w' g p s t i h fA fn fc r) (h2 : Arn w' p b ws) => Lib.hid (lvLoad_any g p s t i h fA fn fc b 1 ws k x r w' H h1 h2 hk (by omega) (by decide) hs)
 obtain ⟨x0, x1⟩ := hx
 clear hk ha hs
 clear H hT hA hgb hgp
 go_enter Tryz.func88, Tryz.ntmps88
 go_wp2_with fail
 refine (HL _ HT.out HA.out).out.mono ?_
 rintro e' w1 ⟨rfl, hb⟩
 replace HT := Lib.hid (row_below HT.out hb)
 replace HA := Lib.hid (HA.out.below hb)
 replace HK := Lib.hid (HK.out.call hb)
 clear hb
 have v9 := lv_box HT.out
 go_upto_region 1 with fail
 clear v9
 refine set_oneR w1 g 18 (.int .u64 x) _ _ HT.out ?_
 intro w2 hr hk
 rw [pre_set _ _ 18 12 _ rfl] at hr
 replace HT : Hid (Lvr w2 g p s t i h fA fn fc ({ r with word := x } : Rn)) := Lib.hid hr
 replace HA := Lib.hid (HA.out.kept hk (by simpa using Hgp.out.2.symm) (by simpa using Hgp.out.1.symm))
 replace HK := Lib.hid (HK.out.trans (hk.sub (T := [g, b]) (fun i hi => by simp at hi; simp [hi])))
 clear hr hk
 have v9 := lv_box HT.out
 go_wp2_with fail
 clear v9
 go_end0
 have hk9 := (((Keep.refl [g] w2).setCell (p := ⟨g, 20, none⟩) (.inl (by simp)) (.int .i64 x)).setCell (p := ⟨g, 13, none⟩) (.inl (by simp)) (.int .i64 18))
 exact ⟨rfl, (Lvr.set_pc (Lvr.set_at_ HT.out x) 18), HA.out.kept hk9 (by simpa using Hgp.out.2.symm) (by simpa using Hgp.out.1.symm), HK.out.trans (hk9.sub (T := [g, b]) (fun i hi => by simp at hi; simp [hi]))⟩
set_option maxRecDepth 100000 in
set_option maxHeartbeats 2000000 in
theorem lvReset_any (g p : Nat) (s t i h : Int) (fA : Option Addr) (fn fc : Nat) (b : Nat) (ws : List Int) (k : Nat) (y : Int) (r : Rn) (w : World) (H : PlanOk s t i h) (hT : Lvr w g p s t i h fA fn fc r) (hA : Arn w p b ws) (hgb : g ≠ b) (hgp : g ≠ p) (hk : ws[k]? = some y) (ha : (k : Int) = 8 * r.area + 3) (hs : 0 ≤ r.area ∧ r.area ≤ s - 1) :
  Calls Tryz.prog 96 #[.pointer (some ⟨g, 0, none⟩)] w fun e w' => e = .returned (.tuple #[]) ∧ Lvr w' g p s t i h fA fn fc { r with pc := 26 } ∧ Arn w' p b (ws.set k 0) ∧ Keep [g, b] w w' := by
 have HP0 := Lib.hid H
 have HT := Lib.hid hT
 have HA := Lib.hid hA
 have Hgb := Lib.hid hgb
 have Hgp : Hid (g ≠ b ∧ g ≠ p) := Lib.hid ⟨hgb, hgp⟩
 have HK : Hid (Keep [g, b] w w) := Lib.hid (Keep.refl _ _)
 have HL := fun w' (h1 : Lvr w' g p s t i h fA fn fc r) (h2 : Arn w' p b ws) => Lib.hid (lvPut_any g p s t i h fA fn fc b 3 0 ws k y r w' H h1 h2 hgb hk (by omega) (by decide) hs (by decide))
 clear hk ha hs
 clear H hT hA hgb hgp
 go_enter Tryz.func96, Tryz.ntmps96
 go_wp2_with fail
 refine (HL _ HT.out HA.out).out.mono ?_
 rintro e' w1 ⟨rfl, hT1, hA, hK⟩
 clear hT1
 replace HT := Lib.hid (hK.row HT.out (by simpa using Hgb.out))
 replace HA := Lib.hid hA
 replace HK := Lib.hid (HK.out.trans (hK.sub (T := [g, b]) (fun i hi => by simp at hi; simp [hi])))
 clear hA hK
 have v9 := lv_box HT.out
 go_wp2_with fail
 clear v9
 go_end0
 have hk9 := ((Keep.refl [g] w1).setCell (p := ⟨g, 13, none⟩) (.inl (by simp)) (.int .i64 26))
 exact ⟨rfl, (Lvr.set_pc HT.out 26), HA.out.kept hk9 (by simpa using Hgp.out.2.symm) (by simpa using Hgp.out.1.symm), HK.out.trans (hk9.sub (T := [g, b]) (fun i hi => by simp at hi; simp [hi]))⟩
end Go.Proofs.YtbijaloeilnjoaaGreat
