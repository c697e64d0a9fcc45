/- Layer 14: the walk of found.Step. -/
import Derived.Test.YtbijaloeilnjoaaGreatMK
import Derived.Test.YtbijaloeilnjoaaGreatMH
import Derived.Test.YtbijaloeilnjoaaGreatRT
namespace Go.Proofs.YtbijaloeilnjoaaGreat
open Go.RowKit
set_option linter.unusedVariables false
set_option linter.unusedSimpArgs false

theorem k_setc {P : World → Prop} (W : World) (g i : Nat) (v : Value) (cur : Array Value) (t : TypeId) (h : W.heap[g]? = some (.cells cur t (0, 0)))
  (K : ∀ Y, Y.heap[g]? = some (.cells (cur.setIfInBounds i v) t (0, 0)) → Keep [g] W Y → P Y) : P (W.setCell ⟨g, i, none⟩ v) :=
 K _ (row_set h v) ((Keep.refl [g] W).setCell (p := ⟨g, i, none⟩) (.inl (by simp)) v)
theorem freeAt_some {l : List Sc} {j : Nat} {x : Sc} (hx : l[j]? = some x) (h0 : x.c.st = 0) (hn : ∀ (i : Nat) y, i < j → l[i]? = some y → (y.c.st == 0) = false) : freeAt l = some j := by
 obtain ⟨hj, hxe⟩ := List.getElem?_eq_some_iff.1 hx
 unfold freeAt
 rw [List.findIdx?_eq_some_iff_getElem]
 refine ⟨hj, by rw [hxe]; simpa using h0, fun i hi => ?_⟩
 have := hn i _ hi (List.getElem?_eq_getElem (by omega))
 simpa using this
theorem freeAt_none {l : List Sc} (hn : ∀ (i : Nat) y, l[i]? = some y → (y.c.st == 0) = false) : freeAt l = none := by
 unfold freeAt
 rw [List.findIdx?_eq_none_iff]
 intro x hx
 obtain ⟨i, hi, he⟩ := List.getElem_of_mem hx
 exact hn i x (by rw [List.getElem?_eq_getElem hi, he])


set_option maxRecDepth 100000 in
set_option maxHeartbeats 4000000 in
theorem fstepC_any (B p b g : Nat) (q : Option Nat) (f e : Int) (S : Sco) (ws : List Int) (s t i h : Int) (n : Int) (r : Rn) (w : World) (H : PlanOk s t i h) (hF : Fs B w p b g q f e S ws) (hn : (S.l.length : Int) = s) (hin : inB n 1 8192 = true) (hop : r.c.op = 2) (hpc : r.pc = 1) (hd : r.done = false) (hs : r.said = noS) (ha : r.c.a = n) :
  Calls Tryz.prog 34 #[.agg #[.int .i64 s, .int .i64 t, .int .i64 i, .int .i64 h], .pointer (some ⟨p, 0, none⟩), .pointer (some ⟨g, 0, none⟩), r.v] w fun y w' => y = .returned (.tuple #[(toldR r (createS n S).1.2 (createS n S).1.1 noS).v, .int .i64 0]) ∧ Fs B w' p b g q f e (createS n S).2 (createW n S ws) ∧ Keep (FsT b g q) w w' := by
 have HF := Lib.hid hF
 have HH := Lib.hid H
 have Hn := Lib.hid hn
 have Hin := Lib.hid hin
 have Hop := Lib.hid hop
 have Hpc := Lib.hid hpc
 have Hd := Lib.hid hd
 have Hsd := Lib.hid hs
 have Ha := Lib.hid ha
 have n8 := hF.n8
 obtain ⟨m, hm⟩ : ∃ m : Nat, m = S.l.length := ⟨_, rfl⟩
 obtain rfl : s = (m : Int) := by rw [hm, hn]
 rw [← hm] at n8
 have Hm := Lib.hid hm
 clear hF H hn hin hop hpc hd hs ha hm
 go_enter Tryz.func34, Tryz.ntmps34
 go_upto_region 1 with fail
 refine three_rows w _ _ _ _ _ _ ?_
 intro W hP hR hZ hB
 have q7 : W.cell? ⟨w.heap.size + 1, 7, none⟩ = some (.int .i64 1) := by rw [row_cell hR, ← Hpc.out]; rfl
 have q21 : W.cell? ⟨w.heap.size + 1, 21, none⟩ = some (.bool false) := by rw [row_cell hR, ← Hd.out]; rfl
 have q0 : W.cell? ⟨w.heap.size + 1, 0, none⟩ = some (.int .u8 2) := by rw [row_cell hR, ← Hop.out]; rfl
 have zR := lt_of_heap hR
 obtain ⟨x0, x1, x2, x3, _⟩ := box4 hP
 have HP := Lib.hid hP
 have HR := Lib.hid (show W.heap[w.heap.size + 1]? = some (.cells r.arr 43 (0, 0)) from hR)
 have HZ := Lib.hid (show W.heap[w.heap.size + 1 + 1]? = some (.cells ZRun 43 (0, 0)) from hZ)
 have HB := Lib.hid hB
 have HN : Hid (w.heap.size ∉ FsT b g q ∧ w.heap.size + 1 ∉ FsT b g q ∧ w.heap.size + 1 + 1 ∉ FsT b g q) := Lib.hid ⟨HF.out.fresh (by omega), HF.out.fresh (by omega), HF.out.fresh (by omega)⟩
 clear hP hR hZ hB
 go_wp2_with fail
 clear q7 q21 q0 zR x0 x1 x2 x3
 go_loopw [42] (fun u wr => ∃ j : Nat, j ≤ m ∧ u = .int .i64 j ∧ (∀ (i : Nat) y, i < j → S.l[i]? = some y → (y.c.st == 0) = false) ∧ Below W.heap.size W wr) (fun u _ => (m - (intOf u).toNat))
 case atStart => exact ⟨0, Nat.zero_le _, rfl, fun i y hi => absurd hi (by omega), Below.refl _ _⟩
 case round =>
  obtain ⟨j, hj, rfl, hno, hbw⟩ := hrel
  have Hno := Lib.hid hno
  have HBw := Lib.hid hbw
  have HB1 := Lib.hid (HB.out.trans (hbw.mono HB.out.size))
  have HF1 := Lib.hid (HF.out.below HB1.out)
  replace HP := Lib.hid (row_below HP.out hbw)
  replace HR := Lib.hid (row_below HR.out hbw)
  replace HZ := Lib.hid (row_below HZ.out hbw)
  clear hno hbw
  obtain ⟨x0, x1, x2, x3, _⟩ := box4 HP.out
  by_cases hlt : j < m
  ·obtain ⟨⟨⟨c1, c2, c3, c4⟩, ⟨z1, z2⟩⟩, hx⟩ : ∃ x, S.l[j]? = some x := ⟨_, List.getElem?_eq_getElem (by rw [← Hm.out]; exact hlt)⟩
   have Hx := Lib.hid hx
   have Hr := Lib.hid (HF.out.ok _ (List.mem_of_getElem? hx)).r
   have Hw0 := Lib.hid (HF.out.s.blk j _ hx)
   have Hj : Hid (0 ≤ (j : Int) ∧ (j : Int) ≤ (m : Int) - 1) := Lib.hid (by omega)
   clear hx
   go_wp2_with fail
   refine (foundCtl_any p b m t i h ws (8 * j) j ⟨c1, c2, c3, c4⟩ _ HH.out HF1.out.a Hr.out Hw0.out.1 (by omega) Hj.out).mono ?_
   rintro r' w1 ⟨rfl, hb⟩
   replace HP := Lib.hid (row_below HP.out hb)
   replace HR := Lib.hid (row_below HR.out hb)
   replace HZ := Lib.hid (row_below HZ.out hb)
   replace HB1 := Lib.hid (below_only HB1.out hb)
   replace HBw := Lib.hid (below_only HBw.out hb)
   replace HF1 := Lib.hid (HF1.out.below hb)
   clear hb x0 x1 x2 x3
   go_upto_region 9 with fail
   refine one_row w1 _ _ ?_
   intro w2 hC hb
   obtain ⟨gc, hgc⟩ : ∃ x, x = w1.heap.size := ⟨_, rfl⟩
   rw [← hgc] at hC ⊢
   have Hgc : Hid (gc ∉ FsT b g q ∧ gc ≠ w.heap.size ∧ gc ≠ w.heap.size + 1 ∧ gc ≠ w.heap.size + 1 + 1 ∧ gc ≠ p ∧ w.heap.size ≤ gc) := Lib.hid ⟨HF1.out.fresh (by omega), by have := lt_of_heap HP.out; omega, by have := lt_of_heap HR.out; omega, by have := lt_of_heap HZ.out; omega, by have := HF1.out.lt; omega, by have := HB1.out.size; omega⟩
   have HC := Lib.hid hC
   replace HP := Lib.hid (row_below HP.out hb)
   replace HR := Lib.hid (row_below HR.out hb)
   replace HZ := Lib.hid (row_below HZ.out hb)
   replace HB1 := Lib.hid (below_only HB1.out hb)
   replace HBw := Lib.hid (below_only HBw.out hb)
   replace HF1 := Lib.hid (HF1.out.below hb)
   have y0 := (box4 hC).1
   have zc := lt_of_heap hC
   clear hb hgc hC
   by_cases h0 : c1 = 0
   ·subst h0
    have Hfr := Lib.hid (freeAt_some Hx.out rfl Hno.out)
    have q4 : w2.cell? ⟨w.heap.size + 1, 4, none⟩ = some (.int .i64 n) := by rw [row_cell HR.out, ← Ha.out]; rfl
    have zR := lt_of_heap HR.out
    have Hup := Lib.hid (up8_ok Hin.out)
    clear Hno hlt hj
    go_wp2_with fail
    refine (up_any n _ Hup.out.2.2.2.1 Hup.out.2.2.2.2).mono ?_
    rintro r' w3 ⟨rfl, e3⟩
    rw [e3]
    clear e3 w3 q4 zR y0 zc
    go_wp2_with fail
    refine (carve_any B g f e S.F q (up8 n) _ HF1.out.gr).mono ?_
    rintro r' w3 ⟨rfl, hG, hK⟩
    have HG := Lib.hid hG
    have HA := Lib.hid (HF1.out.a.kept hK (fun hm => by rcases List.mem_cons.1 hm with h9 | h9; exact HF.out.ne.1 h9.symm; exact (HF.out.ne.2.2 p (by simpa using h9)).1 rfl) (fun hm => by rcases List.mem_cons.1 hm with h9 | h9; exact HF.out.ne.2.1 h9.symm; exact (HF.out.ne.2.2 b (by simpa using h9)).2 rfl))
    have hK' := hK.sub (T := FsT b g q) (fun i hi => List.mem_cons_of_mem _ hi)
    replace HP := Lib.hid (hK'.row HP.out HN.out.1)
    replace HR := Lib.hid (hK'.row HR.out HN.out.2.1)
    replace HZ := Lib.hid (hK'.row HZ.out HN.out.2.2)
    replace HC := Lib.hid (hK'.row HC.out Hgc.out.1)
    have HK := Lib.hid ((keep_below HB1.out (FsT b g q)).trans hK')
    clear hG hK hK'
    cases hok : (carveF (up8 n) S.F).2.1 with
    | false =>
     have HS := Lib.hid (createS_at Hin.out Hfr.out Hx.out)
     rw [hok, if_neg (by simp)] at HS
     have HFn := Lib.hid (carve_false hok).2
     have Hcw : Hid (createW n S ws = ws) := Lib.hid (createW_refused (by rw [HS.out]; simp))
     clear hok
     go_wp2_with (first | refine wpList_load_row rfl 43 (.tmp 7) rfl (w.heap.size + 1) rfl 43 r.arr (0, 0) _ HR.out undRun rfl infoRun ?_)
     refine (tell_any r 14 0 _ Hsd.out).mono ?_
     rintro r' w4 ⟨rfl, hb⟩
     replace HZ := Lib.hid (row_below HZ.out hb)
     have HF4 := Lib.hid (Fs.mk (B := B) (w := w4) (q := q) (f := f) (e := e) (S := S) (HA.out.below hb) (by have := HG.out.below hb; rw [HFn.out] at this; exact this) HF.out.s HF.out.ok HF.out.sz HF.out.n1 HF.out.n8 HF.out.low HF.out.ne)
     replace HK := Lib.hid (HK.out.call hb)
     clear hb
     go_wp2_with (first | refine wpList_store_row rfl 43 (.tmp 8) (.tmp 71) rfl (w.heap.size + 1 + 1) (toldR r 14 0 noS).arr rfl rfl 43 ZRun HZ.out infoRun rfl (Rn.one _) ?_)
     refine bodyPost_ret (results_cell_row_tmp (fn := Tryz.f34) rfl _ _ (w.heap.size + 1 + 1) 43 (toldR r 14 0 noS).arr (0, 0) _ rfl (setRow_heap w4 _ _ _ _ (0, 0) HZ.out) undRun rfl infoRun) rfl ?_
     rw [HS.out, Hcw.out]
     exact ⟨rfl, HF4.out.kept ((Keep.refl [w.heap.size + 1 + 1] w4).setRow (g := w.heap.size + 1 + 1) (.inl (by simp)) _) (fun j hj hm => by simp only [List.mem_singleton] at hj; subst hj; rcases List.mem_cons.1 hm with h9 | h9; (have := HF.out.lt; omega); exact HN.out.2.2 h9), HK.out.setRow (.inr (by omega)) _⟩
    | true =>
     have HS := Lib.hid (createS_at Hin.out Hfr.out Hx.out)
     rw [hok, if_pos rfl] at HS
     have hgot := (carve_got HF.out.gr.can hok).2.2.2.1
     have Hcw : Hid (createW n S ws = madeWs ws j ⟨1, c2, c3, c4⟩ (carveF (up8 n) S.F).1 (up8 n)) := Lib.hid (by
      unfold createW
      rw [Hfr.out]
      simp only [Hx.out]
      rw [if_pos (by rw [HS.out])])
     obtain ⟨at_, Hat⟩ : ∃ x, Hid ((carveF (up8 n) S.F).1 = x) := ⟨_, Lib.hid rfl⟩
     obtain ⟨F', HF'⟩ : ∃ x, Hid ((carveF (up8 n) S.F).2.2 = x) := ⟨_, Lib.hid rfl⟩
     obtain ⟨z, Hz⟩ : ∃ x, Hid (up8 n = x) := ⟨_, Lib.hid rfl⟩
     rw [HF'.out] at HG HS
     rw [Hat.out, Hz.out] at hgot Hcw HS ⊢
     have hat : 0 ≤ at_ ∧ at_ ≤ 131072 := by have h1 := hgot.1; have h2 := hgot.2.1; have h3 := hgot.2.2.2.2; have h4 := HF.out.gr.f0; have h5 := HF.out.gr.e1; simp only at h1 h2 h3; omega
     have hz : 0 ≤ z ∧ z ≤ 8192 := by have := Hup.out; rw [Hz.out] at this; omega
     have Hatz := Lib.hid (And.intro hat hz)
     have hwa : IntKind.u64.wrap at_ = at_ := IntWalk.u64_in _ (by omega)
     have hwz : IntKind.u64.wrap z = z := IntWalk.u64_in _ (by omega)
     clear hok hgot hat hz
     obtain ⟨x0, x1, x2, x3, _⟩ := box4 HP.out
     go_upto_region 15 with fail
     refine one_row w3 _ _ ?_
     intro w4 hD hb
     obtain ⟨gd, hgd⟩ : ∃ x, x = w3.heap.size := ⟨_, rfl⟩
     rw [← hgd] at hD ⊢
     have HD := Lib.hid (show w4.heap[gd]? = some (.cells (blkV p m t i h j) 130 (0, 0)) from hD)
     have Hgd : Hid (gd ≠ b ∧ gd ≠ gc ∧ w.heap.size ≤ gd) := Lib.hid ⟨by have := lt_of_heap HA.out.row; omega, by have := lt_of_heap HC.out; omega, by have := HK.out.size; omega⟩
     replace HR := Lib.hid (row_below HR.out hb)
     replace HZ := Lib.hid (row_below HZ.out hb)
     replace HC := Lib.hid (row_below HC.out hb)
     replace HA := Lib.hid (HA.out.below hb)
     replace HG := Lib.hid (HG.out.below hb)
     replace HK := Lib.hid (HK.out.call hb)
     clear hb hgd hD x0 x1 x2 x3
     obtain ⟨y0, y1, y2, y3, y0f, y1f, y2f, y3f⟩ := box4 HC.out
     have zc := lt_of_heap HC.out
     go_upto_region 16 with fail
     refine k_setc w4 gc 0 _ _ _ HC.out ?_
     intro w5 hC hk
     replace HC := Lib.hid (show w5.heap[gc]? = some (.cells #[.int .i64 1, .int .i64 c2, .int .i64 c3, .int .i64 c4] 61 (0, 0)) from hC)
     replace HR := Lib.hid (hk.row HR.out (by simpa using Hgc.out.2.2.1.symm))
     replace HZ := Lib.hid (hk.row HZ.out (by simpa using Hgc.out.2.2.2.1.symm))
     replace HD := Lib.hid (hk.row HD.out (by simpa using Hgd.out.2.1))
     replace HA := Lib.hid (HA.out.kept hk (by simpa using Hgc.out.2.2.2.2.1.symm) (by simpa using fun h9 => Hgc.out.1 (by simp [← h9])))
     replace HG := Lib.hid (HG.out.kept hk (by simpa using fun h9 => Hgc.out.1 (by simp [← h9])) (fun i hi => by simpa using fun h9 => Hgc.out.1 (by simp [← h9, hi])))
     replace HK := Lib.hid (HK.out.then hk (fun i hi h9 => by simp at h9; have := Hgc.out.2.2.2.2.2; omega))
     clear hC hk y0 y1 y2 y3 y0f y1f y2f y3f zc
     obtain ⟨d0, d1, d2, d3, d4, d5⟩ := box6 HD.out
     obtain ⟨y0, y1, y2, y3, _⟩ := box4 HC.out
     go_wp2_with fail
     refine (blkIs_any p b m t i h ws (8 * j) _ j ⟨1, c2, c3, c4⟩ _ HH.out HA.out Hw0.out.1 (by omega) Hj.out ⟨Hr.out.1, Hr.out.2.1, .inl ⟨.inr rfl, by have := Hr.out.2.2; simp only at this ⊢; omega, by have := Hr.out.2.2; simp only at this ⊢; omega⟩⟩).mono ?_
     rintro r' w6 ⟨rfl, hA4, hK4⟩
     clear y0 y1 y2 y3 d0 d1 d2 d3 d4 d5
     have hA4' := hA4
     replace HA := Lib.hid hA4'
     replace HG := Lib.hid (HG.out.kept hK4 (by simpa using HF.out.ne.2.1) (fun i hi => by simpa using (HF.out.ne.2.2 i hi).2))
     replace HR := Lib.hid (hK4.row HR.out (by simpa using fun h9 => HN.out.2.1 (by simp [h9])))
     replace HZ := Lib.hid (hK4.row HZ.out (by simpa using fun h9 => HN.out.2.2 (by simp [h9])))
     replace HC := Lib.hid (hK4.row HC.out (by simpa using fun h9 => Hgc.out.1 (by simp [h9])))
     replace HD := Lib.hid (hK4.row HD.out (by simpa using Hgd.out.1))
     replace HK := Lib.hid (HK.out.trans (hK4.sub (by simp)))
     clear hA4 hA4' hK4
     obtain ⟨d0, d1, d2, d3, d4, d5⟩ := box6 HD.out
     go_wp2_with fail
     refine (blkPut_any p b m t i h _ (8 * j + 1) z1 at_ 1 j _ HH.out HA.out (by rw [List.getElem?_set, if_neg (by omega)]; exact Hw0.out.2.1) (by omega) (by decide) Hj.out (by have := Hatz.out; omega)).mono ?_
     rintro r' w7 ⟨rfl, hA4, hK4⟩
     clear d0 d1 d2 d3 d4 d5
     have hA4' := hA4
     replace HA := Lib.hid hA4'
     replace HG := Lib.hid (HG.out.kept hK4 (by simpa using HF.out.ne.2.1) (fun i hi => by simpa using (HF.out.ne.2.2 i hi).2))
     replace HR := Lib.hid (hK4.row HR.out (by simpa using fun h9 => HN.out.2.1 (by simp [h9])))
     replace HZ := Lib.hid (hK4.row HZ.out (by simpa using fun h9 => HN.out.2.2 (by simp [h9])))
     replace HC := Lib.hid (hK4.row HC.out (by simpa using fun h9 => Hgc.out.1 (by simp [h9])))
     replace HD := Lib.hid (hK4.row HD.out (by simpa using Hgd.out.1))
     replace HK := Lib.hid (HK.out.trans (hK4.sub (by simp)))
     clear hA4 hA4' hK4
     obtain ⟨d0, d1, d2, d3, d4, d5⟩ := box6 HD.out
     go_wp2_with fail
     refine (blkPut_any p b m t i h _ (8 * j + 2) z2 z 2 j _ HH.out HA.out (by rw [List.getElem?_set, if_neg (by omega)]; rw [List.getElem?_set, if_neg (by omega)]; exact Hw0.out.2.2) (by omega) (by decide) Hj.out (by have := Hatz.out; omega)).mono ?_
     rintro r' w8 ⟨rfl, hA4, hK4⟩
     clear d0 d1 d2 d3 d4 d5
     have hA4' := hA4
     replace HA := Lib.hid hA4'
     replace HG := Lib.hid (HG.out.kept hK4 (by simpa using HF.out.ne.2.1) (fun i hi => by simpa using (HF.out.ne.2.2 i hi).2))
     replace HR := Lib.hid (hK4.row HR.out (by simpa using fun h9 => HN.out.2.1 (by simp [h9])))
     replace HZ := Lib.hid (hK4.row HZ.out (by simpa using fun h9 => HN.out.2.2 (by simp [h9])))
     replace HC := Lib.hid (hK4.row HC.out (by simpa using fun h9 => Hgc.out.1 (by simp [h9])))
     replace HD := Lib.hid (hK4.row HD.out (by simpa using Hgd.out.1))
     replace HK := Lib.hid (HK.out.trans (hK4.sub (by simp)))
     clear hA4 hA4' hK4
     obtain ⟨o3, ho3⟩ : ∃ x, ws[8 * j + 3]? = some x := ⟨_, List.getElem?_eq_getElem (by have := HF.out.s.lt (k := j) (List.getElem?_eq_some_iff.1 Hx.out).1; omega)⟩
     have Ho3 := Lib.hid ho3
     clear ho3
     obtain ⟨d0, d1, d2, d3, d4, d5⟩ := box6 HD.out
     go_wp2_with fail
     refine (blkPut_any p b m t i h _ (8 * j + 3) o3 0 3 j _ HH.out HA.out (by rw [List.getElem?_set, if_neg (by omega)]; rw [List.getElem?_set, if_neg (by omega)]; rw [List.getElem?_set, if_neg (by omega)]; exact Ho3.out) (by omega) (by decide) Hj.out (by have := Hatz.out; omega)).mono ?_
     rintro r' w9 ⟨rfl, hA4, hK4⟩
     clear d0 d1 d2 d3 d4 d5
     have hA4' := hA4
     replace HA := Lib.hid hA4'
     replace HG := Lib.hid (HG.out.kept hK4 (by simpa using HF.out.ne.2.1) (fun i hi => by simpa using (HF.out.ne.2.2 i hi).2))
     replace HR := Lib.hid (hK4.row HR.out (by simpa using fun h9 => HN.out.2.1 (by simp [h9])))
     replace HZ := Lib.hid (hK4.row HZ.out (by simpa using fun h9 => HN.out.2.2 (by simp [h9])))
     replace HC := Lib.hid (hK4.row HC.out (by simpa using fun h9 => Hgc.out.1 (by simp [h9])))
     replace HD := Lib.hid (hK4.row HD.out (by simpa using Hgd.out.1))
     replace HK := Lib.hid (HK.out.trans (hK4.sub (by simp)))
     clear hA4 hA4' hK4
     obtain ⟨o4, ho4⟩ : ∃ x, ws[8 * j + 4]? = some x := ⟨_, List.getElem?_eq_getElem (by have := HF.out.s.lt (k := j) (List.getElem?_eq_some_iff.1 Hx.out).1; omega)⟩
     have Ho4 := Lib.hid ho4
     clear ho4
     obtain ⟨d0, d1, d2, d3, d4, d5⟩ := box6 HD.out
     go_wp2_with fail
     refine (blkPut_any p b m t i h _ (8 * j + 4) o4 0 4 j _ HH.out HA.out (by rw [List.getElem?_set, if_neg (by omega)]; rw [List.getElem?_set, if_neg (by omega)]; rw [List.getElem?_set, if_neg (by omega)]; rw [List.getElem?_set, if_neg (by omega)]; exact Ho4.out) (by omega) (by decide) Hj.out (by have := Hatz.out; omega)).mono ?_
     rintro r' w10 ⟨rfl, hA4, hK4⟩
     clear d0 d1 d2 d3 d4 d5
     have hA4' := hA4
     replace HA := Lib.hid hA4'
     replace HG := Lib.hid (HG.out.kept hK4 (by simpa using HF.out.ne.2.1) (fun i hi => by simpa using (HF.out.ne.2.2 i hi).2))
     replace HR := Lib.hid (hK4.row HR.out (by simpa using fun h9 => HN.out.2.1 (by simp [h9])))
     replace HZ := Lib.hid (hK4.row HZ.out (by simpa using fun h9 => HN.out.2.2 (by simp [h9])))
     replace HC := Lib.hid (hK4.row HC.out (by simpa using fun h9 => Hgc.out.1 (by simp [h9])))
     replace HD := Lib.hid (hK4.row HD.out (by simpa using Hgd.out.1))
     replace HK := Lib.hid (HK.out.trans (hK4.sub (by simp)))
     clear hA4 hA4' hK4
     go_wp2_with (first | refine wpList_load_row rfl 43 (.tmp 7) rfl (w.heap.size + 1) rfl 43 r.arr (0, 0) _ HR.out undRun rfl infoRun ?_)
     refine (tell_any r 0 j _ Hsd.out).mono ?_
     rintro r' w12 ⟨rfl, hb⟩
     replace HZ := Lib.hid (row_below HZ.out hb)
     replace HK := Lib.hid (HK.out.call hb)
     have hjl : j < S.l.length := (List.getElem?_eq_some_iff.1 Hx.out).1
     have h9 := sco_fine (f := f) (e := e) (n := n) HF.out.ok HF.out.gr.can HF.out.gr.f0 HF.out.gr.e1
     have h10 := sco_size (n := n) HF.out.sz
     rw [HS.out] at h9 h10
     have HF4 := Lib.hid (Fs.mk (B := B) (w := w12) (q := q) (f := f) (e := e) (S := ⟨S.l.set j ⟨⟨1, c2, c3, c4⟩, (at_, z)⟩, F'⟩) (HA.out.below hb) (HG.out.below hb) (HF.out.s.made hjl ⟨1, c2, c3, c4⟩ at_ z F') h9 h10 (by simpa using HF.out.n1) (by simpa using HF.out.n8) HF.out.low HF.out.ne)
     clear hb hjl h9 h10
     go_wp2_with (first | refine wpList_store_row rfl 43 (.tmp 8) (.tmp 94) rfl (w.heap.size + 1 + 1) (toldR r 0 j noS).arr rfl rfl 43 ZRun HZ.out infoRun rfl (Rn.one _) ?_)
     refine bodyPost_ret (results_cell_row_tmp (fn := Tryz.f34) rfl _ _ (w.heap.size + 1 + 1) 43 (toldR r 0 j noS).arr (0, 0) _ rfl (setRow_heap w12 _ _ _ _ (0, 0) HZ.out) undRun rfl infoRun) rfl ?_
     rw [HS.out, Hcw.out]
     exact ⟨rfl, HF4.out.kept ((Keep.refl [w.heap.size + 1 + 1] w12).setRow (g := w.heap.size + 1 + 1) (.inl (by simp)) _) (fun j hj hm => by simp only [List.mem_singleton] at hj; subst hj; rcases List.mem_cons.1 hm with h9 | h9; (have := HF.out.lt; omega); exact HN.out.2.2 h9), HK.out.setRow (.inr (by omega)) _⟩
   ·have q0 : (c1 == 0) = false := by simpa using h0
    have Q0 := Lib.hid q0
    clear h0
    go_wp2_with fail
    go_roundw
    case rel =>
     refine ⟨j + 1, hlt, by go_num, fun i' y hi hy => ?_, HBw.out⟩
     by_cases h9 : i' = j
     ·subst h9
      rw [Hx.out] at hy
      injection hy with hy
      subst hy
      exact Q0.out
     ·exact Hno.out i' y (by omega) hy
    case measure => simp [intOf]; omega
  ·have hjm : j = m := by omega
   have Hfr := Lib.hid (freeAt_none (l := S.l) fun i' y hy => Hno.out i' y (by have := (List.getElem?_eq_some_iff.1 hy).1; rw [← Hm.out] at this; omega) hy)
   have HS := Lib.hid (createS_many Hin.out Hfr.out)
   have Hcw : Hid (createW n S ws = ws) := Lib.hid (createW_refused (by rw [HS.out]; simp))
   clear Hno hjm
   go_wp2_with (first | refine wpList_load_row rfl 43 (.tmp 7) rfl (w.heap.size + 1) rfl 43 r.arr (0, 0) _ HR.out undRun rfl infoRun ?_)
   refine (tell_any r 13 0 _ Hsd.out).mono ?_
   rintro r' w4 ⟨rfl, hb⟩
   replace HZ := Lib.hid (row_below HZ.out hb)
   replace HF1 := Lib.hid (HF1.out.below hb)
   replace HB1 := Lib.hid (below_only HB1.out hb)
   clear hb x0 x1 x2 x3 hlt
   go_wp2_with (first | refine wpList_store_row rfl 43 (.tmp 8) (.tmp 97) rfl (w.heap.size + 1 + 1) (toldR r 13 0 noS).arr rfl rfl 43 ZRun HZ.out infoRun rfl (Rn.one _) ?_)
   refine bodyPost_ret (results_cell_row_tmp (fn := Tryz.f34) rfl _ _ (w.heap.size + 1 + 1) 43 (toldR r 13 0 noS).arr (0, 0) _ rfl (setRow_heap w4 _ _ _ _ (0, 0) HZ.out) undRun rfl infoRun) rfl ?_
   rw [HS.out, Hcw.out]
   exact ⟨rfl, HF1.out.kept ((Keep.refl [w.heap.size + 1 + 1] w4).setRow (g := w.heap.size + 1 + 1) (.inl (by simp)) _) (fun j hj hm => by simp only [List.mem_singleton] at hj; subst hj; rcases List.mem_cons.1 hm with h9 | h9; (have := HF.out.lt; omega); exact HN.out.2.2 h9), (keep_below HB1.out _).setRow (.inr (by omega)) _⟩

end Go.Proofs.YtbijaloeilnjoaaGreat
