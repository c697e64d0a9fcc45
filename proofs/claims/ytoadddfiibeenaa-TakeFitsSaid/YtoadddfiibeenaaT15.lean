/- Layer 15: the law's both, call and chain: the walks, and what the arena is then. -/
import Derived.Test.YtoadddfiibeenaaTakeD
import Derived.Test.YtoadddfiibeenaaRTake
import Derived.Test.YtoadddfiibeenaaTwo
import Derived.Test.YtoadddfiibeenaaTk
import Derived.Test.YtoadddfiibeenaaRFs
import Derived.Test.YtoadddfiibeenaaFRest
namespace Go.Proofs.Ytoadddfiibeenaa
open Go.RowKit
set_option linter.unusedVariables false
set_option linter.unusedSimpArgs false

def upC (ep : Int) : Ctl := ⟨2, 1, 0, ep⟩
theorem upC_right {ep : Int} (h : 0 ≤ ep ∧ ep ≤ 65535) : Right (upC ep) := by
  refine ⟨h.1, by show ep ≤ 16777215; omega, ?_⟩
  unfold upC
  simp
def bothWs (im size ep : Int) : List Int := (madeWs (newWs 2 im 320) 1 ⟨1, 0, -1, 0⟩ (128 + im) (up8 size)).set 8 (word (upC ep))
structure BothOk (pt im size ep : Int) : Prop where
  hpt : 1 ≤ pt ∧ pt ≤ 4
  him : 0 ≤ im ∧ im ≤ 2048
  him8 : im % 8 = 0
  hsz : 8 ≤ size ∧ size ≤ 320
  hep : 0 ≤ ep ∧ ep ≤ 65535
section
variable {pt im size ep : Int}
theorem BothOk.plan (H : BothOk pt im size ep) : PlanOk 2 pt im 320 :=
  ⟨by decide, by decide, H.hpt.1, H.hpt.2, H.him.1, H.him.2, by decide, by decide, H.him8, by decide⟩
theorem both_up (H : BothOk pt im size ep) : 8 ≤ up8 size ∧ up8 size ≤ 320 ∧ up8 size % 8 = 0 := by have := H.hsz; unfold up8; omega
theorem both_carve (H : BothOk pt im size ep) : carveF (up8 size) [(128 + im, 320)] = (128 + im, true, carveRest (up8 size) 0 (128 + im, 320) [(128 + im, 320)]) := by
  have h := both_up H
  have h1 : carveBad (up8 size) = false := carveBad_no.2 ⟨by omega, h.2.2⟩
  have h2 : carveAt (up8 size) [(128 + im, 320)] = some 0 := by
    unfold carveAt
    rw [List.findIdx?_cons, if_pos (by simpa using h.2.1)]
  unfold carveF
  rw [if_neg (by rw [h1]; simp), h2]
  rfl
theorem both_new (pt im : Int) : newS ⟨2, pt, im, 320⟩ = ⟨[⟨⟨2, 1, -1, 0⟩, (128, im)⟩, scFree], [(128 + im, 320)]⟩ := rfl
theorem both_create (H : BothOk pt im size ep) : createS size (newS ⟨2, pt, im, 320⟩) = ((1, 0), ⟨[⟨⟨2, 1, -1, 0⟩, (128, im)⟩, ⟨⟨1, 0, -1, 0⟩, (128 + im, up8 size)⟩], carveRest (up8 size) 0 (128 + im, 320) [(128 + im, 320)]⟩) := by
  have hs := H.hsz
  rw [both_new, createS_at (i := 1) (s := scFree) (inB_t (by omega)) rfl rfl]
  simp only
  rw [both_carve H, if_pos rfl]
  rfl
theorem both_words (H : BothOk pt im size ep) : createW size (newS ⟨2, pt, im, 320⟩) (newWs 2 im 320) = madeWs (newWs 2 im 320) 1 ⟨1, 0, -1, 0⟩ (128 + im) (up8 size) := by
  have h1 := both_create H
  unfold createW
  rw [show freeAt (newS ⟨2, pt, im, 320⟩).l = some 1 from rfl]
  simp only [show (newS ⟨2, pt, im, 320⟩).l[1]? = some scFree from rfl]
  rw [h1, if_pos rfl]
  rw [show (newS ⟨2, pt, im, 320⟩).F = [(128 + im, 320)] from rfl, both_carve H]
  rfl
theorem bothWs_len (im size ep : Int) : (bothWs im size ep).length = ((128 + im + 320) / 8).toNat := by
  unfold bothWs
  rw [List.length_set, made_len, newWs_len]
  rfl
theorem bothWs_get (H : BothOk pt im size ep) (j : Nat) (hj : j < ((128 + im + 320) / 8).toNat) :
    (bothWs im size ep)[j]? = some (if j = 0 then word immC else if j = 1 then 128 else if j = 2 then im else if j = 8 then word (upC ep) else if j = 9 then 128 + im else if j = 10 then up8 size else 0) := by
  have hi := H.him
  have hl : 56 ≤ ((128 + im + 320) / 8).toNat := by omega
  unfold bothWs madeWs newWs
  rw [show (64 * 2 + im + 320) = 128 + im + 320 by omega]
  generalize ((128 + im + 320) / 8).toNat = n at hj hl ⊢
  by_cases e8 : j = 8
  · subst e8; rw [List.getElem?_set, if_pos rfl, if_pos (by simp; omega)]; rfl
  by_cases e12 : j = 12
  · subst e12; rw [List.getElem?_set, if_neg (by omega), List.getElem?_set, if_pos (by omega), if_pos (by simp; omega)]; rfl
  by_cases e11 : j = 11
  · subst e11; rw [List.getElem?_set, if_neg (by omega), List.getElem?_set, if_neg (by omega), List.getElem?_set, if_pos (by omega), if_pos (by simp; omega)]; rfl
  by_cases e10 : j = 10
  · subst e10; rw [List.getElem?_set, if_neg (by omega), List.getElem?_set, if_neg (by omega), List.getElem?_set, if_neg (by omega), List.getElem?_set, if_pos (by omega), if_pos (by simp; omega)]; rfl
  by_cases e9 : j = 9
  · subst e9; rw [List.getElem?_set, if_neg (by omega), List.getElem?_set, if_neg (by omega), List.getElem?_set, if_neg (by omega), List.getElem?_set, if_neg (by omega), List.getElem?_set, if_pos (by omega), if_pos (by simp; omega)]; rfl
  rw [List.getElem?_set, if_neg (by omega), List.getElem?_set, if_neg (by omega), List.getElem?_set, if_neg (by omega), List.getElem?_set, if_neg (by omega), List.getElem?_set, if_neg (by omega), List.getElem?_set, if_neg (by omega)]
  by_cases e2 : j = 2
  · subst e2; rw [List.getElem?_set, if_pos rfl, if_pos (by simp; omega)]; rfl
  by_cases e1 : j = 1
  · subst e1; rw [List.getElem?_set, if_neg (by omega), List.getElem?_set, if_pos rfl, if_pos (by simp; omega)]; rfl
  by_cases e0 : j = 0
  · subst e0; rw [List.getElem?_set, if_neg (by omega), List.getElem?_set, if_neg (by omega), List.getElem?_set, if_pos rfl, if_pos (by simp; omega)]; rfl
  rw [List.getElem?_set, if_neg (by omega), List.getElem?_set, if_neg (by omega), List.getElem?_set, if_neg (by omega), List.getElem?_replicate, if_pos hj, if_neg e0, if_neg e1, if_neg e2, if_neg e8, if_neg e9, if_neg e10]
theorem both_blk0 (H : BothOk pt im size ep) : BlkOk 2 (bothWs im size ep) 0 immC 128 im 0 := by
  have hi := H.him
  refine ⟨⟨?_, ?_, ?_, ?_, immC_right⟩, by decide, by decide, by decide, ?_, ?_, by decide, by decide, by decide, hi.1⟩
  · rw [bothWs_get H _ (by omega)]; rfl
  · rw [bothWs_get H _ (by omega)]; rfl
  · rw [bothWs_get H _ (by omega)]; rfl
  · rw [bothWs_get H _ (by omega)]; rfl
  · rw [bothWs_len]; omega
  · rw [bothWs_len]; omega
theorem both_blk1 (H : BothOk pt im size ep) : BlkOk 2 (bothWs im size ep) 1 (upC ep) (128 + im) (up8 size) 0 := by
  have hi := H.him
  have hi8 := H.him8
  have hu := both_up H
  refine ⟨⟨?_, ?_, ?_, ?_, upC_right H.hep⟩, by decide, by decide, by omega, ?_, ?_, by have := H.him8; omega, by decide, by decide, by omega⟩
  · rw [bothWs_get H _ (by omega)]; rfl
  · rw [bothWs_get H _ (by omega)]; rfl
  · rw [bothWs_get H _ (by omega)]; rfl
  · rw [bothWs_get H _ (by omega)]; rfl
  · rw [bothWs_len]; omega
  · rw [bothWs_len]; omega
end

set_option maxRecDepth 100000 in
set_option maxHeartbeats 4000000 in
theorem both_any (pt im size ep : Int) (w : World) (H : BothOk pt im size ep) :
    Calls Try.prog 8 #[.agg #[.int .i64 2, .int .i64 pt, .int .i64 im, .int .i64 320], .int .i64 size, .int .i64 ep] w fun r w' => ∃ p b X q d, r = .returned (.tuple #[.pointer (some ⟨p, 0, none⟩), .pointer (some ⟨X, 0, none⟩)]) ∧ TwoW w.heap.size w' p b X q d 2 pt im 320 (bothWs im size ep) (bothWs im size ep) ∧ Below w.heap.size w w' := by
  have HP := Lib.hid H.plan
  have HH := Lib.hid H
  have hs := H.hsz
  obtain ⟨hs0, hs1⟩ := hs
  have hbe : begA true (size - 1) = size := by unfold begA; simp; omega
  have HBe : Hid (∀ ch, rbeginRn 2 [] ⟨2, 0, 0, 0, size, 0, 0⟩ (rregR 0 0 0 0 0) (rregR 0 0 0 0 0) ch = begR 2 true (size - 1) ch) := Lib.hid fun ch => by unfold begR; rw [hbe]; rfl
  have HDo : Hid (does14 (128 + im) (128 + im + 320) true (size - 1) (newS ⟨2, pt, im, 320⟩) = (createS size (newS ⟨2, pt, im, 320⟩)).2 ∧ words14 true (size - 1) (newS ⟨2, pt, im, 320⟩) (newWs 2 im 320) = madeWs (newWs 2 im 320) 1 ⟨1, 0, -1, 0⟩ (128 + im) (up8 size)) := Lib.hid (by unfold does14 words14; rw [hbe]; exact ⟨rfl, both_words H⟩)
  have HCal : Hid (CalOk ⟨2, 0, 0, 0, size, 0, 0⟩) := Lib.hid ⟨by simp, by simp, by simp, by simp, ⟨by simp; omega, by simp; omega⟩, by simp, by simp⟩
  have HPk : Hid (pack ⟨2, 1, 0, ep⟩ = (word (upC ep), 0)) := Lib.hid (pack_right (upC_right H.hep))
  have HY := Lib.hid (word_bd (upC_right H.hep))
  have HE := Lib.hid H.hep
  obtain ⟨WW, HWW⟩ : ∃ x, Hid (madeWs (newWs 2 im 320) 1 ⟨1, 0, -1, 0⟩ (128 + im) (up8 size) = x) := ⟨_, Lib.hid rfl⟩
  have HW8 : Hid (∃ z, WW[8]? = some z) := Lib.hid (by
    rw [← HWW.out]
    exact ⟨_, List.getElem?_eq_getElem (by rw [made_len, newWs_len]; have := H.him; omega)⟩)
  have HBw : Hid (bothWs im size ep = WW.set 8 (word (upC ep))) := Lib.hid (by unfold bothWs; rw [HWW.out])
  rw [HWW.out] at HDo
  obtain ⟨v, Hv⟩ : ∃ x, Hid (word (upC ep) = x) := ⟨_, Lib.hid rfl⟩
  rw [Hv.out] at HPk HY HBw
  rw [HBw.out]
  clear H hbe
  go_enter Try.func8, Try.ntmps8
  go_upto_region 1 with fail
  refine one_row w _ _ ?_
  intro w1 hr hb
  have HR := Lib.hid hr
  have B := Lib.hid hb
  obtain ⟨x0, x1, x2, x3, _⟩ := box4 hr
  clear hr hb
  go_wp2_with fail
  refine (foundNewG_any 2 pt im 320 _ HP.out).mono ?_
  rintro r w2 ⟨p, b, g, gq, rfl, hA, hG, hl, hn, hb⟩
  have hl1 := B.out.size
  have hlr := lt_of_heap HR.out
  have HF := Lib.hid (fs_new (t := pt) HP.out hA hG hl hn)
  have Hl : Hid (w.heap.size ≤ w1.heap.size ∧ w.heap.size < w1.heap.size) := Lib.hid ⟨hl1, hlr⟩
  replace HR := Lib.hid (row_below HR.out hb)
  replace B := Lib.hid (below_only B.out hb)
  clear hA hG hn hb x0 x1 x2 x3 hl1 hlr
  obtain ⟨x0, x1, x2, x3, _⟩ := box4 HR.out
  go_wp2_with fail
  refine (rallNewG_any 2 pt im 320 _ HP.out).mono ?_
  rintro r w3 ⟨X, q, d, gp, gq2, rfl, hA, hX, hG, hn, hl2, hb⟩
  have HG := Lib.hid (rfs_new (B := w2.heap.size) HP.out hA hX hG hn hl2)
  have hlt2 := HF.out.lt
  have hlw2 := B.out.size
  have hgqs : ∀ j, gq = some j → j < w2.heap.size := hlt2.2.2.2
  have hq5 := HG.out.lows
  have HNe : Hid (∀ j ∈ FsT b g gq, j ∉ [X, q, d, gp, gq2]) := Lib.hid (fun j hj => by have h9 := (HF.out.ges j hj).2; simp; omega)
  have HNp : Hid (p ∉ [X, q, d, gp, gq2] ∧ (∀ j ∈ [X, q, d, gp, gq2], w2.heap.size ≤ j)) := Lib.hid ⟨by simp; omega, fun j hj => by simp at hj; omega⟩
  have HLw : Hid (w.heap.size ≤ w2.heap.size ∧ w.heap.size ≤ p ∧ w.heap.size ≤ b) := Lib.hid ⟨hlw2, by have := Hl.out; omega, by have := Hl.out; omega⟩
  replace HF := Lib.hid (HF.out.below hb)
  replace HR := Lib.hid (row_below HR.out hb)
  replace B := Lib.hid (below_only B.out hb)
  clear hA hX hG hn hl hl2 hb x0 x1 x2 x3 hlt2 hlw2 hgqs hq5
  obtain ⟨x0, x1, x2, x3, _⟩ := box4 HR.out
  have zr := lt_of_heap HR.out
  go_wp2_with fail
  have hr4 : (w3.alloc (.cells #[.int .u64 0, .int .u64 0, .int .u64 0, .int .u64 0] 24)).heap[w3.heap.size]? = _ := row_new _ _ _
  obtain ⟨m0, m1, m2, m3, _⟩ := box4 hr4
  have hba : Below w3.heap.size w3 (w3.alloc (.cells #[.int .u64 0, .int .u64 0, .int .u64 0, .int .u64 0] 24)) := by go_grown
  refine (rof_any ⟨2, pt, im, 320⟩ none 0 [] ⟨2, 0, 0, 0, size, 0, 0⟩ 0 0 0 0 w3.heap.size 0 4 _ (by simp) (by simp) (Cells.nil) (by simp) (by simp) HCal.out (by simp) (by simp) (by simp) (by simp) (by simp) m0 m1 m2 m3).mono ?_
  rintro r w4 ⟨kc, cA, rfl, hcs, hnew, hb⟩
  rw [HBe.out]
  have hb' := below_only hba hb
  replace HF := Lib.hid (HF.out.below hb')
  replace HG := Lib.hid (HG.out.below hb')
  replace HR := Lib.hid (row_below HR.out hb')
  replace B := Lib.hid (below_only B.out hb')
  clear hb hb' hba hr4 m0 m1 m2 m3 hcs hnew x0 x1 x2 x3 zr
  obtain ⟨r0, Hr0⟩ : ∃ x : Rn, Hid (x = begR 2 true (size - 1) ⟨cA, 0, kc⟩) := ⟨_, Lib.hid rfl⟩
  have Hr0' : Hid ((⟨cA, ([] : List Ent).length, kc⟩ : Sl) = ⟨cA, 0, kc⟩) := Lib.hid rfl
  rw [Hr0'.out, ← Hr0.out]
  go_upto_region 6 with (first | (refine wpList_store_row rfl 42 (.tmp 12) (.tmp 34) rfl w4.heap.size r0.arr rfl rfl 42 ZRun (row_new _ _ _) infoRun rfl (Rn.one _) ?_; (try simp only [Act.put]); (try simp only [List.setIfInBounds_toArray]); (try simp only [List.set_cons_succ]); (try simp only [List.set_cons_zero])))
  refine alloc_set' w4 _ _ _ ?_
  intro w5 hr hb
  have HC : Hid (w5.heap[w4.heap.size]? = some (.cells r0.arr 42 (0, 0))) := Lib.hid hr
  have hfr := HF.out.fresh (Nat.le_refl w4.heap.size)
  have hgg := HG.out.lt
  have hln := B.out.size
  replace HF := Lib.hid (HF.out.below hb)
  replace HG := Lib.hid (HG.out.below hb)
  replace HR := Lib.hid (row_below HR.out hb)
  replace B := Lib.hid (below_only B.out hb)
  obtain ⟨gc, hgc⟩ : ∃ x, x = w4.heap.size := ⟨_, rfl⟩
  rw [← hgc] at HC hfr ⊢
  have HNc : Hid (gc ∉ FsT b g gq ∧ gc ∉ [d, gq2]) := Lib.hid ⟨hfr, by simp; omega⟩
  clear hr hb hfr hgg hgc hln
  obtain ⟨x0, x1, x2, x3, _⟩ := box4 HR.out
  go_wp2_with (first | (refine wpList_load_row rfl 42 (.tmp 12) rfl gc rfl 42 r0.arr (0, 0) _ HC.out undRun rfl infoRun ?_))
  rw [Hr0.out]
  refine (fstep14_any w1.heap.size p b g gq (128 + im) (128 + im + 320) (newS ⟨2, pt, im, 320⟩) (newWs 2 im 320) 2 pt im 320 true (size - 1) ⟨cA, 0, kc⟩ _ HP.out HF.out rfl rfl).mono ?_
  rintro r w6 ⟨gq', rfl, hF, hq, hK⟩
  rw [HDo.out.2] at hF
  rw [← Hr0.out]
  have HA := Lib.hid hF.a
  replace HG := Lib.hid (HG.out.kept hK HNe.out)
  replace HR := Lib.hid (hK.row HR.out (fun hm => by have := (HF.out.ges _ hm).1; have := Hl.out; omega))
  replace HC := Lib.hid (hK.row HC.out HNc.out.1)
  replace B := Lib.hid (Keep.under B.out hK (by have := B.out.size; omega) (fun j hj => Nat.le_trans Hl.out.1 (HF.out.ges j hj).1))
  clear hF hq hK HF x0 x1 x2 x3
  go_wp2_with (first | (refine wpList_load_row rfl 42 (.tmp 12) rfl gc rfl 42 r0.arr (0, 0) _ HC.out undRun rfl infoRun ?_))
  rw [Hr0.out]
  refine (rmake_any w2.heap.size X q d gp gq2 2 pt im 320 (128 + im) (128 + im + 320) (newS ⟨2, pt, im, 320⟩) (newWs 2 im 320) true (size - 1) ⟨cA, 0, kc⟩ _ HP.out HG.out rfl ⟨_, rfl, rfl⟩ rfl).mono ?_
  rintro r w7 ⟨rfl, hG, hK⟩
  rw [HDo.out.2] at hG
  have HX := Lib.hid hG.all
  replace HA := Lib.hid (HA.out.kept hK (fun hm => HNp.out.1 (by simp at hm ⊢; omega)) (fun hm => HNe.out b (by simp) (by simp at hm ⊢; omega)))
  replace B := Lib.hid (Keep.under B.out hK (by have := B.out.size; omega) (fun j hj => by have := HG.out.lows; have := HLw.out; simp at hj; omega))
  have HTw : Hid (TwoW w.heap.size w7 p b X q d 2 pt im 320 WW WW) := Lib.hid ⟨HA.out, HX.out, by have h1 := HNp.out.2; have h2 := HLw.out; have := h1 X (by simp); have := h1 q (by simp); have := h1 d (by simp); omega,
    by have h1 := HNe.out b (by simp); simp at h1; omega, by have h1 := HNe.out b (by simp); simp at h1; omega, by have h1 := HNe.out b (by simp); simp at h1; omega, by have h1 := HNp.out.1; simp at h1; omega⟩
  clear hG hK HA HX HG HR HC HNe HNp HNc
  go_wp2_with fail
  refine (rpack_as HPk _).mono ?_
  rintro r w8 ⟨rfl, hb⟩
  replace HTw := Lib.hid (HTw.out.below hb)
  replace B := Lib.hid (below_only B.out hb)
  clear hb
  go_wp2_with fail
  refine (rplanAt_any 0 1 _ (by decide) (by decide)).mono ?_
  rintro r wa ⟨rfl, e2⟩
  rw [e2]
  clear e2 wa
  go_wp2_with fail
  obtain ⟨z, hz⟩ := HW8.out
  have Hz := Lib.hid hz
  clear hz
  refine (arnPut_any p b WW 8 z v _ HTw.out.a Hz.out HY.out).mono ?_
  rintro r w9 ⟨rfl, hA, hK⟩
  have HTx := Lib.hid (HTw.out.onA hA hK)
  replace B := Lib.hid (HTw.out.under B.out hK (by simp))
  clear hA hK HTw
  go_wp2_with fail
  refine (rallPut_any X q d 2 pt im 320 WW 8 z v 0 1 _ HTx.out.x Hz.out (by decide) (by decide) (by decide) HY.out).mono ?_
  rintro r w10 ⟨rfl, hX, hK⟩
  have HTy := Lib.hid (HTx.out.onX hX hK)
  replace B := Lib.hid (HTx.out.under B.out hK (by simp))
  clear hX hK HTx
  go_wp2_with fail
  go_ret2
  exact ⟨p, b, X, q, d, rfl, HTy.out, B.out⟩
end Go.Proofs.Ytoadddfiibeenaa
