/- Layer 14: found.New, and its ground. -/
import Derived.Test.YtnimaajnlkbdaaaGreatFoundNew
import Derived.Test.YtnimaajnlkbdaaaGreatMJ
namespace Go.Proofs.YtnimaajnlkbdaaaGreat
open Go.RowKit
set_option linter.unusedVariables false
set_option linter.unusedSimpArgs false

set_option maxRecDepth 100000 in
set_option maxHeartbeats 4000000 in
theorem foundNewG_any (s t i h : Int) (w : World) (H : PlanOk s t i h) :
  Calls Tryz.prog 24 #[.agg #[.int .i64 s, .int .i64 t, .int .i64 i, .int .i64 h]] w fun r w' => ∃ p b g q, r = .returned (.tuple #[.pointer (some ⟨p, 0, none⟩), .pointer (some ⟨g, 0, none⟩), .int .i64 0]) ∧ Arn w' p b (newWs s i h) ∧ Gr w.heap.size w' g (64 * s + i) (64 * s + i + h) (oneExt (64 * s + i) h) q ∧ (w.heap.size ≤ p ∧ w.heap.size ≤ b) ∧ (g ≠ p ∧ g ≠ b ∧ ∀ i, q = some i → i ≠ p ∧ i ≠ b) ∧ Below w.heap.size w w' := by
 obtain ⟨m, Hm⟩ : ∃ m, Hid (m = ((64 * s + i + h) / 8).toNat) := ⟨_, Lib.hid rfl⟩
 obtain ⟨s0, s1, t0, t1, i0, i1, h0, h1, i8, h8⟩ := H
 have HH := Lib.hid (PlanOk.mk s0 s1 t0 t1 i0 i1 h0 h1 i8 h8)
 obtain ⟨z, Hz⟩ : ∃ z, Hid (z = 64 * s) := ⟨_, Lib.hid rfl⟩
 obtain ⟨n, Hn⟩ : ∃ n, Hid (n = 64 * s + i + h) := ⟨_, Lib.hid rfl⟩
 have Hmm := Lib.hid (show 1 ≤ m ∧ m ≤ 8192 ∧ n = ((m * 8 : Nat) : Int) ∧ 8 ≤ m by have := Hm.out; have := Hn.out; omega)
 have HG := Lib.hid (show newMay (z + i) h = true by
  have := Hz.out
  unfold newMay
  rw [inB_t (by omega), inB_t (by omega), decide_eq_true (by omega), decide_eq_true (by omega)]; rfl)
 have HZ := Lib.hid (show (0 ≤ z ∧ z < 18446744073709551616) ∧ (0 ≤ i ∧ i < 18446744073709551616) by have := Hz.out; omega)
 have HW : Hid (newWs s i h = (((List.replicate m 0).set 0 (word immC)).set 1 z).set 2 i) := Lib.hid (by unfold newWs; rw [← Hm.out, ← Hz.out])
 have z0 : 0 ≤ z := HZ.out.1.1
 have z1 : z ≤ 18446744073709551615 := by have := Hz.out; omega
 clear s0 s1 t0 t1 h0 h1 i8 h8 Hm
 go_enter Tryz.func24, Tryz.ntmps24
 go_upto_region 1 with fail
 refine one_row w _ _ ?_
 intro W hR hB
 obtain ⟨x0, x1, x2, x3, _⟩ := box4 hR
 have HR := Lib.hid hR
 have HB := Lib.hid hB
 clear hR hB
 go_wp2_with fail
 refine (planSize_any s t i h _ HH.out).mono ?_
 rintro r w1 ⟨rfl, hb⟩
 rw [← Hn.out]
 replace HR := Lib.hid (row_below HR.out hb)
 replace HB := Lib.hid (below_only HB.out hb)
 clear hb x0 x1 x2 x3
 go_wp2_with fail
 refine (arnNew_any m n _ Hmm.out.1 Hmm.out.2.1 Hmm.out.2.2.1).mono ?_
 rintro r w2 ⟨p, b, rfl, hA, hpb, hb⟩
 have HA := Lib.hid hA
 replace HR := Lib.hid (row_below HR.out hb)
 have HB2 := Lib.hid (below_only HB.out hb)
 have Hpb : Hid (w.heap.size ≤ p ∧ w.heap.size ≤ b) := Lib.hid (by have := HB.out.size; omega)
 clear hb hA hpb HB
 obtain ⟨x0, x1, x2, x3, _⟩ := box4 HR.out
 go_wp2_with fail
 refine (planHeap_any s t i h _ HH.out).mono ?_
 rintro r w3 ⟨rfl, hb⟩
 rw [← Hz.out]
 replace HR := Lib.hid (row_below HR.out hb)
 replace HA := Lib.hid (HA.out.below hb)
 have HB3 := Lib.hid (below_only HB2.out hb)
 clear hb x0 x1 x2 x3 HB2
 go_upto_region 6 with fail
 refine one_row w3 _ _ ?_
 intro w4 hE hb
 replace HR := Lib.hid (row_below HR.out hb)
 replace HA := Lib.hid (HA.out.below hb)
 have HB4 := Lib.hid (below_only HB3.out hb)
 obtain ⟨x0, x1, _, _⟩ := box2 hE
 clear hb hE HB3
 go_wp2_with fail
 refine (new_good (z + i) h _ HG.out).mono ?_
 rintro r w5 ⟨g, q, rfl, hG, hb⟩
 have HGr := Lib.hid hG
 have Hgb : Hid (g ≠ p ∧ g ≠ b ∧ ∀ i, q = some i → i ≠ p ∧ i ≠ b) := Lib.hid (by
  have h1 := lt_of_heap HA.out.row
  have h2 := lt_of_heap HA.out.box
  have h3 := hG.low
  refine ⟨by omega, by omega, fun i hi => ?_⟩
  have h4 := (hG.lt.2 i hi).2
  omega)
 have Hlow : Hid (w.heap.size ≤ w4.heap.size) := Lib.hid HB4.out.size
 clear hG
 replace HR := Lib.hid (row_below HR.out hb)
 replace HA := Lib.hid (HA.out.below hb)
 have HB5 := Lib.hid (below_only HB4.out hb)
 clear hb HB4 x0 x1
 obtain ⟨x0, x1, x2, x3, _⟩ := box4 HR.out
 go_wp2_with fail
 refine (planImm_any s t i h _ HH.out).mono ?_
 rintro r w6 ⟨rfl, hb⟩
 rw [← Hz.out]
 replace HR := Lib.hid (row_below HR.out hb)
 replace HA := Lib.hid (HA.out.below hb)
 replace HGr := Lib.hid (HGr.out.below hb)
 have HB6 := Lib.hid (below_only HB5.out hb)
 clear hb HB5 x0 x1 x2 x3
 go_upto_region 8 with fail
 refine one_row w6 _ _ ?_
 intro w7 hE hb
 have HE := Lib.hid hE
 replace HR := Lib.hid (row_below HR.out hb)
 replace HA := Lib.hid (HA.out.below hb)
 replace HGr := Lib.hid (HGr.out.below hb)
 have HB7 := Lib.hid (below_only HB6.out hb)
 clear hb hE HB6
 obtain ⟨x0, x1, x2, x3, _⟩ := box4 HR.out
 go_upto_region 9 with fail
 refine one_row w7 _ _ ?_
 intro w8 hD hb
 have HD := Lib.hid (show w8.heap[w7.heap.size]? = some (.cells (blkV p s t i h 0) 127 (0, 0)) from hD)
 replace HE := Lib.hid (row_below HE.out hb)
 have Hne : Hid (b ≠ w7.heap.size ∧ b ≠ w6.heap.size) := Lib.hid (by
  have h1 := lt_of_heap HA.out.row
  constructor
  ·omega
  ·intro e
   have h2 := HE.out
   have h3 := (HA.out.below hb).row
   rw [e] at h3
   rw [h3] at h2
   simp at h2)
 replace HA := Lib.hid (HA.out.below hb)
 replace HGr := Lib.hid (HGr.out.below hb)
 have HB8 := Lib.hid (below_only HB7.out hb)
 clear hb hD HB7 x0 x1 x2 x3 HR
 have D := box6 HD.out
 obtain ⟨d0, d1, d2, d3, d4, d5⟩ := D
 have Hg := Lib.hid (show (List.replicate m (0:Int))[0]? = some 0 by have := Hmm.out; rw [List.getElem?_replicate, if_pos (by omega)])
 go_wp2_with fail
 refine (blkIs_any p b s t i h _ 0 0 0 immC _ HH.out HA.out Hg.out (by omega) (by have := HH.out.s0; omega) immC_right).mono ?_
 rintro r w9 ⟨rfl, hA, hK⟩
 replace HGr := Lib.hid (HGr.out.kept hK (by simpa using Hgb.out.2.1) (fun i hi => by simpa using (Hgb.out.2.2 i hi).2))
 have HA1 := Lib.hid hA
 have HK1 := Lib.hid hK
 replace HD := Lib.hid (hK.row HD.out (by simpa using fun e => Hne.out.1 e.symm))
 replace HE := Lib.hid (hK.row HE.out (by simpa using fun e => Hne.out.2 e.symm))
 clear hA hK d0 d1 d2 d3 d4 d5 Hg HA
 obtain ⟨d0, d1, d2, d3, d4, d5⟩ := box6 HD.out
 obtain ⟨e0, e1, _, _⟩ := box2 HE.out
 have Hg := Lib.hid (show ((List.replicate m (0:Int)).set 0 (word immC))[1]? = some 0 by have := Hmm.out; rw [List.getElem?_set, if_neg (by omega), List.getElem?_replicate, if_pos (by omega)])
 go_wp2_with fail
 refine (blkPut_any p b s t i h _ 1 0 z 1 0 _ HH.out HA1.out Hg.out (by omega) (by decide) (by have := HH.out.s0; omega) HZ.out.1).mono ?_
 rintro r w10 ⟨rfl, hA, hK⟩
 replace HGr := Lib.hid (HGr.out.kept hK (by simpa using Hgb.out.2.1) (fun i hi => by simpa using (Hgb.out.2.2 i hi).2))
 have HA2 := Lib.hid hA
 have HK2 := Lib.hid (HK1.out.trans hK)
 replace HD := Lib.hid (hK.row HD.out (by simpa using fun e => Hne.out.1 e.symm))
 replace HE := Lib.hid (hK.row HE.out (by simpa using fun e => Hne.out.2 e.symm))
 clear hA hK d0 d1 d2 d3 d4 d5 e0 e1 Hg HA1 HK1
 obtain ⟨d0, d1, d2, d3, d4, d5⟩ := box6 HD.out
 obtain ⟨e0, e1, _, _⟩ := box2 HE.out
 have Hg := Lib.hid (show (((List.replicate m (0:Int)).set 0 (word immC)).set 1 z)[2]? = some 0 by have := Hmm.out; rw [List.getElem?_set, if_neg (by omega), List.getElem?_set, if_neg (by omega), List.getElem?_replicate, if_pos (by omega)])
 go_wp2_with fail
 refine (blkPut_any p b s t i h _ 2 0 i 2 0 _ HH.out HA2.out Hg.out (by omega) (by decide) (by have := HH.out.s0; omega) HZ.out.2).mono ?_
 rintro r w11 ⟨rfl, hA, hK⟩
 replace HGr := Lib.hid (HGr.out.kept hK (by simpa using Hgb.out.2.1) (fun i hi => by simpa using (Hgb.out.2.2 i hi).2))
 have HI := Lib.hid (And.intro hA (Keep.under HB8.out (HK2.out.trans hK) (by have := HB8.out.size; omega) (by simp; exact Hpb.out.2)))
 clear hA hK d0 d1 d2 d3 d4 d5 e0 e1 Hg HA2 HK2 HD HE HB8
 go_wp2_with fail
 go_ret3
 exact ⟨p, b, g, q, rfl, by rw [HW.out]; exact HI.out.1, by rw [← Hz.out]; exact HGr.out.lower Hlow.out, Hpb.out, Hgb.out, HI.out.2⟩

end Go.Proofs.YtnimaajnlkbdaaaGreat
