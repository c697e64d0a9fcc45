/- Scopes laid down: the walks of found.New and of the document's New. Layer 14: found.New, and its ground. -/
import Derived.Test.YtbijaloeilnjoaaGreatFound
import Derived.Test.YtbijaloeilnjoaaGreatBRefC
import Derived.Test.YtbijaloeilnjoaaGreatMJ
namespace Go.Proofs.YtbijaloeilnjoaaGreat
open Go.RowKit
set_option linter.unusedVariables false
set_option linter.unusedSimpArgs false

/-- the immortal scope's control word -/
def immC : Ctl := ⟨2, 1, -1, 0⟩
theorem immC_right : Right immC := by decide
/-- the words of a new arena -/
def newWs (s i h : Int) : List Int := (((List.replicate ((64 * s + i + h) / 8).toNat 0).set 0 (word immC)).set 1 (64 * s)).set 2 i
theorem newWs_len (s i h : Int) : (newWs s i h).length = ((64 * s + i + h) / 8).toNat := by simp [newWs]


@[go_sem] theorem fieldExt0 (a b : Int) (w : World) : (Instr.field 124 (.agg #[.int .i64 a, .int .i64 b]) 0).run Tryz.prog w = .ok (.int .i64 a) w := by kernel_rfl
theorem infoU64 : (Tryz.prog.info? 36).map (fun i => (i.zero, i.size, i.bytes)) = some (some (.int .u64 0), 1, 8) := by kernel_rfl
theorem made_u64 (m : Nat) : madeCells (Value.int .u64 0).cells (m * 1) = ((List.replicate m (0:Int)).map (Value.int .u64)).toArray := by
 apply Array.ext'
 apply List.ext_getElem?
 intro j
 simp only [madeCells, Value.cells]
 by_cases h : j < m
 ·simp [h, Nat.mod_one]
 ·simp [h]

set_option maxRecDepth 100000 in
set_option maxHeartbeats 2000000 in
theorem rarnNew_any (m : Nat) (n : Int) (w : World) (h0 : 1 ≤ m) (h1 : m ≤ 8192) (hn : n = 8 * (m : Int)) :
  Calls Tryz.prog 69 #[.int .i64 n] w fun r w' => ∃ q b, r = .returned (.pointer (some ⟨q, 0, none⟩)) ∧ RArn w' q b (List.replicate m 0) ∧ (w.heap.size ≤ q ∧ w.heap.size ≤ b) ∧ Below w.heap.size w w' := by
 obtain ⟨i0, hi0, hz0, hz1, hz2⟩ := info_parts infoU64
 have hmk := fun W => run_make_rowN (P := Tryz.prog) 71 36 i0 (.int .u64 0) Tryz.underlying71 hi0 hz0 .i64 .i64 m m (Nat.le_refl _) (by rw [hz2]; omega) (by omega) W
 rw [hz1, made_u64] at hmk
 obtain ⟨cs, Hcs⟩ : ∃ cs, Hid (((List.replicate m (0:Int)).map (Value.int .u64)).toArray = cs) := ⟨_, Lib.hid rfl⟩
 rw [Hcs.out] at hmk
 have e1 : n.tdiv 8 = m := by rw [Int.tdiv_eq_ediv_of_nonneg (by omega)]; omega
 have e2 : n / 8 = m := by omega
 have n0 : 0 ≤ n := by omega
 have n1 : n ≤ 65536 := by omega
 have Hm := Lib.hid (And.intro h0 h1)
 clear hn h0 h1
 go_enter Tryz.func69, Tryz.ntmps69
 go_wp2
 go_ret
 refine ⟨w.heap.size + 1, w.heap.size, rfl, ⟨?_, row_alloc (by rw [Hcs.out]; exact row_new _ _ _), ?_, by omega, ?_, ?_⟩, by omega, by go_grown⟩
 ·rw [List.length_replicate]; exact row_at (by simp)
 ·intro x hx
  obtain rfl := List.eq_of_mem_replicate hx
  omega
 ·rw [List.length_replicate]; exact Hm.out.2
 ·rw [List.length_replicate]; exact Hm.out.1

set_option maxRecDepth 100000 in
set_option maxHeartbeats 2000000 in
theorem rplanHeap_any (s t i h : Int) (w : World) (H : PlanOk s t i h) :
  Calls Tryz.prog 68 #[.agg #[.int .i64 s, .int .i64 t, .int .i64 i, .int .i64 h]] w fun r w' => r = .returned (.agg #[.int .i64 (64 * s + i), .int .i64 h]) ∧ Below w.heap.size w w' := by
 obtain ⟨s0, s1, t0, t1, i0, i1, h0, h1, i8, h8⟩ := H
 clear t0 t1 i8 h8
 go_enter Tryz.func68, Tryz.ntmps68
 go_upto_region 1 with fail
 refine two_rows' w _ _ _ _ ?_
 intro W hR hQ hB
 obtain ⟨x0, x1, x2, x3, _⟩ := box4 hR
 obtain ⟨y0, y1, y0f, y1f⟩ := box2 hQ
 have zq := lt_of_heap hQ
 have HQ := Lib.hid hQ
 clear hR hQ
 go_wp2_with fail
 refine bodyPost_ret (results_cell_row (fn := Tryz.f68) rfl _ _ (w.heap.size + 1) 124 #[.int .i64 (64 * s + i), .int .i64 h] (0, 0) _ rfl (row_two HQ.out) Tryz.underlying124 rfl infoExt2) rfl ?_
 exact ⟨rfl, by go_grown⟩

set_option maxRecDepth 100000 in
set_option maxHeartbeats 2000000 in
theorem rplanImmortal_any (s t i h : Int) (w : World) (H : PlanOk s t i h) :
  Calls Tryz.prog 72 #[.agg #[.int .i64 s, .int .i64 t, .int .i64 i, .int .i64 h]] w fun r w' => r = .returned (.agg #[.int .i64 (64 * s), .int .i64 i]) ∧ Below w.heap.size w w' := by
 obtain ⟨s0, s1, t0, t1, i0, i1, h0, h1, i8, h8⟩ := H
 clear t0 t1 i8 h8
 go_enter Tryz.func72, Tryz.ntmps72
 go_upto_region 1 with fail
 refine two_rows' w _ _ _ _ ?_
 intro W hR hQ hB
 obtain ⟨x0, x1, x2, x3, _⟩ := box4 hR
 obtain ⟨y0, y1, y0f, y1f⟩ := box2 hQ
 have zq := lt_of_heap hQ
 have HQ := Lib.hid hQ
 clear hR hQ
 go_wp2_with fail
 refine bodyPost_ret (results_cell_row (fn := Tryz.f72) rfl _ _ (w.heap.size + 1) 124 #[.int .i64 (64 * s), .int .i64 i] (0, 0) _ rfl (row_two HQ.out) Tryz.underlying124 rfl infoExt2) rfl ?_
 exact ⟨rfl, by go_grown⟩

set_option maxRecDepth 100000 in
set_option maxHeartbeats 2000000 in
theorem rplanSize_any (s t i h : Int) (w : World) (H : PlanOk s t i h) :
  Calls Tryz.prog 70 #[.agg #[.int .i64 s, .int .i64 t, .int .i64 i, .int .i64 h]] w fun r w' => r = .returned (.int .i64 (64 * s + i + h)) ∧ Below w.heap.size w w' := by
 obtain ⟨s0, s1, t0, t1, i0, i1, h0, h1, i8, h8⟩ := H
 clear t0 t1 i8 h8
 go_enter Tryz.func70, Tryz.ntmps70
 go_upto_region 1 with fail
 refine one_row w _ _ ?_
 intro W hR hB
 obtain ⟨x0, x1, x2, x3, _⟩ := box4 hR
 clear hR
 go_wp2_with fail
 go_ret
 exact ⟨rfl, by go_grown⟩


end Go.Proofs.YtbijaloeilnjoaaGreat

namespace Go.Proofs.YtbijaloeilnjoaaGreat
open Go.RowKit
set_option linter.unusedVariables false
set_option linter.unusedSimpArgs false

set_option maxRecDepth 100000 in
set_option maxHeartbeats 4000000 in
theorem foundNewG_any (s t i h : Int) (w : World) (H : PlanOk s t i h) :
  Calls Tryz.prog 30 #[.agg #[.int .i64 s, .int .i64 t, .int .i64 i, .int .i64 h]] w fun r w' => ∃ p b g q, r = .returned (.tuple #[.pointer (some ⟨p, 0, none⟩), .pointer (some ⟨g, 0, none⟩), .int .i64 0]) ∧ Arn w' p b (newWs s i h) ∧ Gr w.heap.size w' g (64 * s + i) (64 * s + i + h) (oneExt (64 * s + i) h) q ∧ (w.heap.size ≤ p ∧ w.heap.size ≤ b) ∧ (g ≠ p ∧ g ≠ b ∧ ∀ i, q = some i → i ≠ p ∧ i ≠ b) ∧ Below w.heap.size w w' := by
 obtain ⟨m, Hm⟩ : ∃ m, Hid (m = ((64 * s + i + h) / 8).toNat) := ⟨_, Lib.hid rfl⟩
 obtain ⟨s0, s1, t0, t1, i0, i1, h0, h1, i8, h8⟩ := H
 have HH := Lib.hid (PlanOk.mk s0 s1 t0 t1 i0 i1 h0 h1 i8 h8)
 obtain ⟨z, Hz⟩ : ∃ z, Hid (z = 64 * s) := ⟨_, Lib.hid rfl⟩
 obtain ⟨n, Hn⟩ : ∃ n, Hid (n = 64 * s + i + h) := ⟨_, Lib.hid rfl⟩
 have Hmm := Lib.hid (show 1 ≤ m ∧ m ≤ 8192 ∧ n = ((m * 8 : Nat) : Int) ∧ 8 ≤ m by have := Hm.out; have := Hn.out; omega)
 have HG := Lib.hid (show newMay (z + i) h = true by
  have := Hz.out
  unfold newMay
  rw [inB_t (by omega), inB_t (by omega), decide_eq_true (by omega), decide_eq_true (by omega)]; rfl)
 have HZ := Lib.hid (show (0 ≤ z ∧ z < 18446744073709551616) ∧ (0 ≤ i ∧ i < 18446744073709551616) by have := Hz.out; omega)
 have HW : Hid (newWs s i h = (((List.replicate m 0).set 0 (word immC)).set 1 z).set 2 i) := Lib.hid (by unfold newWs; rw [← Hm.out, ← Hz.out])
 have z0 : 0 ≤ z := HZ.out.1.1
 have z1 : z ≤ 18446744073709551615 := by have := Hz.out; omega
 clear s0 s1 t0 t1 h0 h1 i8 h8 Hm
 go_enter Tryz.func30, Tryz.ntmps30
 go_upto_region 1 with fail
 refine one_row w _ _ ?_
 intro W hR hB
 obtain ⟨x0, x1, x2, x3, _⟩ := box4 hR
 have HR := Lib.hid hR
 have HB := Lib.hid hB
 clear hR hB
 go_wp2_with fail
 refine (planSize_any s t i h _ HH.out).mono ?_
 rintro r w1 ⟨rfl, hb⟩
 rw [← Hn.out]
 replace HR := Lib.hid (row_below HR.out hb)
 replace HB := Lib.hid (below_only HB.out hb)
 clear hb x0 x1 x2 x3
 go_wp2_with fail
 refine (arnNew_any m n _ Hmm.out.1 Hmm.out.2.1 Hmm.out.2.2.1).mono ?_
 rintro r w2 ⟨p, b, rfl, hA, hpb, hb⟩
 have HA := Lib.hid hA
 replace HR := Lib.hid (row_below HR.out hb)
 have HB2 := Lib.hid (below_only HB.out hb)
 have Hpb : Hid (w.heap.size ≤ p ∧ w.heap.size ≤ b) := Lib.hid (by have := HB.out.size; omega)
 clear hb hA hpb HB
 obtain ⟨x0, x1, x2, x3, _⟩ := box4 HR.out
 go_wp2_with fail
 refine (planHeap_any s t i h _ HH.out).mono ?_
 rintro r w3 ⟨rfl, hb⟩
 rw [← Hz.out]
 replace HR := Lib.hid (row_below HR.out hb)
 replace HA := Lib.hid (HA.out.below hb)
 have HB3 := Lib.hid (below_only HB2.out hb)
 clear hb x0 x1 x2 x3 HB2
 go_upto_region 6 with fail
 refine one_row w3 _ _ ?_
 intro w4 hE hb
 replace HR := Lib.hid (row_below HR.out hb)
 replace HA := Lib.hid (HA.out.below hb)
 have HB4 := Lib.hid (below_only HB3.out hb)
 obtain ⟨x0, x1, _, _⟩ := box2 hE
 clear hb hE HB3
 go_wp2_with fail
 refine (new_good (z + i) h _ HG.out).mono ?_
 rintro r w5 ⟨g, q, rfl, hG, hb⟩
 have HGr := Lib.hid hG
 have Hgb : Hid (g ≠ p ∧ g ≠ b ∧ ∀ i, q = some i → i ≠ p ∧ i ≠ b) := Lib.hid (by
  have h1 := lt_of_heap HA.out.row
  have h2 := lt_of_heap HA.out.box
  have h3 := hG.low
  refine ⟨by omega, by omega, fun i hi => ?_⟩
  have h4 := (hG.lt.2 i hi).2
  omega)
 have Hlow : Hid (w.heap.size ≤ w4.heap.size) := Lib.hid HB4.out.size
 clear hG
 replace HR := Lib.hid (row_below HR.out hb)
 replace HA := Lib.hid (HA.out.below hb)
 have HB5 := Lib.hid (below_only HB4.out hb)
 clear hb HB4 x0 x1
 obtain ⟨x0, x1, x2, x3, _⟩ := box4 HR.out
 go_wp2_with fail
 refine (planImm_any s t i h _ HH.out).mono ?_
 rintro r w6 ⟨rfl, hb⟩
 rw [← Hz.out]
 replace HR := Lib.hid (row_below HR.out hb)
 replace HA := Lib.hid (HA.out.below hb)
 replace HGr := Lib.hid (HGr.out.below hb)
 have HB6 := Lib.hid (below_only HB5.out hb)
 clear hb HB5 x0 x1 x2 x3
 go_upto_region 8 with fail
 refine one_row w6 _ _ ?_
 intro w7 hE hb
 have HE := Lib.hid hE
 replace HR := Lib.hid (row_below HR.out hb)
 replace HA := Lib.hid (HA.out.below hb)
 replace HGr := Lib.hid (HGr.out.below hb)
 have HB7 := Lib.hid (below_only HB6.out hb)
 clear hb hE HB6
 obtain ⟨x0, x1, x2, x3, _⟩ := box4 HR.out
 go_upto_region 9 with fail
 refine one_row w7 _ _ ?_
 intro w8 hD hb
 have HD := Lib.hid (show w8.heap[w7.heap.size]? = some (.cells (blkV p s t i h 0) 130 (0, 0)) from hD)
 replace HE := Lib.hid (row_below HE.out hb)
 have Hne : Hid (b ≠ w7.heap.size ∧ b ≠ w6.heap.size) := Lib.hid (by
  have h1 := lt_of_heap HA.out.row
  constructor
  ·omega
  ·intro e
   have h2 := HE.out
   have h3 := (HA.out.below hb).row
   rw [e] at h3
   rw [h3] at h2
   simp at h2)
 replace HA := Lib.hid (HA.out.below hb)
 replace HGr := Lib.hid (HGr.out.below hb)
 have HB8 := Lib.hid (below_only HB7.out hb)
 clear hb hD HB7 x0 x1 x2 x3 HR
 have D := box6 HD.out
 obtain ⟨d0, d1, d2, d3, d4, d5⟩ := D
 have Hg := Lib.hid (show (List.replicate m (0:Int))[0]? = some 0 by have := Hmm.out; rw [List.getElem?_replicate, if_pos (by omega)])
 go_wp2_with fail
 refine (blkIs_any p b s t i h _ 0 0 0 immC _ HH.out HA.out Hg.out (by omega) (by have := HH.out.s0; omega) immC_right).mono ?_
 rintro r w9 ⟨rfl, hA, hK⟩
 replace HGr := Lib.hid (HGr.out.kept hK (by simpa using Hgb.out.2.1) (fun i hi => by simpa using (Hgb.out.2.2 i hi).2))
 have HA1 := Lib.hid hA
 have HK1 := Lib.hid hK
 replace HD := Lib.hid (hK.row HD.out (by simpa using fun e => Hne.out.1 e.symm))
 replace HE := Lib.hid (hK.row HE.out (by simpa using fun e => Hne.out.2 e.symm))
 clear hA hK d0 d1 d2 d3 d4 d5 Hg HA
 obtain ⟨d0, d1, d2, d3, d4, d5⟩ := box6 HD.out
 obtain ⟨e0, e1, _, _⟩ := box2 HE.out
 have Hg := Lib.hid (show ((List.replicate m (0:Int)).set 0 (word immC))[1]? = some 0 by have := Hmm.out; rw [List.getElem?_set, if_neg (by omega), List.getElem?_replicate, if_pos (by omega)])
 go_wp2_with fail
 refine (blkPut_any p b s t i h _ 1 0 z 1 0 _ HH.out HA1.out Hg.out (by omega) (by decide) (by have := HH.out.s0; omega) HZ.out.1).mono ?_
 rintro r w10 ⟨rfl, hA, hK⟩
 replace HGr := Lib.hid (HGr.out.kept hK (by simpa using Hgb.out.2.1) (fun i hi => by simpa using (Hgb.out.2.2 i hi).2))
 have HA2 := Lib.hid hA
 have HK2 := Lib.hid (HK1.out.trans hK)
 replace HD := Lib.hid (hK.row HD.out (by simpa using fun e => Hne.out.1 e.symm))
 replace HE := Lib.hid (hK.row HE.out (by simpa using fun e => Hne.out.2 e.symm))
 clear hA hK d0 d1 d2 d3 d4 d5 e0 e1 Hg HA1 HK1
 obtain ⟨d0, d1, d2, d3, d4, d5⟩ := box6 HD.out
 obtain ⟨e0, e1, _, _⟩ := box2 HE.out
 have Hg := Lib.hid (show (((List.replicate m (0:Int)).set 0 (word immC)).set 1 z)[2]? = some 0 by have := Hmm.out; rw [List.getElem?_set, if_neg (by omega), List.getElem?_set, if_neg (by omega), List.getElem?_replicate, if_pos (by omega)])
 go_wp2_with fail
 refine (blkPut_any p b s t i h _ 2 0 i 2 0 _ HH.out HA2.out Hg.out (by omega) (by decide) (by have := HH.out.s0; omega) HZ.out.2).mono ?_
 rintro r w11 ⟨rfl, hA, hK⟩
 replace HGr := Lib.hid (HGr.out.kept hK (by simpa using Hgb.out.2.1) (fun i hi => by simpa using (Hgb.out.2.2 i hi).2))
 have HI := Lib.hid (And.intro hA (Keep.under HB8.out (HK2.out.trans hK) (by have := HB8.out.size; omega) (by simp; exact Hpb.out.2)))
 clear hA hK d0 d1 d2 d3 d4 d5 e0 e1 Hg HA2 HK2 HD HE HB8
 go_wp2_with fail
 go_ret3
 exact ⟨p, b, g, q, rfl, by rw [HW.out]; exact HI.out.1, by rw [← Hz.out]; exact HGr.out.lower Hlow.out, Hpb.out, Hgb.out, HI.out.2⟩

end Go.Proofs.YtbijaloeilnjoaaGreat
