/- Scopes laid down: the walks of found.New and of the document's New. -/
import Derived.Test.YtnimaajnlkbdaaaGreatFound
import Derived.Test.YtnimaajnlkbdaaaGreatBRefC
namespace Go.Proofs.YtnimaajnlkbdaaaGreat
open Go.RowKit
set_option linter.unusedVariables false
set_option linter.unusedSimpArgs false

/-- the immortal scope's control word -/
def immC : Ctl := ⟨2, 1, -1, 0⟩
theorem immC_right : Right immC := by decide
/-- the words of a new arena -/
def newWs (s i h : Int) : List Int := (((List.replicate ((64 * s + i + h) / 8).toNat 0).set 0 (word immC)).set 1 (64 * s)).set 2 i
theorem newWs_len (s i h : Int) : (newWs s i h).length = ((64 * s + i + h) / 8).toNat := by simp [newWs]

set_option maxRecDepth 100000 in
set_option maxHeartbeats 2000000 in
theorem foundNew_any (s t i h : Int) (w : World) (H : PlanOk s t i h) :
    Calls Tryz.prog 24 #[.agg #[.int .i64 s, .int .i64 t, .int .i64 i, .int .i64 h]] w fun r w' => ∃ p b g, r = .returned (.tuple #[.pointer (some ⟨p, 0, none⟩), .pointer (some ⟨g, 0, none⟩), .int .i64 0]) ∧ Arn w' p b (newWs s i h) ∧ (w.heap.size ≤ p ∧ w.heap.size ≤ b) ∧ Below w.heap.size w w' := by
  obtain ⟨m, Hm⟩ : ∃ m, Hid (m = ((64 * s + i + h) / 8).toNat) := ⟨_, Lib.hid rfl⟩
  obtain ⟨s0, s1, t0, t1, i0, i1, h0, h1, i8, h8⟩ := H
  have HH := Lib.hid (PlanOk.mk s0 s1 t0 t1 i0 i1 h0 h1 i8 h8)
  obtain ⟨z, Hz⟩ : ∃ z, Hid (z = 64 * s) := ⟨_, Lib.hid rfl⟩
  obtain ⟨n, Hn⟩ : ∃ n, Hid (n = 64 * s + i + h) := ⟨_, Lib.hid rfl⟩
  have Hmm := Lib.hid (show 1 ≤ m ∧ m ≤ 8192 ∧ n = ((m * 8 : Nat) : Int) ∧ 8 ≤ m by have := Hm.out; have := Hn.out; omega)
  have HG := Lib.hid (show newMay (z + i) h = true by
    have := Hz.out
    unfold newMay
    rw [inB_t (by omega), inB_t (by omega), decide_eq_true (by omega), decide_eq_true (by omega)]; rfl)
  have HZ := Lib.hid (show (0 ≤ z ∧ z < 18446744073709551616) ∧ (0 ≤ i ∧ i < 18446744073709551616) by have := Hz.out; omega)
  have HW : Hid (newWs s i h = (((List.replicate m 0).set 0 (word immC)).set 1 z).set 2 i) := Lib.hid (by unfold newWs; rw [← Hm.out, ← Hz.out])
  have z0 : 0 ≤ z := HZ.out.1.1
  have z1 : z ≤ 18446744073709551615 := by have := Hz.out; omega
  clear s0 s1 t0 t1 h0 h1 i8 h8 Hm
  go_enter Tryz.func24, Tryz.ntmps24
  go_upto_region 1 with fail
  refine one_row w _ _ ?_
  intro W hR hB
  obtain ⟨x0, x1, x2, x3, _⟩ := box4 hR
  have HR := Lib.hid hR
  have HB := Lib.hid hB
  clear hR hB
  go_wp2_with fail
  refine (planSize_any s t i h _ HH.out).mono ?_
  rintro r w1 ⟨rfl, hb⟩
  rw [← Hn.out]
  replace HR := Lib.hid (row_below HR.out hb)
  replace HB := Lib.hid (below_only HB.out hb)
  clear hb x0 x1 x2 x3
  go_wp2_with fail
  refine (arnNew_any m n _ Hmm.out.1 Hmm.out.2.1 Hmm.out.2.2.1).mono ?_
  rintro r w2 ⟨p, b, rfl, hA, hpb, hb⟩
  have HA := Lib.hid hA
  replace HR := Lib.hid (row_below HR.out hb)
  have HB2 := Lib.hid (below_only HB.out hb)
  have Hpb : Hid (w.heap.size ≤ p ∧ w.heap.size ≤ b) := Lib.hid (by have := HB.out.size; omega)
  clear hb hA hpb HB
  obtain ⟨x0, x1, x2, x3, _⟩ := box4 HR.out
  go_wp2_with fail
  refine (planHeap_any s t i h _ HH.out).mono ?_
  rintro r w3 ⟨rfl, hb⟩
  rw [← Hz.out]
  replace HR := Lib.hid (row_below HR.out hb)
  replace HA := Lib.hid (HA.out.below hb)
  have HB3 := Lib.hid (below_only HB2.out hb)
  clear hb x0 x1 x2 x3 HB2
  go_upto_region 6 with fail
  refine one_row w3 _ _ ?_
  intro w4 hE hb
  replace HR := Lib.hid (row_below HR.out hb)
  replace HA := Lib.hid (HA.out.below hb)
  have HB4 := Lib.hid (below_only HB3.out hb)
  obtain ⟨x0, x1, _, _⟩ := box2 hE
  clear hb hE HB3
  go_wp2_with fail
  refine (new_good (z + i) h _ HG.out).mono ?_
  rintro r w5 ⟨g, q, rfl, -, hb⟩
  replace HR := Lib.hid (row_below HR.out hb)
  replace HA := Lib.hid (HA.out.below hb)
  have HB5 := Lib.hid (below_only HB4.out hb)
  clear hb HB4 x0 x1
  obtain ⟨x0, x1, x2, x3, _⟩ := box4 HR.out
  go_wp2_with fail
  refine (planImm_any s t i h _ HH.out).mono ?_
  rintro r w6 ⟨rfl, hb⟩
  rw [← Hz.out]
  replace HR := Lib.hid (row_below HR.out hb)
  replace HA := Lib.hid (HA.out.below hb)
  have HB6 := Lib.hid (below_only HB5.out hb)
  clear hb HB5 x0 x1 x2 x3
  go_upto_region 8 with fail
  refine one_row w6 _ _ ?_
  intro w7 hE hb
  have HE := Lib.hid hE
  replace HR := Lib.hid (row_below HR.out hb)
  replace HA := Lib.hid (HA.out.below hb)
  have HB7 := Lib.hid (below_only HB6.out hb)
  clear hb hE HB6
  obtain ⟨x0, x1, x2, x3, _⟩ := box4 HR.out
  go_upto_region 9 with fail
  refine one_row w7 _ _ ?_
  intro w8 hD hb
  have HD := Lib.hid (show w8.heap[w7.heap.size]? = some (.cells (blkV p s t i h 0) 127 (0, 0)) from hD)
  replace HE := Lib.hid (row_below HE.out hb)
  have Hne : Hid (b ≠ w7.heap.size ∧ b ≠ w6.heap.size) := Lib.hid (by
    have h1 := lt_of_heap HA.out.row
    constructor
    · omega
    · intro e
      have h2 := HE.out
      have h3 := (HA.out.below hb).row
      rw [e] at h3
      rw [h3] at h2
      simp at h2)
  replace HA := Lib.hid (HA.out.below hb)
  have HB8 := Lib.hid (below_only HB7.out hb)
  clear hb hD HB7 x0 x1 x2 x3 HR
  have D := box6 HD.out
  obtain ⟨d0, d1, d2, d3, d4, d5⟩ := D
  have Hg := Lib.hid (show (List.replicate m (0:Int))[0]? = some 0 by have := Hmm.out; rw [List.getElem?_replicate, if_pos (by omega)])
  go_wp2_with fail
  refine (blkIs_any p b s t i h _ 0 0 0 immC _ HH.out HA.out Hg.out (by omega) (by have := HH.out.s0; omega) immC_right).mono ?_
  rintro r w9 ⟨rfl, hA, hK⟩
  have HA1 := Lib.hid hA
  have HK1 := Lib.hid hK
  replace HD := Lib.hid (hK.row HD.out (by simpa using fun e => Hne.out.1 e.symm))
  replace HE := Lib.hid (hK.row HE.out (by simpa using fun e => Hne.out.2 e.symm))
  clear hA hK d0 d1 d2 d3 d4 d5 Hg HA
  obtain ⟨d0, d1, d2, d3, d4, d5⟩ := box6 HD.out
  obtain ⟨e0, e1, _, _⟩ := box2 HE.out
  have Hg := Lib.hid (show ((List.replicate m (0:Int)).set 0 (word immC))[1]? = some 0 by have := Hmm.out; rw [List.getElem?_set, if_neg (by omega), List.getElem?_replicate, if_pos (by omega)])
  go_wp2_with fail
  refine (blkPut_any p b s t i h _ 1 0 z 1 0 _ HH.out HA1.out Hg.out (by omega) (by decide) (by have := HH.out.s0; omega) HZ.out.1).mono ?_
  rintro r w10 ⟨rfl, hA, hK⟩
  have HA2 := Lib.hid hA
  have HK2 := Lib.hid (HK1.out.trans hK)
  replace HD := Lib.hid (hK.row HD.out (by simpa using fun e => Hne.out.1 e.symm))
  replace HE := Lib.hid (hK.row HE.out (by simpa using fun e => Hne.out.2 e.symm))
  clear hA hK d0 d1 d2 d3 d4 d5 e0 e1 Hg HA1 HK1
  obtain ⟨d0, d1, d2, d3, d4, d5⟩ := box6 HD.out
  obtain ⟨e0, e1, _, _⟩ := box2 HE.out
  have Hg := Lib.hid (show (((List.replicate m (0:Int)).set 0 (word immC)).set 1 z)[2]? = some 0 by have := Hmm.out; rw [List.getElem?_set, if_neg (by omega), List.getElem?_set, if_neg (by omega), List.getElem?_replicate, if_pos (by omega)])
  go_wp2_with fail
  refine (blkPut_any p b s t i h _ 2 0 i 2 0 _ HH.out HA2.out Hg.out (by omega) (by decide) (by have := HH.out.s0; omega) HZ.out.2).mono ?_
  rintro r w11 ⟨rfl, hA, hK⟩
  have HI := Lib.hid (And.intro hA (Keep.under HB8.out (HK2.out.trans hK) (by have := HB8.out.size; omega) (by simp; exact Hpb.out.2)))
  clear hA hK d0 d1 d2 d3 d4 d5 e0 e1 Hg HA2 HK2 HD HE HB8
  go_wp2_with fail
  go_ret3
  exact ⟨p, b, g, rfl, by rw [HW.out]; exact HI.out.1, Hpb.out, HI.out.2⟩

@[go_sem] theorem fieldExt0 (a b : Int) (w : World) : (Instr.field 121 (.agg #[.int .i64 a, .int .i64 b]) 0).run Tryz.prog w = .ok (.int .i64 a) w := by kernel_rfl
theorem infoU64 : (Tryz.prog.info? 23).map (fun i => (i.zero, i.size, i.bytes)) = some (some (.int .u64 0), 1, 8) := by kernel_rfl
theorem made_u64 (m : Nat) : madeCells (Value.int .u64 0).cells (m * 1) = ((List.replicate m (0:Int)).map (Value.int .u64)).toArray := by
  apply Array.ext'
  apply List.ext_getElem?
  intro j
  simp only [madeCells, Value.cells]
  by_cases h : j < m
  · simp [h, Nat.mod_one]
  · simp [h]

set_option maxRecDepth 100000 in
set_option maxHeartbeats 2000000 in
theorem rarnNew_any (m : Nat) (n : Int) (w : World) (h0 : 1 ≤ m) (h1 : m ≤ 8192) (hn : n = 8 * (m : Int)) :
    Calls Tryz.prog 63 #[.int .i64 n] w fun r w' => ∃ q b, r = .returned (.pointer (some ⟨q, 0, none⟩)) ∧ RArn w' q b (List.replicate m 0) ∧ (w.heap.size ≤ q ∧ w.heap.size ≤ b) ∧ Below w.heap.size w w' := by
  obtain ⟨i0, hi0, hz0, hz1, hz2⟩ := info_parts infoU64
  have hmk := fun W => run_make_rowN (P := Tryz.prog) 53 23 i0 (.int .u64 0) Tryz.underlying53 hi0 hz0 .i64 .i64 m m (Nat.le_refl _) (by rw [hz2]; omega) (by omega) W
  rw [hz1, made_u64] at hmk
  obtain ⟨cs, Hcs⟩ : ∃ cs, Hid (((List.replicate m (0:Int)).map (Value.int .u64)).toArray = cs) := ⟨_, Lib.hid rfl⟩
  rw [Hcs.out] at hmk
  have e1 : n.tdiv 8 = m := by rw [Int.tdiv_eq_ediv_of_nonneg (by omega)]; omega
  have e2 : n / 8 = m := by omega
  have n0 : 0 ≤ n := by omega
  have n1 : n ≤ 65536 := by omega
  have Hm := Lib.hid (And.intro h0 h1)
  clear hn h0 h1
  go_enter Tryz.func63, Tryz.ntmps63
  go_wp2
  go_ret
  refine ⟨w.heap.size + 1, w.heap.size, rfl, ⟨?_, row_alloc (by rw [Hcs.out]; exact row_new _ _ _), ?_, by omega, ?_, ?_⟩, by omega, by go_grown⟩
  · rw [List.length_replicate]; exact row_at (by simp)
  · intro x hx
    obtain rfl := List.eq_of_mem_replicate hx
    omega
  · rw [List.length_replicate]; exact Hm.out.2
  · rw [List.length_replicate]; exact Hm.out.1

set_option maxRecDepth 100000 in
set_option maxHeartbeats 2000000 in
theorem rplanHeap_any (s t i h : Int) (w : World) (H : PlanOk s t i h) :
    Calls Tryz.prog 62 #[.agg #[.int .i64 s, .int .i64 t, .int .i64 i, .int .i64 h]] w fun r w' => r = .returned (.agg #[.int .i64 (64 * s + i), .int .i64 h]) ∧ Below w.heap.size w w' := by
  obtain ⟨s0, s1, t0, t1, i0, i1, h0, h1, i8, h8⟩ := H
  clear t0 t1 i8 h8
  go_enter Tryz.func62, Tryz.ntmps62
  go_upto_region 1 with fail
  refine two_rows' w _ _ _ _ ?_
  intro W hR hQ hB
  obtain ⟨x0, x1, x2, x3, _⟩ := box4 hR
  obtain ⟨y0, y1, y0f, y1f⟩ := box2 hQ
  have zq := lt_of_heap hQ
  have HQ := Lib.hid hQ
  clear hR hQ
  go_wp2_with fail
  refine bodyPost_ret (results_cell_row (fn := Tryz.f62) rfl _ _ (w.heap.size + 1) 121 #[.int .i64 (64 * s + i), .int .i64 h] (0, 0) _ rfl (row_two HQ.out) Tryz.underlying121 rfl infoExt2) rfl ?_
  exact ⟨rfl, by go_grown⟩

set_option maxRecDepth 100000 in
set_option maxHeartbeats 2000000 in
theorem rplanImmortal_any (s t i h : Int) (w : World) (H : PlanOk s t i h) :
    Calls Tryz.prog 67 #[.agg #[.int .i64 s, .int .i64 t, .int .i64 i, .int .i64 h]] w fun r w' => r = .returned (.agg #[.int .i64 (64 * s), .int .i64 i]) ∧ Below w.heap.size w w' := by
  obtain ⟨s0, s1, t0, t1, i0, i1, h0, h1, i8, h8⟩ := H
  clear t0 t1 i8 h8
  go_enter Tryz.func67, Tryz.ntmps67
  go_upto_region 1 with fail
  refine two_rows' w _ _ _ _ ?_
  intro W hR hQ hB
  obtain ⟨x0, x1, x2, x3, _⟩ := box4 hR
  obtain ⟨y0, y1, y0f, y1f⟩ := box2 hQ
  have zq := lt_of_heap hQ
  have HQ := Lib.hid hQ
  clear hR hQ
  go_wp2_with fail
  refine bodyPost_ret (results_cell_row (fn := Tryz.f67) rfl _ _ (w.heap.size + 1) 121 #[.int .i64 (64 * s), .int .i64 i] (0, 0) _ rfl (row_two HQ.out) Tryz.underlying121 rfl infoExt2) rfl ?_
  exact ⟨rfl, by go_grown⟩

set_option maxRecDepth 100000 in
set_option maxHeartbeats 2000000 in
theorem rplanSize_any (s t i h : Int) (w : World) (H : PlanOk s t i h) :
    Calls Tryz.prog 64 #[.agg #[.int .i64 s, .int .i64 t, .int .i64 i, .int .i64 h]] w fun r w' => r = .returned (.int .i64 (64 * s + i + h)) ∧ Below w.heap.size w w' := by
  obtain ⟨s0, s1, t0, t1, i0, i1, h0, h1, i8, h8⟩ := H
  clear t0 t1 i8 h8
  go_enter Tryz.func64, Tryz.ntmps64
  go_upto_region 1 with fail
  refine one_row w _ _ ?_
  intro W hR hB
  obtain ⟨x0, x1, x2, x3, _⟩ := box4 hR
  clear hR
  go_wp2_with fail
  go_ret
  exact ⟨rfl, by go_grown⟩

set_option maxRecDepth 100000 in
set_option maxHeartbeats 2000000 in
theorem rallNew_any (s t i h : Int) (w : World) (H : PlanOk s t i h) :
    Calls Tryz.prog 25 #[.agg #[.int .i64 s, .int .i64 t, .int .i64 i, .int .i64 h], .slice none 0 0] w fun r w' => ∃ X q b, r = .returned (.pointer (some ⟨X, 0, none⟩)) ∧ RAll w' X q b s t i h (newWs s i h) ∧ (w.heap.size ≤ X ∧ w.heap.size ≤ q ∧ w.heap.size ≤ b) ∧ Below w.heap.size w w' := by
  obtain ⟨m, Hm⟩ : ∃ m, Hid (m = ((64 * s + i + h) / 8).toNat) := ⟨_, Lib.hid rfl⟩
  obtain ⟨m2, Hm2⟩ : ∃ m, Hid (m = (h / 8).toNat) := ⟨_, Lib.hid rfl⟩
  obtain ⟨s0, s1, t0, t1, i0, i1, h0, h1, i8, h8⟩ := H
  have HH := Lib.hid (PlanOk.mk s0 s1 t0 t1 i0 i1 h0 h1 i8 h8)
  obtain ⟨z, Hz⟩ : ∃ z, Hid (z = 64 * s) := ⟨_, Lib.hid rfl⟩
  obtain ⟨n, Hn⟩ : ∃ n, Hid (n = 64 * s + i + h) := ⟨_, Lib.hid rfl⟩
  have Hmm := Lib.hid (show 1 ≤ m ∧ m ≤ 8192 ∧ n = 8 * (m : Int) ∧ 8 ≤ m by have := Hm.out; have := Hn.out; omega)
  have HG := Lib.hid (show 0 ≤ z + i ∧ h = 8 * (m2 : Int) ∧ z + i + h ≤ 131072 by have := Hz.out; have := Hm2.out; omega)
  have HZ := Lib.hid (show (0 ≤ z ∧ z < 18446744073709551616) ∧ (0 ≤ i ∧ i < 18446744073709551616) by have := Hz.out; omega)
  have HW : Hid (newWs s i h = (((List.replicate m 0).set 0 (word immC)).set 1 z).set 2 i) := Lib.hid (by unfold newWs; rw [← Hm.out, ← Hz.out])
  have z0 : 0 ≤ z := HZ.out.1.1
  have z1 : z ≤ 18446744073709551615 := by have := Hz.out; omega
  clear s0 s1 t0 t1 h0 h1 i8 h8 Hm Hm2
  go_enter Tryz.func25, Tryz.ntmps25
  go_upto_region 1 with fail
  refine one_row w _ _ ?_
  intro W hR hB
  obtain ⟨x0, x1, x2, x3, _⟩ := box4 hR
  have HR := Lib.hid hR
  have HB := Lib.hid hB
  clear hR hB
  go_wp2_with fail
  refine (rplanHeap_any s t i h _ HH.out).mono ?_
  rintro r w1 ⟨rfl, hb⟩
  rw [← Hz.out]
  replace HR := Lib.hid (row_below HR.out hb)
  replace HB := Lib.hid (below_only HB.out hb)
  clear hb x0 x1 x2 x3
  go_upto_region 2 with fail
  refine one_row w1 _ _ ?_
  intro w2 hE hb
  replace HR := Lib.hid (row_below HR.out hb)
  replace HB := Lib.hid (below_only HB.out hb)
  obtain ⟨e0, e1, _, _⟩ := box2 hE
  have ze := lt_of_heap hE
  have zx := lt_of_heap HR.out
  obtain ⟨x0, x1, x2, x3, _⟩ := box4 HR.out
  clear hb hE
  go_cut [6] from 6 to 20 (fun v wx => ∃ (X q b : Nat), v = .pointer (some ⟨X, 0, none⟩) ∧ RAll wx X q b s t i h (List.replicate m 0) ∧ (w.heap.size ≤ X ∧ w.heap.size ≤ q ∧ w.heap.size ≤ b) ∧ Below w2.heap.size w2 wx)
  case first =>
    refine wp_region_held_drew (S := Old w2) (by kernel_rfl) (old_of (by go_grown)) ?_
    intro hS
    generalize w2.drew = y0 at hS ⊢
    refine wpAnyH_take_at (i := 0) (v := ?v0x3) (some 9) rfl rfl (by kernel_rfl) (by kernel_rfl) (by kernel_rfl) (fun _ _ _ h => h) (Or.inl ⟨by kernel_rfl, ?h0x3⟩) (by assumption) ?r0x3
    case h0x3 => (intro w hSw; (try dsimp only at hSw); go_simp; first | done | (with_reducible rfl))
    try simp only [Act.put]
    try simp only [List.setIfInBounds_toArray]
    try simp only [List.set_cons_succ]
    try simp only [List.set_cons_zero]
    refine wpAnyH_take_at (i := 1) (v := ?v1x4) (some 10) rfl rfl (by kernel_rfl) (by kernel_rfl) (by kernel_rfl) (fun _ _ _ h => h) (Or.inl ⟨by kernel_rfl, ?h1x4⟩) (by assumption) ?r1x4
    case h1x4 => (intro w hSw; (try dsimp only at hSw); go_simp; first | done | (with_reducible rfl))
    try simp only [Act.put]
    try simp only [List.setIfInBounds_toArray]
    try simp only [List.set_cons_succ]
    try simp only [List.set_cons_zero]
    refine wpAnyH_take_at (i := 2) (v := ?v2x5) (some 11) rfl rfl (by kernel_rfl) (by kernel_rfl) (by kernel_rfl) (fun _ _ _ h => h) (Or.inl ⟨by kernel_rfl, ?h2x5⟩) (by assumption) ?r2x5
    case h2x5 => (intro w hSw; (try dsimp only at hSw); go_simp; first | done | (with_reducible rfl))
    try simp only [Act.put]
    try simp only [List.setIfInBounds_toArray]
    try simp only [List.set_cons_succ]
    try simp only [List.set_cons_zero]
    refine wpAnyH_take_at (i := 5) (v := ?v5x6) (some 14) rfl rfl (by kernel_rfl) (by kernel_rfl) (by kernel_rfl) (fun _ _ _ h => h) (Or.inl ⟨by kernel_rfl, ?h5x6⟩) (by assumption) ?r5x6
    case h5x6 => (intro w hSw; (try dsimp only at hSw); go_simp; first | done | (with_reducible rfl))
    try simp only [Act.put]
    try simp only [List.setIfInBounds_toArray]
    try simp only [List.set_cons_succ]
    try simp only [List.set_cons_zero]
    refine wpAnyH_take_at (i := 6) (v := ?v6x7) (some 15) rfl rfl (by kernel_rfl) (by kernel_rfl) (by kernel_rfl) (fun _ _ _ h => h) (Or.inl ⟨by kernel_rfl, ?h6x7⟩) (by assumption) ?r6x7
    case h6x7 => (intro w hSw; (try dsimp only at hSw); go_simp; first | done | (with_reducible rfl))
    try simp only [Act.put]
    try simp only [List.setIfInBounds_toArray]
    try simp only [List.set_cons_succ]
    try simp only [List.set_cons_zero]
    refine wpAnyH_take_at (i := 7) (v := ?v7x8) (some 16) rfl rfl (by kernel_rfl) (by kernel_rfl) (by kernel_rfl) (fun _ _ _ h => h) (Or.inl ⟨by kernel_rfl, ?h7x8⟩) (by assumption) ?r7x8
    case h7x8 => (intro w hSw; (try dsimp only at hSw); go_simp; first | done | (with_reducible rfl))
    try simp only [Act.put]
    try simp only [List.setIfInBounds_toArray]
    try simp only [List.set_cons_succ]
    try simp only [List.set_cons_zero]
    refine wpAnyH_take_at (i := 8) (v := ?v8x9) (some 17) rfl rfl (by kernel_rfl) (by kernel_rfl) (by kernel_rfl) (fun _ _ _ h => h) (Or.inl ⟨by kernel_rfl, ?h8x9⟩) (by assumption) ?r8x9
    case h8x9 => (intro w hSw; (try dsimp only at hSw); go_simp; first | done | (with_reducible rfl))
    try simp only [Act.put]
    try simp only [List.setIfInBounds_toArray]
    try simp only [List.set_cons_succ]
    try simp only [List.set_cons_zero]
    refine wpAnyH_ready (rs := [3]) (by kernel_rfl) (by simp) ?_
    refine AllReadyH.cons rfl (fun K hK => ?_) AllReadyH.nil
    go_simp
    refine (rplanSize_any s t i h _ HH.out).mono ?_
    rintro r yS ⟨rfl, hb⟩
    rw [← Hn.out]
    go_simp
    have oS := below_only hS.1 hb
    refine hK.out _ _ (old_of oS) (fun hS => ?_)
    clear hK K
    try simp only [Act.put]
    try simp only [List.setIfInBounds_toArray]
    try simp only [List.set_cons_succ]
    try simp only [List.set_cons_zero]
    refine wpAnyH_ready (rs := [4]) (by kernel_rfl) (by simp) ?_
    refine AllReadyH.cons rfl (fun K hK => ?_) AllReadyH.nil
    go_simp
    refine (rarnNew_any m n _ Hmm.out.1 Hmm.out.2.1 Hmm.out.2.2.1).mono ?_
    rintro r yA ⟨q, b, rfl, hA, hqb, hb⟩
    have Hqb : Hid (w.heap.size ≤ q ∧ w.heap.size ≤ b) := Lib.hid (by have := hS.1.size; have := HB.out.size; omega)
    clear hqb
    go_simp
    have oA := below_only hS.1 hb
    have HA := Lib.hid hA
    clear hA
    refine hK.out _ _ (old_of oA) (fun hS => ?_)
    clear hK K
    try simp only [Act.put]
    try simp only [List.setIfInBounds_toArray]
    try simp only [List.set_cons_succ]
    try simp only [List.set_cons_zero]
    refine wpAnyH_ready (rs := [9]) (by kernel_rfl) (by simp) ?_
    refine AllReadyH.cons rfl (fun K hK => ?_) AllReadyH.nil
    go_simp
    refine (rnew_any (z + i) h m2 _ HG.out.1 HG.out.2.1 HG.out.2.2).mono ?_
    rintro r yG ⟨gp, gq, rfl, -, hb⟩
    go_simp
    have oG := below_only hS.1 hb
    replace HA := Lib.hid (HA.out.below hb)
    refine hK.out _ _ (old_of oG) (fun hS => ?_)
    clear hK K
    try simp only [Act.put]
    try simp only [List.setIfInBounds_toArray]
    try simp only [List.set_cons_succ]
    try simp only [List.set_cons_zero]
    refine wpAnyH_take_at (i := 10) (v := ?v10x1) (some 19) rfl rfl (by kernel_rfl) (by kernel_rfl) (by kernel_rfl) (fun _ _ _ h => h) (Or.inl ⟨by kernel_rfl, ?h10x1⟩) (by assumption) ?r10x1
    case h10x1 => (intro w hSw; (try dsimp only at hSw); go_simp; first | done | (with_reducible rfl))
    try simp only [Act.put]
    try simp only [List.setIfInBounds_toArray]
    try simp only [List.set_cons_succ]
    try simp only [List.set_cons_zero]
    refine wpAnyH_ready (rs := [11]) (by kernel_rfl) (by simp) ?_
    refine AllReadyH.cons rfl (fun K hK => ?_) AllReadyH.nil
    go_simp
    refine k_alloc (fun yB hX hb => ?_)
    have hgX : w.heap.size ≤ yG.heap.size := by have := hS.1.size; have := HB.out.size; omega
    have hbX : yG.heap.size ≠ b := by have := lt_of_heap HA.out.row; omega
    replace HA := Lib.hid (HA.out.below hb)
    have oB := below_only hS.1 hb
    obtain ⟨X, hXx⟩ : ∃ x, x = yG.heap.size := ⟨_, rfl⟩
    rw [← hXx] at hX hgX hbX ⊢
    clear hXx
    refine hK.out _ _ (old_of oB) (fun hS => ?_)
    clear hK K
    try simp only [Act.put]
    try simp only [List.setIfInBounds_toArray]
    try simp only [List.set_cons_succ]
    try simp only [List.set_cons_zero]
    refine wpAnyH_take_at (i := 12) (v := ?v12x2) (some 6) rfl rfl (by kernel_rfl) (by kernel_rfl) (by kernel_rfl) (fun _ _ _ h => h) (Or.inl ⟨by kernel_rfl, ?h12x2⟩) (by assumption) ?r12x2
    case h12x2 => (intro w hSw; (try dsimp only at hSw); go_simp; first | done | (with_reducible rfl))
    try simp only [Act.put]
    try simp only [List.setIfInBounds_toArray]
    try simp only [List.set_cons_succ]
    try simp only [List.set_cons_zero]
    refine wpAnyH_done (by kernel_rfl) ?_ _
    go_wp2_with fail
    go_meet
    exact ⟨X, q, b, rfl, ⟨⟨gp, hX⟩, HA.out, hbX⟩, ⟨hgX, Hqb.out⟩, by assumption⟩
  case rest =>
    obtain ⟨X, q, b, rfl, hA, hxqb, hb⟩ := hcut
    obtain ⟨w3, hwx⟩ : ∃ x, x = wc := ⟨_, rfl⟩
    subst hwx
    have Hxqb := Lib.hid hxqb
    have HA := Lib.hid hA
    have HNE : Hid (b ≠ w.heap.size) := Lib.hid (by
      intro e
      have h1 := hA.arn.row
      have h2 := row_below HR.out hb
      rw [e] at h1
      rw [h1] at h2
      simp at h2)
    replace HR := Lib.hid (row_below HR.out hb)
    have HB3 := Lib.hid (below_only HB.out hb)
    clear hb hA hxqb HB x0 x1 x2 x3 e0 e1 ze zx
    have Hg := Lib.hid (show (List.replicate m (0:Int))[0]? = some 0 by have := Hmm.out; rw [List.getElem?_replicate, if_pos (by omega)])
    go_wp2_with fail
    refine (rallTell_any X q b s t i h _ 0 0 0 immC _ HA.out Hg.out (by omega) (by omega) immC_right).mono ?_
    rintro r w4 ⟨rfl, hA, hK⟩
    have HA1 := Lib.hid hA
    have HK1 := Lib.hid hK
    replace HR := Lib.hid (hK.row HR.out (by simpa using fun e => HNE.out e.symm))
    obtain ⟨x0, x1, x2, x3, _⟩ := box4 HR.out
    clear hA hK HA Hg
    go_wp2_with fail
    refine (rplanImmortal_any s t i h _ HH.out).mono ?_
    rintro r w5 ⟨rfl, hb⟩
    rw [← Hz.out]
    replace HR := Lib.hid (row_below HR.out hb)
    replace HA1 := Lib.hid (HA1.out.below hb)
    have HK1b := Lib.hid (HK1.out.trans (keep_below hb [b]))
    clear hb x0 x1 x2 x3 HK1
    have Hg := Lib.hid (show ((List.replicate m (0:Int)).set 0 (word immC))[1]? = some 0 by have := Hmm.out; rw [List.getElem?_set, if_neg (by omega), List.getElem?_replicate, if_pos (by omega)])
    go_wp2_with fail
    refine (rallPut_any X q b s t i h _ 1 0 z 1 0 _ HA1.out Hg.out (by omega) (by decide) (by decide) HZ.out.1).mono ?_
    rintro r w6 ⟨rfl, hA, hK⟩
    have HA2 := Lib.hid hA
    have HK2 := Lib.hid (HK1b.out.trans hK)
    replace HR := Lib.hid (hK.row HR.out (by simpa using fun e => HNE.out e.symm))
    obtain ⟨x0, x1, x2, x3, _⟩ := box4 HR.out
    clear hA hK HA1 Hg HK1b
    have Hg := Lib.hid (show (((List.replicate m (0:Int)).set 0 (word immC)).set 1 z)[2]? = some 0 by have := Hmm.out; rw [List.getElem?_set, if_neg (by omega), List.getElem?_set, if_neg (by omega), List.getElem?_replicate, if_pos (by omega)])
    go_wp2_with fail
    refine (rallPut_any X q b s t i h _ 2 0 i 2 0 _ HA2.out Hg.out (by omega) (by decide) (by decide) HZ.out.2).mono ?_
    rintro r w7 ⟨rfl, hA, hK⟩
    have HI := Lib.hid (And.intro hA (Keep.under HB3.out (HK2.out.trans hK) (by have := HB3.out.size; omega) (by simp; exact Hxqb.out.2.2)))
    clear hA hK Hg HA2 HK2 HB3 x0 x1 x2 x3 HR
    go_wp2_with fail
    go_ret
    exact ⟨X, q, b, rfl, by rw [HW.out]; exact HI.out.1, Hxqb.out, HI.out.2⟩

end Go.Proofs.YtnimaajnlkbdaaaGreat
