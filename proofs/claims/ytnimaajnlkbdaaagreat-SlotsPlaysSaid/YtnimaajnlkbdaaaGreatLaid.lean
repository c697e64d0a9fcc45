/- Layer 16: the walk of laid. (Printed by gen_laid.py.) -/
import Derived.Test.YtnimaajnlkbdaaaGreatLaidP
namespace Go.Proofs.YtnimaajnlkbdaaaGreat
open Go.RowKit
set_option linter.unusedVariables false
set_option linter.unusedSimpArgs false


theorem results_laid {fn : Func} {p u v : Tmp} {ty : TypeId} (h : fn.results = #[.tmp u, .tmp v, .cell p ty]) (tmps : Array Value) (w : World) (g : Nat) (t : TypeId) (cs : Array Value) (fr : Nat × Nat) (n : Nat) (e : TypeId)
  (hp : tmps.getD p undef = .pointer (some ⟨g, 0, none⟩)) (hg : w.heap[g]? = some (.cells cs t fr))
  (hu : Tryz.prog.underlying ty = some (.array n e)) (hi : (Tryz.prog.info? ty).map (·.size) = some cs.size) :
  (results fn tmps).run Tryz.prog w = .ok (.tuple #[tmps.getD u undef, tmps.getD v undef, .agg cs]) w := by
 have hp' : tmps[p]?.getD undef = .pointer (some ⟨g, 0, none⟩) := by simpa using hp
 simp [results, h, hp', asAddr, run_loadVar_row w g t ty cs fr _ hg hu rfl hi]
theorem allocTo16 {P : Program} {ops : Array Oper} {rest : List Oper} {o : Oper} {a : Act} {w : World} {Q : Exit → Act → World → Prop} (hg : o.guard = none) (t : TypeId) (ho : o.op = .alloc t) (cs : Array Value)
  (hr : (Instr.alloc t true (.tuple #[])).run P w = .ok (.pointer (some ⟨w.heap.size, 0, none⟩)) (w.alloc (.cells cs t))) (h : wpList P ops Q rest (a.put o.dst (.pointer (some ⟨w.heap.size, 0, none⟩))) (w.alloc (.cells cs t))) : wpList P ops Q (o :: rest) a w :=
 wpList_plain hg fun K hK => by
  unfold Oper.wp execOp
  simp only [ho, hr, Sem.run_bind, Sem.run_pure, Result.andThen_ok]
  exact hK _ _ h
set_option maxRecDepth 100000 in
theorem builtH12 : Tryz.prog.built 32 [] = some (hAt 0) := by kernel_rfl
set_option maxRecDepth 100000 in
theorem allocH12 (w : World) : (Instr.alloc 32 true (.tuple #[])).run Tryz.prog w = .ok (.pointer (some ⟨w.heap.size, 0, none⟩)) (w.alloc (.cells (hAt 0) 32)) := by kernel_rfl
theorem infoH12 : (Tryz.prog.info? 32).map (·.size) = some 12 := by kernel_rfl
theorem undH12 : Tryz.prog.underlying 32 = some (.array 12 23) := by kernel_rfl
theorem built_al (x : Int) : Tryz.prog.built 43 [(0, .agg #[.int .u8 7, .int .u8 0, .int .u8 0, .int .u8 0, .int .i64 2, .int .i64 0, .int .i64 0]), (2, .int .i64 x), (1, .int .i64 5)] = some ({ al16 0 with area := x } : Rn).arr := by kernel_rfl
theorem plan16 : PlanOk 4 2 128 512 := ⟨by decide, by decide, by decide, by decide, by decide, by decide, by decide, by decide, by decide, by decide⟩
set_option maxRecDepth 100000 in
theorem plan16_any (w : World) : Calls Tryz.prog 10 #[] w fun r w' => r = .returned (.agg #[.int .i64 4, .int .i64 2, .int .i64 128, .int .i64 512]) ∧ Below w.heap.size w w' := by
 go_enter Tryz.func10, Tryz.ntmps10
 go_upto_region 1 with fail
 refine one_row w _ _ ?_
 intro W hR hB
 obtain ⟨x0, x1, x2, x3, f0, f1, f2, f3⟩ := box4 hR
 have z := lt_of_heap hR
 have HR := Lib.hid hR
 clear hR
 go_wp2_with fail
 refine bodyPost_ret (results_cell_row (fn := Tryz.f10) rfl _ _ w.heap.size 28 #[.int .i64 4, .int .i64 2, .int .i64 128, .int .i64 512] (0, 0) _ rfl (row_four HR.out) Tryz.underlying28 rfl (by kernel_rfl)) rfl ?_
 exact ⟨rfl, by go_grown⟩
theorem cal16 : CalOk ⟨2, 0, 0, 0, 128, 0, 0⟩ := ⟨by simp, by simp, by simp, by simp, ⟨by simp, by simp⟩, by simp, by simp⟩
theorem beg16 (ch : Sl) : rbeginRn 4 [] ⟨2, 0, 0, 0, 128, 0, 0⟩ (rregR 0 0 0 0 0) (rregR 0 0 0 0 0) ch = begR 4 true 127 ch := rfl
theorem does16 (k : Nat) : does14 384 896 true 127 (lS k) = (createS 128 (lS k)).2 ∧ words14 true 127 (lS k) (lW k) = createW 128 (lS k) (lW k) := by
 unfold does14 words14
 rw [show begA true 127 = 128 by decide]
 exact ⟨rfl, rfl⟩
set_option maxRecDepth 100000 in
set_option maxHeartbeats 16000000 in
theorem laid_any (w : World) :
  Calls Tryz.prog 11 #[] w fun r w' => ∃ p b X q d, r = .returned (.tuple #[.pointer (some ⟨p, 0, none⟩), .pointer (some ⟨X, 0, none⟩), .agg (hAt 12)]) ∧ TwoW w.heap.size w' p b X q d 4 2 128 512 (oW 9) (oW 9) ∧ Below w.heap.size w w' := by
 go_enter Tryz.func11, Tryz.ntmps11
 go_upto_region 1 with (refine allocTo16 rfl 32 rfl _ (allocH12 _) ?_; (try simp only [Act.put, List.setIfInBounds_toArray, List.set_cons_succ, List.set_cons_zero]))
 refine one_row w _ _ ?_
 intro w1 hr hb
 obtain ⟨g2, hg2⟩ : ∃ x, x = w.heap.size := ⟨_, rfl⟩
 rw [← hg2] at hr ⊢
 have L2 : Hid (w.heap.size ≤ g2) := Lib.hid (by omega)
 clear hg2
 have R2 := Lib.hid hr
 have B := Lib.hid hb
 clear hr hb
 go_wp2_with fail
 refine (plan16_any _).mono ?_
 rintro r w2 ⟨rfl, hb⟩
 replace R2 := Lib.hid (row_below R2.out hb)
 replace B := Lib.hid (below_only B.out hb)
 clear hb
 go_upto_region 2 with fail
 refine one_row w2 _ _ ?_
 intro w3 hr hb
 have h2 := lt_of_heap R2.out
 have hlB := B.out.size
 obtain ⟨gl, hgl⟩ : ∃ x, x = w2.heap.size := ⟨_, rfl⟩
 rw [← hgl] at hr ⊢
 replace R2 := Lib.hid (row_below R2.out hb)
 replace B := Lib.hid (below_only B.out hb)
 have RP := Lib.hid hr
 have Ll : Hid (w.heap.size ≤ gl) := Lib.hid (by omega)
 have M2l : Hid (g2 ≠ gl) := Lib.hid (by omega)
 clear hgl hr hb h2 hlB
 obtain ⟨x0, x1, x2, x3, _⟩ := box4 RP.out
 have zp := lt_of_heap RP.out
 go_wp2_with fail
 clear x0 x1 x2 x3 zp
 refine (foundNewG_any 4 2 128 512 _ plan16).mono ?_
 rintro r w4 ⟨p, b, g, gq, rfl, hA, hG, hl, hn, hb⟩
 have HF : Hid (Fs w3.heap.size w4 p b g gq 384 896 (lS 0) (lW 0)) := Lib.hid (fs_new (t := 2) plan16 hA hG hl hn)
 have h2 := lt_of_heap R2.out
 have h3 := lt_of_heap RP.out
 have E3 : Hid (g2 < w3.heap.size ∧ gl < w3.heap.size ∧ w.heap.size ≤ w3.heap.size) := Lib.hid ⟨h2, h3, B.out.size⟩
 replace R2 := Lib.hid (row_below R2.out hb)
 replace RP := Lib.hid (row_below RP.out hb)
 replace B := Lib.hid (below_only B.out hb)
 clear hA hG hl hn hb h2 h3
 obtain ⟨x0, x1, x2, x3, _⟩ := box4 RP.out
 have zp := lt_of_heap RP.out
 go_wp2_with fail
 clear x0 x1 x2 x3 zp
 refine (rallNewG_any 4 2 128 512 _ plan16).mono ?_
 rintro r w5 ⟨X, q, d, gp, gq2, rfl, hA, hX, hG, hn, hl2, hb⟩
 have HG : Hid (RFs w4.heap.size w5 X q d gp gq2 4 2 128 512 384 896 (lS 0) (lW 0)) := Lib.hid (rfs_new (B := w4.heap.size) plan16 hA hX hG hn hl2)
 have hlow := HG.out.lows
 have hlt4 := HF.out.lt
 have HNe : Hid (∀ j ∈ p :: FsT b g gq, j ∉ [X, q, d, gp, gq2]) := Lib.hid (fun j hj => by
  have h9 : j < w4.heap.size := by
   rcases List.mem_cons.1 hj with rfl | hm
   ·exact hlt4.1
   ·exact (HF.out.ges j hm).2
  simp; omega)
 have E4 : Hid (w3.heap.size ≤ w4.heap.size ∧ g2 < w4.heap.size ∧ gl < w4.heap.size) := Lib.hid ⟨by have h1 := (HF.out.ges b (by simp)); omega, lt_of_heap R2.out, lt_of_heap RP.out⟩
 clear hlow hlt4
 replace HF := Lib.hid (HF.out.below hb)
 replace R2 := Lib.hid (row_below R2.out hb)
 replace RP := Lib.hid (row_below RP.out hb)
 replace B := Lib.hid (below_only B.out hb)
 clear hA hX hG hn hl2 hb
 have NF_2 : Hid (g2 ∉ p :: FsT b g gq) := Lib.hid (by have h1 := HF.out.elder E3.out.1; have h2 := HF.out.low.1; have h3 := E3.out; intro hm; rcases List.mem_cons.1 hm with h | h; omega; exact h1 h)
 have NG_2 : Hid (g2 ∉ [X, q, d, gp, gq2]) := Lib.hid (by have := HG.out.lows; have := E4.out; simp; omega)
 have NF_l : Hid (gl ∉ p :: FsT b g gq) := Lib.hid (by have h1 := HF.out.elder E3.out.2.1; have h2 := HF.out.low.1; have h3 := E3.out; intro hm; rcases List.mem_cons.1 hm with h | h; omega; exact h1 h)
 have NG_l : Hid (gl ∉ [X, q, d, gp, gq2]) := Lib.hid (by have := HG.out.lows; have := E4.out; simp; omega)
 go_upto_region 5 with (first | (refine wpList_build_to rfl 32 _ rfl (hAt 0) (by simp only [List.map_toArray, List.map_nil]; exact builtH12) ?_; (try simp only [Act.put, List.setIfInBounds_toArray, List.set_cons_succ, List.set_cons_zero])) | (refine allocTo16 rfl 32 rfl _ (allocH12 _) ?_; (try simp only [Act.put, List.setIfInBounds_toArray, List.set_cons_succ, List.set_cons_zero])) | (refine wpList_store_row rfl 32 (.tmp 8) (.tmp 27) rfl w5.heap.size (hAt 0) rfl rfl 32 _ (row_new _ _ _) infoH12 rfl (hAt_one _) ?_; (try simp only [Act.put, List.setIfInBounds_toArray, List.set_cons_succ, List.set_cons_zero])))
 refine alloc_set' w5 _ _ _ ?_
 intro w6 hr hb
 have h2 := lt_of_heap R2.out
 have h3 := lt_of_heap RP.out
 have hlB := B.out.size
 have hf1 := HF.out.fresh (Nat.le_refl w5.heap.size)
 have hf2 := HF.out.lt
 have hf3 := HG.out.lt
 obtain ⟨gh, hgh⟩ : ∃ x, x = w5.heap.size := ⟨_, rfl⟩
 rw [← hgh] at hr hf1 ⊢
 replace HF := Lib.hid (HF.out.below hb)
 replace HG := Lib.hid (HG.out.below hb)
 replace R2 := Lib.hid (row_below R2.out hb)
 replace RP := Lib.hid (row_below RP.out hb)
 replace B := Lib.hid (below_only B.out hb)
 have RH := Lib.hid hr
 have Lh : Hid (w.heap.size ≤ gh) := Lib.hid (by omega)
 have M2h : Hid (g2 ≠ gh) := Lib.hid (by omega)
 have Mlh : Hid (gl ≠ gh) := Lib.hid (by omega)
 have NF_h : Hid (gh ∉ p :: FsT b g gq) := Lib.hid (by intro hm; rcases List.mem_cons.1 hm with h | h; omega; exact hf1 h)
 have NG_h : Hid (gh ∉ [X, q, d, gp, gq2]) := Lib.hid (by simp; omega)
 clear hgh hr hb h2 h3 hlB hf1 hf2 hf3
 go_wp2_with fail
 go_loopw [9] (fun tt wr => ∃ (s : Nat) (gq : Option Nat), 1 ≤ s ∧ s ≤ 4 ∧ tt = .int .i64 s ∧ Fs w3.heap.size wr p b g gq 384 896 (lS (s - 1)) (lW (s - 1)) ∧ RFs w4.heap.size wr X q d gp gq2 4 2 128 512 384 896 (lS (s - 1)) (lW (s - 1)) ∧ (∀ j ∈ p :: FsT b g gq, j ∉ [X, q, d, gp, gq2]) ∧ (g2 ∉ p :: FsT b g gq) ∧ (gl ∉ p :: FsT b g gq) ∧ (gh ∉ p :: FsT b g gq) ∧ wr.heap[g2]? = some (.cells (hAt 0) 32 (0, 0)) ∧ wr.heap[gl]? = some (.cells #[.int .i64 4, .int .i64 2, .int .i64 128, .int .i64 512] 28 (0, 0)) ∧ wr.heap[gh]? = some (.cells (hAt 0) 32 (0, 0)) ∧ Below w.heap.size w wr) (fun t _ => (4 - intOf t).toNat)
 case atStart => exact ⟨1, gq, by omega, by omega, rfl, HF.out, HG.out, HNe.out, NF_2.out, NF_l.out, NF_h.out, R2.out, RP.out, RH.out, B.out⟩
 case round =>
  clear HF HG HNe NF_2 NF_l NF_h R2 RP RH B
  obtain ⟨s, gq, hs1, hs4, rfl, hF, hG, hne, nf2, nfl, nfh, hr2, hrp, hrh, hB⟩ := hrel
  have HF := Lib.hid hF
  have HG := Lib.hid hG
  have HNe := Lib.hid hne
  have NF_2 := Lib.hid nf2
  have NF_l := Lib.hid nfl
  have NF_h := Lib.hid nfh
  have R2 := Lib.hid hr2
  have RP := Lib.hid hrp
  have RH := Lib.hid hrh
  have B := Lib.hid hB
  clear hF hG hne nf2 nfl nfh hr2 hrp hrh hB
  by_cases hlt : s < 4
  ·obtain ⟨k, Hk⟩ : ∃ k, Hid (s = k + 1 ∧ k < 3) := ⟨s - 1, Lib.hid (by omega)⟩
   have hk' : s - 1 = k := by have := Hk.out; omega
   rw [hk'] at HF HG
   clear hk'
   as_aux_lemma =>
    have hsI : (s : Int) < 4 := by omega
    have hsI1 : (1 : Int) ≤ (s : Int) := by omega
    have HL := Lib.hid (laid_new k Hk.out.2)
    obtain ⟨x0, x1, x2, x3, _⟩ := box4 RP.out
    have zp := lt_of_heap RP.out
    go_wp2_with fail
    have hr4 : (wr.alloc (.cells #[.int .u64 0, .int .u64 0, .int .u64 0, .int .u64 0] 23)).heap[wr.heap.size]? = _ := row_new _ _ _
    obtain ⟨m0, m1, m2, m3, _⟩ := box4 hr4
    have hba : Below wr.heap.size wr (wr.alloc (.cells #[.int .u64 0, .int .u64 0, .int .u64 0, .int .u64 0] 23)) := by go_grown
    refine (rof_any ⟨4, 2, 128, 512⟩ none 0 [] ⟨2, 0, 0, 0, 128, 0, 0⟩ 0 0 0 0 wr.heap.size 0 4 _ (by simp) (by simp) (Cells.nil) (by simp) (by simp) cal16 (by simp) (by simp) (by simp) (by simp) (by simp) m0 m1 m2 m3).mono ?_
    rintro r wA ⟨kc, cA, rfl, hcs, hnew, hb⟩
    rw [beg16]
    have hb' := below_only hba hb
    replace HF := Lib.hid (HF.out.below hb')
    replace HG := Lib.hid (HG.out.below hb')
    replace R2 := Lib.hid (row_below R2.out hb')
    replace RP := Lib.hid (row_below RP.out hb')
    replace RH := Lib.hid (row_below RH.out hb')
    replace B := Lib.hid (below_only B.out hb')
    clear hb hb' hba hr4 m0 m1 m2 m3 hcs hnew x0 x1 x2 x3 zp
    obtain ⟨r0, Hr0⟩ : ∃ x : Rn, Hid (x = begR 4 true 127 ⟨cA, 0, kc⟩) := ⟨_, Lib.hid rfl⟩
    have Hr0' : Hid ((⟨cA, ([] : List Ent).length, kc⟩ : Sl) = ⟨cA, 0, kc⟩) := Lib.hid rfl
    rw [Hr0'.out, ← Hr0.out]
    clear Hr0'
    go_upto_region 11 with (refine wpList_store_row rfl 43 (.tmp 10) (.tmp 43) rfl wA.heap.size r0.arr rfl rfl 43 ZRun (row_new _ _ _) infoRun rfl (Rn.one _) ?_; (try simp only [Act.put, List.setIfInBounds_toArray, List.set_cons_succ, List.set_cons_zero]))
    refine alloc_set' wA _ _ _ ?_
    intro wB hr hb
    have h2 := lt_of_heap R2.out
    have h3 := lt_of_heap RP.out
    have h4 := lt_of_heap RH.out
    have hf1 := HF.out.fresh (Nat.le_refl wA.heap.size)
    have hf2 := HF.out.lt
    have hf3 := HG.out.lt
    have hlB := B.out.size
    obtain ⟨gc, hgc⟩ : ∃ x, x = wA.heap.size := ⟨_, rfl⟩
    rw [← hgc] at hr hf1 ⊢
    replace HF := Lib.hid (HF.out.below hb)
    replace HG := Lib.hid (HG.out.below hb)
    replace R2 := Lib.hid (row_below R2.out hb)
    replace RP := Lib.hid (row_below RP.out hb)
    replace RH := Lib.hid (row_below RH.out hb)
    replace B := Lib.hid (below_only B.out hb)
    have RC := Lib.hid hr
    have NF_c : Hid (gc ∉ p :: FsT b g gq) := Lib.hid (by intro hm; rcases List.mem_cons.1 hm with h | h; omega; exact hf1 h)
    have NG_c : Hid (gc ∉ [X, q, d, gp, gq2]) := Lib.hid (by simp; omega)
    clear hgc hr hb h2 h3 h4 hf1 hf2 hf3 hlB
    obtain ⟨x0, x1, x2, x3, _⟩ := box4 RP.out
    have zp := lt_of_heap RP.out
    go_wp2_with (first | (refine wpList_load_row rfl 43 (.tmp 10) rfl gc rfl 43 r0.arr (0, 0) _ RC.out undRun rfl infoRun ?_; (try simp only [Act.put, List.setIfInBounds_toArray, List.set_cons_succ, List.set_cons_zero])))
    clear x0 x1 x2 x3 zp
    rw [Hr0.out]
    refine (fstep14_any w3.heap.size p b g gq 384 896 (lS k) (lW k) 4 2 128 512 true 127 ⟨cA, 0, kc⟩ _ plan16 HF.out (by rw [HL.out.2.1]; rfl) rfl).mono ?_
    rintro r wC ⟨gq', rfl, hF, hq, hK⟩
    rw [(does16 k).1, (does16 k).2] at hF
    rw [← Hr0.out]
    have hmF : ∀ x, x ∉ p :: FsT b g gq → x ∉ FsT b g gq := fun x h hm => h (List.mem_cons_of_mem _ hm)
    have hlx := HG.out.lt
    have hlo := HG.out.lows
    have hwl : wB.heap.size ≤ wC.heap.size := hK.size
    replace HG := Lib.hid (HG.out.kept hK (fun j hj => HNe.out j (List.mem_cons_of_mem _ hj)))
    have hup : ∀ x, x ∉ p :: FsT b g gq → x < wB.heap.size → x ∉ p :: FsT b g gq' := fun x h hx hm => by
     rcases List.mem_cons.1 hm with e | hm2
     ·exact h (by simp [e])
     ·exact notin_new (hmF x h) hx hq hm2
    replace HNe : Hid (∀ j ∈ p :: FsT b g gq', j ∉ [X, q, d, gp, gq2]) := Lib.hid (fun j hj hm => by
     have hjl : j < wB.heap.size := by simp at hm; omega
     by_cases hj0 : j ∈ p :: FsT b g gq
     ·exact HNe.out j hj0 hm
     ·exact hup j hj0 hjl hj)
    have hz := lt_of_heap R2.out
    replace R2 := Lib.hid (hK.row R2.out (hmF _ NF_2.out))
    replace NF_2 := Lib.hid (hup _ NF_2.out hz)
    clear hz
    have hz := lt_of_heap RP.out
    replace RP := Lib.hid (hK.row RP.out (hmF _ NF_l.out))
    replace NF_l := Lib.hid (hup _ NF_l.out hz)
    clear hz
    have hz := lt_of_heap RH.out
    replace RH := Lib.hid (hK.row RH.out (hmF _ NF_h.out))
    replace NF_h := Lib.hid (hup _ NF_h.out hz)
    clear hz
    have hz := lt_of_heap RC.out
    replace RC := Lib.hid (hK.row RC.out (hmF _ NF_c.out))
    replace NF_c := Lib.hid (hup _ NF_c.out hz)
    clear hz
    replace B := Lib.hid (HF.out.under (Below.refl _ _) hK |> fun h => Keep.under B.out hK (by have := B.out.size; omega) (fun j hj => Nat.le_trans E3.out.2.2 (HF.out.ges j hj).1))
    replace HF := Lib.hid hF
    clear hF hq hK hmF hlx hlo hwl hup
    go_wp2_with (first | (refine wpList_load_row rfl 43 (.tmp 10) rfl gc rfl 43 r0.arr (0, 0) _ RC.out undRun rfl infoRun ?_; (try simp only [Act.put, List.setIfInBounds_toArray, List.set_cons_succ, List.set_cons_zero])))
    rw [Hr0.out]
    refine (rmake_any w4.heap.size X q d gp gq2 4 2 128 512 384 896 (lS k) (lW k) true 127 ⟨cA, 0, kc⟩ _ plan16 HG.out (by rw [HL.out.2.1]; rfl) HL.out.2.2.1 rfl).mono ?_
    rintro r wD ⟨rfl, hG, hK⟩
    rw [(does16 k).1, (does16 k).2] at hG
    replace HF := Lib.hid (HF.out.kept hK (fun j hj hm => HNe.out j hm (by simp at hj ⊢; omega)))
    replace R2 := Lib.hid (hK.row R2.out (fun hm => NG_2.out (by simp at hm ⊢; omega)))
    replace RP := Lib.hid (hK.row RP.out (fun hm => NG_l.out (by simp at hm ⊢; omega)))
    replace RH := Lib.hid (hK.row RH.out (fun hm => NG_h.out (by simp at hm ⊢; omega)))
    replace B := Lib.hid (Keep.under B.out hK (by have := B.out.size; omega) (fun j hj => by have := HG.out.lows; have := E3.out; have := E4.out; simp at hj; omega))
    replace HG := Lib.hid hG
    clear hG hK RC NF_c NG_c Hr0
    have s5 : IntKind.i64.wrap (5 * (s : Int)) = 5 * (s : Int) := IntWalk.i64_in _ (by omega)
    go_upto_region 14 with fail
    refine one_row wD _ _ ?_
    intro wE hr hb
    have h2 := lt_of_heap R2.out
    have h3 := lt_of_heap RP.out
    have h4 := lt_of_heap RH.out
    have hf1 := HF.out.fresh (Nat.le_refl wD.heap.size)
    have hf2 := HF.out.lt
    have hf3 := HG.out.lt
    have hlB := B.out.size
    obtain ⟨gk, hgk⟩ : ∃ x, x = wD.heap.size := ⟨_, rfl⟩
    rw [← hgk] at hr hf1 ⊢
    replace HF := Lib.hid (HF.out.below hb)
    replace HG := Lib.hid (HG.out.below hb)
    replace R2 := Lib.hid (row_below R2.out hb)
    replace RP := Lib.hid (row_below RP.out hb)
    replace RH := Lib.hid (row_below RH.out hb)
    replace B := Lib.hid (below_only B.out hb)
    have RK := Lib.hid hr
    have NF_k : Hid (gk ∉ p :: FsT b g gq') := Lib.hid (by intro hm; rcases List.mem_cons.1 hm with h | h; omega; exact hf1 h)
    have NG_k : Hid (gk ∉ [X, q, d, gp, gq2]) := Lib.hid (by simp; omega)
    have Mk : Hid (g2 ≠ gk ∧ gl ≠ gk ∧ gh ≠ gk ∧ w.heap.size ≤ gk) := Lib.hid (by omega)
    clear hgk hr hb h2 h3 h4 hf1 hf2 hf3 hlB
    obtain ⟨pr, Hpr⟩ : ∃ x : Int, Hid ((if s = 2 then 1 else 0) = x) := ⟨_, Lib.hid rfl⟩
    have Hc : Hid (c16 (k + 1) = ⟨2, 1, pr, 5 * (s : Int)⟩) := Lib.hid (by
     have := Hk.out.1
     subst this
     unfold c16
     rw [if_neg (by omega), ← Hpr.out])
    go_upto_if 56 with fail
    try simp only [Act.put]
    go_cut [] from 56 to 57 (fun wx => wx.heap[gk]? = some (.cells #[.int .i64 2, .int .i64 1, .int .i64 pr, .int .i64 (5 * (s : Int))] 78 (0, 0)) ∧ Keep [gk] wE wx)
    case first =>
     by_cases e2 : s = 2
     ·have hpr : pr = 1 := by rw [← Hpr.out, if_pos e2]
      subst hpr
      have t1 : ((s : Int) == 2) = true := by simp; omega
      have t2 : decide ((s : Int) = 2) = true := decide_eq_true (by omega)
      obtain ⟨c0, c1, c2, c3, f0, f1, f2, f3⟩ := box4 RK.out
      have zk := lt_of_heap RK.out
      clear Hpr Hc e2
      go_wp2_with fail
      refine set_oneR wE gk 2 _ _ _ RK.out ?_
      intro wy hr hK
      go_meet
      exact ⟨hr, hK⟩
     ·have hpr : pr = 0 := by rw [← Hpr.out, if_neg e2]
      subst hpr
      have t1 : ((s : Int) == 2) = false := by simp; omega
      have t2 : decide ((s : Int) = 2) = false := decide_eq_false (by omega)
      clear Hpr Hc e2
      go_wp2_with fail
      go_meet
      exact ⟨RK.out, Keep.refl _ _⟩
    case rest =>
     obtain ⟨hr, hK⟩ := hcut
     obtain ⟨wF, hwx⟩ : ∃ x, x = wc := ⟨_, rfl⟩
     subst hwx
     replace HF := Lib.hid (HF.out.kept hK (fun j hj => by simp only [List.mem_singleton] at hj; subst hj; exact NF_k.out))
     replace HG := Lib.hid (HG.out.kept hK (fun j hj => by simp only [List.mem_singleton] at hj; subst hj; exact NG_k.out))
     replace R2 := Lib.hid (hK.row R2.out (by simpa using Mk.out.1))
     replace RP := Lib.hid (hK.row RP.out (by simpa using Mk.out.2.1))
     replace RH := Lib.hid (hK.row RH.out (by simpa using Mk.out.2.2.1))
     replace B := Lib.hid (Keep.under B.out hK (by have := B.out.size; omega) (by simp; exact Mk.out.2.2.2))
     replace RK := Lib.hid hr
     clear hr hK NF_k NG_k Mk
     have HPk : Hid (pack ⟨2, 1, pr, 5 * (s : Int)⟩ = (word (c16 (k + 1)), 0)) := Lib.hid (by rw [← Hc.out]; exact HL.out.2.2.2.2)
     have HY := Lib.hid (word_bd (c16_right (k + 1) (by have := Hk.out; omega)))
     obtain ⟨v, Hv⟩ : ∃ x, Hid (word (c16 (k + 1)) = x) := ⟨_, Lib.hid rfl⟩
     rw [Hv.out] at HPk HY
     obtain ⟨x0, x1, x2, x3, _⟩ := box4 RK.out
     have zk := lt_of_heap RK.out
     go_wp2_with fail
     clear x0 x1 x2 x3 zk
     refine (rpack_as HPk _).mono ?_
     rintro r wG ⟨rfl, hb⟩
     clear RK
     replace HF := Lib.hid (HF.out.below hb)
     replace HG := Lib.hid (HG.out.below hb)
     replace R2 := Lib.hid (row_below R2.out hb)
     replace RP := Lib.hid (row_below RP.out hb)
     replace RH := Lib.hid (row_below RH.out hb)
     replace B := Lib.hid (below_only B.out hb)
     clear hb
     go_wp2_with fail
     refine (rplanAt_any 0 (s : Int) _ (by decide) (by omega)).mono ?_
     rintro r wa ⟨rfl, e2⟩
     rw [e2, show 64 * (s : Int) + 8 * 0 = ((8 * (k + 1) * 8 : Nat) : Int) by have := Hk.out; omega]
     clear e2 wa
     go_wp2_with fail
     obtain ⟨z, hz⟩ := HL.out.2.2.2.1
     have Hz := Lib.hid hz
     clear hz
     refine (arnPut_any p b (createW 128 (lS k) (lW k)) (8 * (k + 1)) z v _ HF.out.a Hz.out HY.out).mono ?_
     rintro r wH ⟨rfl, hA, hK⟩
     have HF2 : Hid (Fs w3.heap.size wH p b g gq' 384 896 (lS (k + 1)) (lW (k + 1))) := Lib.hid (HF.out.ctl (c := c16 (k + 1)) HL.out.1 (c16_right _ (by have := Hk.out; omega)) (by rw [Hv.out]; exact hA) hK)
     replace HG := Lib.hid (HG.out.kept hK (fun j hj => by simp only [List.mem_singleton] at hj; subst hj; exact HNe.out _ (by simp)))
     replace R2 := Lib.hid (hK.row R2.out (fun hm => NF_2.out (by simp at hm ⊢; simp [hm])))
     replace RP := Lib.hid (hK.row RP.out (fun hm => NF_l.out (by simp at hm ⊢; simp [hm])))
     replace RH := Lib.hid (hK.row RH.out (fun hm => NF_h.out (by simp at hm ⊢; simp [hm])))
     replace B := Lib.hid (Keep.under B.out hK (by have := B.out.size; omega) (fun j hj => by have := (HF.out.ges b (by simp)).1; have := E3.out; simp at hj; omega))
     clear hA hK HF
     go_wp2_with fail
     refine (rallPut_any X q d 4 2 128 512 (createW 128 (lS k) (lW k)) (8 * (k + 1)) z v 0 (s : Int) _ HG.out.all Hz.out (by have := Hk.out; omega) (by decide) (by omega) HY.out).mono ?_
     rintro r wI ⟨rfl, hX, hK⟩
     have HG2 : Hid (RFs w4.heap.size wI X q d gp gq2 4 2 128 512 384 896 (lS (k + 1)) (lW (k + 1))) := Lib.hid (HG.out.ctl (c := c16 (k + 1)) HL.out.1 (c16_right _ (by have := Hk.out; omega)) (by rw [Hv.out]; exact hX) hK)
     replace HF2 := Lib.hid (HF2.out.kept hK (fun j hj hm => HNe.out j hm (by simp at hj ⊢; omega)))
     replace R2 := Lib.hid (hK.row R2.out (fun hm => NG_2.out (by simp at hm ⊢; omega)))
     replace RP := Lib.hid (hK.row RP.out (fun hm => NG_l.out (by simp at hm ⊢; omega)))
     replace RH := Lib.hid (hK.row RH.out (fun hm => NG_h.out (by simp at hm ⊢; omega)))
     replace B := Lib.hid (Keep.under B.out hK (by have := B.out.size; omega) (fun j hj => by have := HG2.out.lows; have := E3.out; have := E4.out; simp at hj; omega))
     clear hX hK HG
     go_wp2_with fail
     go_roundw
     case rel => exact ⟨s + 1, gq', by omega, by omega, by go_num, by have h9 := HF2.out; rwa [show k + 1 = s + 1 - 1 by have := Hk.out; omega] at h9, by have h9 := HG2.out; rwa [show k + 1 = s + 1 - 1 by have := Hk.out; omega] at h9, HNe.out, NF_2.out, NF_l.out, NF_h.out, R2.out, RP.out, RH.out, B.out⟩
     case measure => simp [intOf]; omega
  ·have hs3 : s - 1 = 3 := by omega
   rw [hs3] at HF HG
   have hsI : (4 : Int) ≤ (s : Int) := by omega
   clear hs3 hlt hs1 hs4
   have HA := Lib.hid HF.out.a
   have HX := Lib.hid HG.out.all
   have HT : Hid (TwoW w.heap.size wr p b X q d 4 2 128 512 (lW 3) (oW 0)) := Lib.hid ⟨HA.out, HX.out, by have h1 := HF.out.low; have h2 := HG.out.lows; have h3 := E3.out; have h4 := E4.out; omega, by have h1 := HNe.out b (by simp); simp at h1; omega, by have h1 := HNe.out b (by simp); simp at h1; omega, by have h1 := HNe.out b (by simp); simp at h1; omega, by have h1 := HNe.out p (by simp); simp at h1; omega⟩
   have N_r : Hid (g2 ∉ [p, b, X, q, d]) := Lib.hid (by have h1 := NF_2.out; have h2 := NG_2.out; simp at h1 h2 ⊢; omega)
   have N_h : Hid (gh ∉ [p, b, X, q, d]) := Lib.hid (by have h1 := NF_h.out; have h2 := NG_h.out; simp at h1 h2 ⊢; omega)
   have H_r := Lib.hid R2.out
   have H_h := Lib.hid RH.out
   have M_r_h : Hid (g2 ≠ gh) := Lib.hid M2h.out
   have M_h_r : Hid (gh ≠ g2) := Lib.hid M2h.out.symm
   have L_r : Hid (w.heap.size ≤ g2) := Lib.hid L2.out
   have L_h : Hid (w.heap.size ≤ gh) := Lib.hid Lh.out
   clear HA HX HF HG HNe NF_2 NF_l NF_h NG_2 NG_l NG_h R2 RP RH E3 E4 L2 Ll Lh M2l M2h Mlh
   have hsB : decide ((s : Int) < 4) = false := decide_eq_false (by omega)
   go_wp2_with fail
   go_loopw [14] (fun tt wz => ∃ i : Nat, i ≤ 9 ∧ tt = .int .i64 i ∧ TwoW w.heap.size wz p b X q d 4 2 128 512 (lW 3) (oW i) ∧ wz.heap[g2]? = some (.cells (hAt 0) 32 (0, 0)) ∧ wz.heap[gh]? = some (.cells (hAt i) 32 (0, 0)) ∧ Below w.heap.size w wz) (fun t _ => (9 - intOf t).toNat)
   case atStart => exact ⟨0, by omega, rfl, HT.out, H_r.out, H_h.out, B.out⟩
   case round =>
    clear HT H_r H_h B
    obtain ⟨i, hi, rfl, hT, hr, hh, hB⟩ := hrel
    have HT := Lib.hid hT
    have H_r := Lib.hid hr
    have H_h := Lib.hid hh
    have B := Lib.hid hB
    clear hT hr hh hB
    by_cases hi9 : i < 9
    ·skip
     have hiI : (i : Int) < 9 := by omega
     obtain ⟨s, Hs⟩ : ∃ x, Hid (i / 3 = x ∧ x ≤ 2) := ⟨_, Lib.hid ⟨rfl, by omega⟩⟩
     have hq3 : (i : Int).tdiv 3 = (s : Int) := by rw [Int.tdiv_eq_ediv_of_nonneg (by omega)]; have := Hs.out; omega
     have hq3' : (i : Int) / 3 = (s : Int) := by have := Hs.out; omega
     have hs2 : (s : Int) ≤ 2 := by have := Hs.out; omega
     have hs0 : (0 : Int) ≤ (s : Int) := by omega
     obtain ⟨tp, Htp⟩ : ∃ x, Hid (32 * ((i % 3 : Nat) : Int) = x) := ⟨_, Lib.hid rfl⟩
     have HBl := Lib.hid (blk16 i hi9)
     have HhV := Lib.hid (hV_told i hi9)
     have HoN : Hid (stepsW (oW i) (i / 3) (c16 (i / 3)) (ba16 (i / 3)) 128 (32 * ((i % 3 : Nat) : Int)) (al16 (i / 3)) 4 = oW (i + 1)) := Lib.hid rfl
     obtain ⟨ws, Hws⟩ : ∃ x, Hid (oW i = x) := ⟨_, Lib.hid rfl⟩
     rw [Hs.out.1, Htp.out] at HBl HhV HoN
     rw [Hws.out] at HBl HoN HT
     obtain ⟨cc, Hcc⟩ : ∃ x, Hid (c16 s = x) := ⟨_, Lib.hid rfl⟩
     obtain ⟨ba, Hba⟩ : ∃ x, Hid (ba16 s = x) := ⟨_, Lib.hid rfl⟩
     obtain ⟨r0, Hr0⟩ : ∃ x, Hid (al16 s = x) := ⟨_, Lib.hid rfl⟩
     rw [Hcc.out, Hba.out] at HBl HhV HoN
     rw [Hr0.out] at HhV HoN
     have HR0 : Hid (TkRun s cc ba 128 noS r0 ∧ r0.pc = 5) := Lib.hid (by rw [← Hr0.out]; exact ⟨al16_run s cc ba, rfl⟩)
     have HAr : Hid (({ al16 0 with area := (s : Int) } : Rn).arr = r0.arr) := Lib.hid (by rw [← Hr0.out]; rfl)
     clear Hcc Hba Htp Hws
     go_upto_region 23 with (first | (refine wpList_build_to rfl 43 _ rfl ({ al16 0 with area := (s : Int) } : Rn).arr (by simp only [List.map_toArray, List.map_cons, List.map_nil]; exact built_al _) ?_; (try simp only [Act.put, List.setIfInBounds_toArray, List.set_cons_succ, List.set_cons_zero])) | (refine wpList_store_row rfl 43 (.tmp 15) (.tmp 79) rfl wr.heap.size ({ al16 0 with area := (s : Int) } : Rn).arr rfl rfl 43 ZRun (row_new _ _ _) infoRun rfl (Rn.one _) ?_; (try simp only [Act.put, List.setIfInBounds_toArray, List.set_cons_succ, List.set_cons_zero])))
     rw [HAr.out]
     refine alloc_set' wr _ _ _ ?_
     intro x2 hr hb
     have hlB := B.out.size
     have hfr := HT.out.fresh (Nat.le_refl wr.heap.size)
     have hl_r := lt_of_heap H_r.out
     have hl_h := lt_of_heap H_h.out
     have hsz := (hb).size
     replace H_r := Lib.hid (row_below H_r.out hb)
     replace H_h := Lib.hid (row_below H_h.out hb)
     replace HT := Lib.hid (HT.out.below hb)
     replace B := Lib.hid (below_only B.out hb)
     clear hb hsz
     have H_c := Lib.hid (show x2.heap[wr.heap.size]? = some (.cells r0.arr 43 (0, 0)) from hr)
     clear hr
     obtain ⟨g_c, hg_c⟩ : ∃ x, x = wr.heap.size := ⟨_, rfl⟩
     rw [← hg_c] at H_c ⊢
     have N_c : Hid (g_c ∉ [p, b, X, q, d]) := Lib.hid (by rw [hg_c]; exact hfr)
     clear hfr
     have M_r_c : Hid (g2 ≠ g_c) := Lib.hid (by omega)
     have M_c_r : Hid (g_c ≠ g2) := Lib.hid (by omega)
     clear hl_r
     have M_h_c : Hid (gh ≠ g_c) := Lib.hid (by omega)
     have M_c_h : Hid (g_c ≠ gh) := Lib.hid (by omega)
     clear hl_h
     have L_c : Hid (w.heap.size ≤ g_c) := Lib.hid (by omega)
     clear hg_c hlB
     clear HAr Hr0
     go_wp2_with fail
     have hz : stepsR cc ba 128 tp r0 0 = r0 ∧ stepsW ws s cc ba 128 tp r0 0 = ws := ⟨rfl, rfl⟩
     rw [← hz.1] at H_c
     have HT1 : Hid (TwoW w.heap.size x2 p b X q d 4 2 128 512 (lW 3) (stepsW ws s cc ba 128 tp r0 0)) := Lib.hid (by rw [hz.2]; exact HT.out)
     clear hz HT
     have HT := HT1
     clear HT1
     go_loopw [16] (fun tt wz => ∃ j : Nat, j ≤ 4 ∧ tt = .int .i64 j ∧ wz.heap[g2]? = some (.cells (hAt 0) 32 (0, 0)) ∧ wz.heap[gh]? = some (.cells (hAt i) 32 (0, 0)) ∧ wz.heap[g_c]? = some (.cells (stepsR cc ba 128 tp r0 j).arr 43 (0, 0)) ∧ TwoW w.heap.size wz p b X q d 4 2 128 512 (lW 3) (stepsW ws s cc ba 128 tp r0 j) ∧ Below w.heap.size w wz) (fun t _ => (4 - intOf t).toNat)
     case atStart => exact ⟨0, by omega, rfl, H_r.out, H_h.out, H_c.out, HT.out, B.out⟩
     case round =>
      clear H_r H_h H_c HT B
      obtain ⟨j, hj, rfl, hrel⟩ := hrel
      obtain ⟨hq_H_r, hq_H_h, hq_H_c, hq_HT, hq_B⟩ := hrel
      have H_r := Lib.hid hq_H_r
      have H_h := Lib.hid hq_H_h
      have H_c := Lib.hid hq_H_c
      have HT := Lib.hid hq_HT
      have B := Lib.hid hq_B
      clear hq_H_r hq_H_h hq_H_c hq_HT hq_B
      by_cases hj4 : j < 4
      ·skip
       have hjI : (j : Int) < 4 := by omega
       obtain ⟨R, HRq⟩ : ∃ R, Hid (R = (stepsR cc ba 128 tp r0 j)) := ⟨_, Lib.hid rfl⟩
       rw [← HRq.out] at H_c
       go_wp2_with (first | (refine wpList_load_row rfl 43 (.tmp 15) rfl g_c rfl 43 R.arr (0, 0) _ H_c.out undRun rfl infoRun ?_; (try simp only [Act.put, List.setIfInBounds_toArray, List.set_cons_succ, List.set_cons_zero])))
       rw [HRq.out]
       refine (rsteps16_any X q d s 4 2 128 512 ws cc ba 128 tp noS r0 j _ HBl.out HR0.out.1 HR0.out.2 hj4 HT.out.x).mono ?_
       rintro r y5 ⟨rfl, hX, hK⟩
       obtain ⟨R2, HR2⟩ : ∃ R, Hid (R = (stepsR cc ba 128 tp r0 (j + 1))) := ⟨_, Lib.hid rfl⟩
       rw [← HR2.out]
       have hszK := hK.size
       replace H_r := Lib.hid (hK.row H_r.out (by simpa using (HT.out.nb N_r.out).2))
       replace H_h := Lib.hid (hK.row H_h.out (by simpa using (HT.out.nb N_h.out).2))
       replace H_c := Lib.hid (hK.row H_c.out (by simpa using (HT.out.nb N_c.out).2))
       replace B := Lib.hid (HT.out.under B.out hK (by simp))
       replace HT := Lib.hid (HT.out.onX hX hK)
       clear hX hK hszK
       go_upto_region 25 with (first | (refine wpList_store_row rfl 43 (.tmp 15) (.tmp 86) rfl g_c R2.arr rfl rfl 43 R.arr H_c.out infoRun rfl (Rn.one _) ?_; (try simp only [Act.put, List.setIfInBounds_toArray, List.set_cons_succ, List.set_cons_zero])))
       refine set_row' y5 g_c _ _ _ H_c.out ?_
       intro y6 hr hK
       have hszK := hK.size
       replace H_r := Lib.hid (hK.row H_r.out (by simpa using M_r_c.out))
       replace H_h := Lib.hid (hK.row H_h.out (by simpa using M_h_c.out))
       replace HT := Lib.hid (HT.out.kept hK (fun j hj => by simp only [List.mem_singleton] at hj; subst hj; exact N_c.out))
       replace B := Lib.hid (Keep.under B.out hK (by have := B.out.size; omega) (by simp; exact L_c.out))
       replace H_c := Lib.hid hr
       clear hr hK hszK
       rw [HR2.out] at H_c
       go_wp2_with fail
       go_roundw
       case rel => exact ⟨j + 1, by omega, by go_num, H_r.out, H_h.out, H_c.out, HT.out, B.out⟩
       case measure => simp [intOf]; omega
      ·skip
       obtain rfl : j = 4 := by omega
       clear hj4 hj
       obtain ⟨re, Hre⟩ : ∃ x, Hid ((stepsR cc ba 128 tp r0 4) = x) := ⟨_, Lib.hid rfl⟩
       rw [Hre.out] at H_c HhV
       rw [HoN.out] at HT
       obtain ⟨hv, Hhv⟩ : ∃ x, Hid (hV i = x) := ⟨_, Lib.hid rfl⟩
       rw [Hhv.out] at HhV
       obtain ⟨_, hv0, hv1⟩ := HhV.out
       have hvw : IntKind.u64.wrap hv = hv := by rw [IntKind.wrap_u64]; omega
       have c_24 : wr.cell? ⟨g_c, 24, none⟩ = some (.int .i64 hv) := by rw [row_cell H_c.out]; rw [← HhV.out.1]; rfl
       have z_c := lt_of_heap H_c.out
       have h_i : wr.cell? ⟨gh, i, none⟩ = some (.int .u64 0) := by rw [row_cell H_h.out, hAt_get i (by omega), if_neg (by omega)]
       have f_i : wr.frozen? ⟨gh, i, none⟩ = false := row_frozen H_h.out _
       have i12 : decide ((12 : Int) ≤ (i : Int)) = false := decide_eq_false (by omega)
       have iI12 : (i : Int) < 12 := by omega
       have iI0 : (0 : Int) ≤ (i : Int) := by omega
       have z_h := lt_of_heap H_h.out
       go_upto_region 21 with fail
       clear c_24 z_c z_h
       clear h_i f_i
       refine set_oneR wr gh i _ _ _ H_h.out ?_
       intro z1 hr hK
       rw [hAt_set (by omega) (by unfold hC; rw [if_pos hi9]; exact Hhv.out.symm)] at hr
       replace H_r := Lib.hid (hK.row H_r.out (by simpa using M_r_h.out))
       replace HT := Lib.hid (HT.out.kept hK (fun j hj => by simp only [List.mem_singleton] at hj; subst hj; exact N_h.out))
       replace B := Lib.hid (Keep.under B.out hK (by have := B.out.size; omega) (by simp; exact L_h.out))
       replace H_h := Lib.hid hr
       clear hr hK H_c
       go_wp2_with fail
       go_roundw
       case rel => exact ⟨i + 1, by omega, by go_num, HT.out, H_r.out, H_h.out, B.out⟩
       case measure => simp [intOf]; omega
    ·skip
     have h99 : i = 9 := by omega
     rw [h99] at HT H_h
     have hiI : (9 : Int) ≤ (i : Int) := by omega
     have hiB : decide ((i : Int) < 9) = false := decide_eq_false (by omega)
     clear hi9 hi h99
     obtain ⟨v3, Hv3⟩ : ∃ x, Hid (hV 3 = x ∧ 0 ≤ x ∧ x ≤ 1000000000000) := ⟨_, Lib.hid ⟨rfl, by decide, by decide⟩⟩
     obtain ⟨v4, Hv4⟩ : ∃ x, Hid (hV 4 = x ∧ 0 ≤ x ∧ x ≤ 1000000000000) := ⟨_, Lib.hid ⟨rfl, by decide, by decide⟩⟩
     obtain ⟨_, v30, v31⟩ := Hv3.out
     obtain ⟨_, v40, v41⟩ := Hv4.out
     have v3w : IntKind.u64.wrap (v3 + 4294967296) = v3 + 4294967296 := by rw [IntKind.wrap_u64]; omega
     have v4w : IntKind.u64.wrap (v4 + 1) = v4 + 1 := by rw [IntKind.wrap_u64]; omega
     have h3 : wr.cell? ⟨gh, 3, none⟩ = some (.int .u64 v3) := by rw [row_cell H_h.out, hAt_get 9 (by omega), if_pos (by omega), ← Hv3.out.1]; rfl
     have h9 : wr.cell? ⟨gh, 9, none⟩ = some (.int .u64 0) := by rw [row_cell H_h.out, hAt_get 9 (by omega), if_neg (by omega)]
     have f9 : wr.frozen? ⟨gh, 9, none⟩ = false := row_frozen H_h.out _
     have z_h := lt_of_heap H_h.out
     go_upto_region 29 with fail
     clear z_h
     clear h3 h9 f9
     refine set_oneR wr gh 9 _ _ _ H_h.out ?_
     intro z1 hr hK
     rw [hAt_set (by omega) (by rw [← Hv3.out.1]; rfl)] at hr
     replace H_r := Lib.hid (hK.row H_r.out (by simpa using M_r_h.out))
     replace HT := Lib.hid (HT.out.kept hK (fun j hj => by simp only [List.mem_singleton] at hj; subst hj; exact N_h.out))
     replace B := Lib.hid (Keep.under B.out hK (by have := B.out.size; omega) (by simp; exact L_h.out))
     replace H_h := Lib.hid hr
     clear hr hK
     have h4 : z1.cell? ⟨gh, 4, none⟩ = some (.int .u64 v4) := by rw [row_cell H_h.out, hAt_get _ (by omega), if_pos (by omega), ← Hv4.out.1]; rfl
     have h10 : z1.cell? ⟨gh, 10, none⟩ = some (.int .u64 0) := by rw [row_cell H_h.out, hAt_get _ (by omega), if_neg (by omega)]
     have f10 : z1.frozen? ⟨gh, 10, none⟩ = false := row_frozen H_h.out _
     have z_h := lt_of_heap H_h.out
     go_upto_region 30 with fail
     clear z_h
     clear h4 h10 f10
     refine set_oneR z1 gh 10 _ _ _ H_h.out ?_
     intro z2 hr hK
     rw [hAt_set (by omega) (by rw [← Hv4.out.1]; rfl)] at hr
     replace H_r := Lib.hid (hK.row H_r.out (by simpa using M_r_h.out))
     replace HT := Lib.hid (HT.out.kept hK (fun j hj => by simp only [List.mem_singleton] at hj; subst hj; exact N_h.out))
     replace B := Lib.hid (Keep.under B.out hK (by have := B.out.size; omega) (by simp; exact L_h.out))
     replace H_h := Lib.hid hr
     clear hr hK
     rw [hAt_end] at H_h
     clear v3w v4w Hv3 Hv4 v30 v31 v40 v41
     rw [← mixW_zero] at HT
     go_wp2_with fail
     go_loopw [17] (fun tt wz => ∃ n : Nat, n ≤ 112 ∧ tt = .int .i64 n ∧ TwoW w.heap.size wz p b X q d 4 2 128 512 (mixW n) (oW 9) ∧ wz.heap[g2]? = some (.cells (hAt 0) 32 (0, 0)) ∧ wz.heap[gh]? = some (.cells (hAt 12) 32 (0, 0)) ∧ Below w.heap.size w wz) (fun t _ => (112 - intOf t).toNat)
     case atStart => exact ⟨0, by omega, rfl, HT.out, H_r.out, H_h.out, B.out⟩
     case round =>
      clear HT H_r H_h B
      obtain ⟨n, hn, rfl, hT, hr, hh, hB⟩ := hrel
      have HT := Lib.hid hT
      have H_r := Lib.hid hr
      have H_h := Lib.hid hh
      have B := Lib.hid hB
      clear hT hr hh hB
      have X_5 := HT.out.x.cell
      have zX := HT.out.lt X (by simp)
      have zq := HT.out.lt q (by simp)
      have zd := HT.out.lt d (by simp)
      obtain ⟨q_0, _⟩ := box1 HT.out.x.arn.box
      rw [oW_len] at q_0
      by_cases hn4 : n < 112
      ·skip
       obtain ⟨e, he⟩ : ∃ x, (oW 9)[n]? = some x := ⟨_, List.getElem?_eq_getElem (by rw [oW_len]; exact hn4)⟩
       obtain ⟨f, hf⟩ : ∃ x, (mixW n)[n]? = some x := ⟨_, List.getElem?_eq_getElem (by rw [mixW_len n hn]; exact hn4)⟩
       have cd := HT.out.x.arn.cell n e he
       have He := Lib.hid he
       have Hf := Lib.hid hf
       have he0 : Hid (0 ≤ e ∧ e < 18446744073709551616) := Lib.hid (HT.out.x.arn.ok e (List.mem_of_getElem? he))
       have HPt : Hid (Calls Tryz.prog 23 #[.pointer (some ⟨p, 0, none⟩), .int .i64 (8 * (n : Int)), .int .u64 e] wr fun r w' => r = .returned (.int .i64 0) ∧ Arn w' p b ((mixW n).set n e) ∧ Keep [b] wr w') := Lib.hid (by
        have h9 := arnPut_any p b (mixW n) n f e wr HT.out.a hf he0.out
        rwa [show ((n * 8 : Nat) : Int) = 8 * (n : Int) by omega] at h9)
       have hnI : (n : Int) < 112 := by omega
       have hnI0 : (0 : Int) ≤ (n : Int) := by omega
       have h8n : IntKind.i64.wrap (8 * (n : Int)) = 8 * (n : Int) := IntWalk.i64_in _ (by omega)
       clear he hf
       go_wp2_with fail
       clear X_5 q_0 cd zX zq zd
       refine HPt.out.mono ?_
       rintro r y1 ⟨rfl, hA, hK⟩
       rw [mixW_set hn4 He.out] at hA
       clear HPt
       have hszK := hK.size
       replace H_r := Lib.hid (hK.row H_r.out (by simpa using (HT.out.nb N_r.out).1))
       replace H_h := Lib.hid (hK.row H_h.out (by simpa using (HT.out.nb N_h.out).1))
       replace B := Lib.hid (HT.out.under B.out hK (by simp))
       replace HT := Lib.hid (HT.out.onA hA hK)
       clear hA hK hszK
       go_wp2_with fail
       go_roundw
       case rel => exact ⟨n + 1, by omega, by go_num, HT.out, H_r.out, H_h.out, B.out⟩
       case measure => simp [intOf]; omega
      ·skip
       have h112 : n = 112 := by omega
       rw [h112, mixW_all] at HT
       have hnI : (112 : Int) ≤ (n : Int) := by omega
       have hnB : decide ((n : Int) < 112) = false := decide_eq_false (by omega)
       clear hn4 hn h112
       go_upto_region 34 with fail
       clear X_5 q_0 zX zq zd
       try simp only [Act.put]
       refine wp_region_held_drew (S := fun W' => W'.heap[gh]? = some (.cells (hAt 12) 32 (0, 0))) (by kernel_rfl) (by first | exact H_h.out | (dsimp only; exact H_h.out)) ?_
       intro hS
       have HT9 := Lib.hid HT.out.drew
       have hb0 : Below wr.heap.size wr wr.drew := Below.drew (Below.refl _ _)
       have hR9 : wr.drew.heap[g2]? = some (.cells (hAt 0) 32 (0, 0)) := H_r.out
       generalize wr.drew = y0 at hS hb0 HT9 hR9 ⊢
       refine wpAnyH_take_at (i := 0) (v := ?v0x1) (some 127) rfl rfl (by kernel_rfl) (by kernel_rfl) (by kernel_rfl) (fun _ _ _ h => h) (Or.inl ⟨by kernel_rfl, ?h0x1⟩) (by assumption) ?r0x1
       case h0x1 => (intro w' hSw; go_simp; first | done | (with_reducible rfl))
       try simp only [Act.put, List.setIfInBounds_toArray, List.set_cons_succ, List.set_cons_zero]
       refine wpAnyH_take_at (i := 1) (v := ?v1x2) (some 128) rfl rfl (by kernel_rfl) (by kernel_rfl) (by kernel_rfl) (fun _ _ _ h => h) (Or.inl ⟨by kernel_rfl, ?h1x2⟩) (by assumption) ?r1x2
       case h1x2 => (intro w' hSw; go_simp; first | done | (with_reducible rfl))
       try simp only [Act.put, List.setIfInBounds_toArray, List.set_cons_succ, List.set_cons_zero]
       refine wpAnyH_take_at (i := 2) (v := .agg (hAt 12)) (some 129) rfl rfl (by kernel_rfl) (by kernel_rfl) (by kernel_rfl) (fun _ _ _ h => h) (yieldsIf_load_row (by kernel_rfl) 32 (.tmp 8) rfl gh rfl (hAt 12) (fun W' hW' => hW') undH12 rfl infoH12) (by assumption) ?_
       try simp only [Act.put, List.setIfInBounds_toArray, List.set_cons_succ, List.set_cons_zero]
       refine wpAnyH_take_at (i := 3) (v := ?v3x3) (some 0) rfl rfl (by kernel_rfl) (by kernel_rfl) (by kernel_rfl) (fun _ _ _ h => h) (Or.inl ⟨by kernel_rfl, ?h3x3⟩) (by assumption) ?r3x3
       case h3x3 => (intro w' hSw; go_simp; first | done | (with_reducible rfl))
       try simp only [Act.put, List.setIfInBounds_toArray, List.set_cons_succ, List.set_cons_zero]
       refine wpAnyH_take_at (i := 4) (v := ?v4x4) (some 1) rfl rfl (by kernel_rfl) (by kernel_rfl) (by kernel_rfl) (fun _ _ _ h => h) (Or.inl ⟨by kernel_rfl, ?h4x4⟩) (by assumption) ?r4x4
       case h4x4 => (intro w' hSw; go_simp; first | done | (with_reducible rfl))
       try simp only [Act.put, List.setIfInBounds_toArray, List.set_cons_succ, List.set_cons_zero]
       refine wpAnyH_ready (rs := [5]) (by kernel_rfl) (by simp) ?_
       refine AllReadyH.cons rfl (fun K hK => ?_) AllReadyH.nil
       refine step_store_row none rfl rfl 32 (.tmp 2) (.tmp 129) rfl g2 (hAt 12) rfl rfl 32 (hAt 0) hR9 infoH12 rfl (hAt_one _) ?_
       refine hK.out _ _ ((setRow_other _ _ _ _ M_h_r.out).trans hS) (fun hS => ?_)
       clear hK K
       try simp only [Act.put, List.setIfInBounds_toArray, List.set_cons_succ, List.set_cons_zero]
       refine wpAnyH_done (by kernel_rfl) ?_ _
       have hks := (Keep.refl [g2] y0).setRow (g := g2) (.inl (by simp)) (hAt 12)
       go_wp2_with fail
       refine bodyPost_ret (results_laid (fn := Tryz.f11) rfl _ _ g2 32 (hAt 12) (0, 0) 12 23 rfl (setRow_heap y0 _ _ _ _ (0, 0) hR9) undH12 infoH12) rfl ?_
       exact ⟨p, b, X, q, d, rfl, HT9.out.kept hks (fun j hj => by simp only [List.mem_singleton] at hj; subst hj; exact N_r.out), Keep.under (below_only B.out hb0) hks (by have := (below_only B.out hb0).size; omega) (by simp; exact L_r.out)⟩
end Go.Proofs.YtnimaajnlkbdaaaGreat
