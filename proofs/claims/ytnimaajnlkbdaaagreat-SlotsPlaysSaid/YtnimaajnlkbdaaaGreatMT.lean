/- Layer 16: the document's step, by contracts of its pieces. (Printed by gen_rst.py.) Layer 16: the document's step: the access itself. (Printed by gen_rst2.py.) Layer 16: what the document's step makes of a load or store on its way. (Printed by gen_rslj.py.) -/
import Derived.Test.YtnimaajnlkbdaaaGreatMR
import Derived.Test.YtnimaajnlkbdaaaGreatMP
import Derived.Test.YtnimaajnlkbdaaaGreatSlJ
namespace Go.Proofs.YtnimaajnlkbdaaaGreat
open Go.RowKit
set_option linter.unusedVariables false
set_option linter.unusedSimpArgs false

abbrev rfV (x : Rf) : Value := .agg #[.int .i64 x.1, .int .i64 x.2.1, .int .i64 x.2.2]
set_option maxRecDepth 100000 in
set_option maxHeartbeats 4000000 in
theorem rslStep5_any (X : Nat) (r : Rn) (w : World) (hp : r.pc = 5) (h0 : 0 ≤ r.hand ∧ r.hand ≤ 18446744073709551615) (v0 : 0 ≤ r.val ∧ r.val ≤ 18446744073709551615) (uh uv : Rf × Int) (hu : unpackR r.hand = uh) (hv : unpackR r.val = uv) (hs : r.said = noS) (bo : Bool) (hC : ∀ w', Below w.heap.size w w' → Calls Tryz.prog 39 #[.pointer (some ⟨X, 0, none⟩), rfV uh.1] w' fun e w'' => e = .returned (.bool bo) ∧ Below w'.heap.size w' w'') :
  Calls Tryz.prog 15 #[.pointer (some ⟨X, 0, none⟩), r.v] w fun e w' => e = .returned (if bo = true then toldR r 19 0 noS else { r with pc := 6 } : Rn).v ∧ Below w.heap.size w w' := by
 have Hp := Lib.hid hp
 have HU := fun w' => Lib.hid (runpackR_any r.hand w' h0.1 h0.2)
 have HV := fun w' => Lib.hid (runpackR_any r.val w' v0.1 v0.2)
 rw [hu] at HU
 rw [hv] at HV
 have HSd := Lib.hid hs
 have HC := Lib.hid hC
 clear hs hC
 clear hp h0 v0 hu hv
 obtain ⟨⟨a1, a2, a3⟩, ac⟩ := uh
 obtain ⟨⟨b1, b2, b3⟩, bc⟩ := uv
 try dsimp only at *
 go_enter Tryz.func15, Tryz.ntmps15
 go_upto_region 1 with fail
 refine two_rows' w _ _ _ _ ?_
 intro w1 hr hz hb
 have HR := Lib.hid hr
 have HZ := Lib.hid hz
 have HB := Lib.hid hb
 clear hr hz hb
 have q9 : w1.cell? ⟨w.heap.size, 9, none⟩ = some (.int .u64 r.hand) := by rw [row_cell HR.out]; rfl
 have zr := lt_of_heap HR.out
 go_wp2_with fail
 refine (HU _).out.mono ?_
 rintro e' w2 ⟨rfl, hb⟩
 try dsimp only
 replace HR := Lib.hid (row_below HR.out hb)
 replace HZ := Lib.hid (row_below HZ.out hb)
 replace HB := Lib.hid (below_only HB.out hb)
 clear hb q9 zr HU
 go_upto_region 2 with fail
 refine one_row w2 _ _ ?_
 intro w3 hr hb
 replace HR := Lib.hid (row_below HR.out hb)
 replace HZ := Lib.hid (row_below HZ.out hb)
 replace HB := Lib.hid (below_only HB.out hb)
 obtain ⟨gh, hgh⟩ : ∃ x, x = w2.heap.size := ⟨_, rfl⟩
 rw [← hgh] at hr ⊢
 have H_h := Lib.hid hr
 clear hgh hr hb
 have q10 : w3.cell? ⟨w.heap.size, 10, none⟩ = some (.int .u64 r.val) := by rw [row_cell HR.out]; rfl
 have zr := lt_of_heap HR.out
 go_wp2_with fail
 refine (HV _).out.mono ?_
 rintro e' w4 ⟨rfl, hb⟩
 try dsimp only
 replace HR := Lib.hid (row_below HR.out hb)
 replace HZ := Lib.hid (row_below HZ.out hb)
 replace HB := Lib.hid (below_only HB.out hb)
 replace H_h := Lib.hid (row_below H_h.out hb)
 clear hb q10 zr HV
 go_upto_region 3 with fail
 refine one_row w4 _ _ ?_
 intro w5 hr hb
 replace HR := Lib.hid (row_below HR.out hb)
 replace HZ := Lib.hid (row_below HZ.out hb)
 replace HB := Lib.hid (below_only HB.out hb)
 replace H_h := Lib.hid (row_below H_h.out hb)
 obtain ⟨gv, hgv⟩ : ∃ x, x = w4.heap.size := ⟨_, rfl⟩
 rw [← hgv] at hr ⊢
 have H_v := Lib.hid hr
 clear hgv hr hb
 have q7 : w5.cell? ⟨w.heap.size, 7, none⟩ = some (.int .i64 5) := by rw [row_cell HR.out, ← Hp.out]; rfl
 have zr := lt_of_heap HR.out
 obtain ⟨f0, f1, f2, _, _, _⟩ := box3 H_h.out
 have zf := lt_of_heap H_h.out
 obtain ⟨g0, g1, g2, _, _, _⟩ := box3 H_v.out
 have zg := lt_of_heap H_v.out
 go_wp2_with fail
 refine (HC.out _ HB.out).mono ?_
 rintro e' w6 ⟨rfl, hb⟩
 replace HR := Lib.hid (row_below HR.out hb)
 replace HZ := Lib.hid (row_below HZ.out hb)
 replace HB := Lib.hid (below_only HB.out hb)
 replace H_h := Lib.hid (row_below H_h.out hb)
 replace H_v := Lib.hid (row_below H_v.out hb)
 clear hb
 clear q7 zr f0 f1 f2 zf g0 g1 g2 zg
 cases bo with
 | true =>
  go_wp2_with (refine wpList_load_row rfl 43 (.tmp 3) rfl w.heap.size rfl 43 r.arr (0, 0) _ HR.out undRun rfl infoRun ?_)
  refine (rtell16 r 19 0 _ HSd.out).mono ?_
  rintro e' w7 ⟨rfl, hb⟩
  replace HR := Lib.hid (row_below HR.out hb)
  replace HZ := Lib.hid (row_below HZ.out hb)
  replace HB := Lib.hid (below_only HB.out hb)
  replace H_h := Lib.hid (row_below H_h.out hb)
  replace H_v := Lib.hid (row_below H_v.out hb)
  clear hb
  go_wp2_with (refine wpList_store_row rfl 43 (.tmp 4) (.tmp 36) rfl (w.heap.size + 1) (toldR r 19 0 noS).arr rfl rfl 43 ZRun HZ.out infoRun rfl (Rn.one _) ?_)
  refine bodyPost_ret (results_cell_row (fn := Tryz.f15) rfl _ _ (w.heap.size + 1) 43 (toldR r 19 0 noS).arr (0, 0) _ rfl (setRow_heap w7 _ _ _ _ (0, 0) HZ.out) undRun rfl infoRun) rfl ?_
  exact ⟨rfl, below_setRow HB.out (by omega) _⟩
 | false =>
  go_wp2_with (refine wpList_load_row rfl 43 (.tmp 3) rfl w.heap.size rfl 43 r.arr (0, 0) _ HR.out undRun rfl infoRun ?_)
  refine (rat_any r 6 _).mono ?_
  rintro e' w7 ⟨rfl, hb⟩
  replace HR := Lib.hid (row_below HR.out hb)
  replace HZ := Lib.hid (row_below HZ.out hb)
  replace HB := Lib.hid (below_only HB.out hb)
  replace H_h := Lib.hid (row_below H_h.out hb)
  replace H_v := Lib.hid (row_below H_v.out hb)
  clear hb
  go_wp2_with (refine wpList_store_row rfl 43 (.tmp 4) (.tmp 38) rfl (w.heap.size + 1) ({ r with pc := 6 } : Rn).arr rfl rfl 43 ZRun HZ.out infoRun rfl (Rn.one _) ?_)
  refine bodyPost_ret (results_cell_row (fn := Tryz.f15) rfl _ _ (w.heap.size + 1) 43 ({ r with pc := 6 } : Rn).arr (0, 0) _ rfl (setRow_heap w7 _ _ _ _ (0, 0) HZ.out) undRun rfl infoRun) rfl ?_
  exact ⟨rfl, below_setRow HB.out (by omega) _⟩

set_option maxRecDepth 100000 in
set_option maxHeartbeats 4000000 in
theorem rslStep7_any (X : Nat) (r : Rn) (w : World) (hp : r.pc = 7) (h0 : 0 ≤ r.hand ∧ r.hand ≤ 18446744073709551615) (v0 : 0 ≤ r.val ∧ r.val ≤ 18446744073709551615) (uh uv : Rf × Int) (hu : unpackR r.hand = uh) (hv : unpackR r.val = uv) (hs : r.said = noS) (bo : Bool) (hC : ∀ w', Below w.heap.size w w' → Calls Tryz.prog 39 #[.pointer (some ⟨X, 0, none⟩), rfV uv.1] w' fun e w'' => e = .returned (.bool bo) ∧ Below w'.heap.size w' w'') :
  Calls Tryz.prog 15 #[.pointer (some ⟨X, 0, none⟩), r.v] w fun e w' => e = .returned (if bo = true then toldR r 19 0 noS else { r with pc := 8 } : Rn).v ∧ Below w.heap.size w w' := by
 have Hp := Lib.hid hp
 have HU := fun w' => Lib.hid (runpackR_any r.hand w' h0.1 h0.2)
 have HV := fun w' => Lib.hid (runpackR_any r.val w' v0.1 v0.2)
 rw [hu] at HU
 rw [hv] at HV
 have HSd := Lib.hid hs
 have HC := Lib.hid hC
 clear hs hC
 clear hp h0 v0 hu hv
 obtain ⟨⟨a1, a2, a3⟩, ac⟩ := uh
 obtain ⟨⟨b1, b2, b3⟩, bc⟩ := uv
 try dsimp only at *
 go_enter Tryz.func15, Tryz.ntmps15
 go_upto_region 1 with fail
 refine two_rows' w _ _ _ _ ?_
 intro w1 hr hz hb
 have HR := Lib.hid hr
 have HZ := Lib.hid hz
 have HB := Lib.hid hb
 clear hr hz hb
 have q9 : w1.cell? ⟨w.heap.size, 9, none⟩ = some (.int .u64 r.hand) := by rw [row_cell HR.out]; rfl
 have zr := lt_of_heap HR.out
 go_wp2_with fail
 refine (HU _).out.mono ?_
 rintro e' w2 ⟨rfl, hb⟩
 try dsimp only
 replace HR := Lib.hid (row_below HR.out hb)
 replace HZ := Lib.hid (row_below HZ.out hb)
 replace HB := Lib.hid (below_only HB.out hb)
 clear hb q9 zr HU
 go_upto_region 2 with fail
 refine one_row w2 _ _ ?_
 intro w3 hr hb
 replace HR := Lib.hid (row_below HR.out hb)
 replace HZ := Lib.hid (row_below HZ.out hb)
 replace HB := Lib.hid (below_only HB.out hb)
 obtain ⟨gh, hgh⟩ : ∃ x, x = w2.heap.size := ⟨_, rfl⟩
 rw [← hgh] at hr ⊢
 have H_h := Lib.hid hr
 clear hgh hr hb
 have q10 : w3.cell? ⟨w.heap.size, 10, none⟩ = some (.int .u64 r.val) := by rw [row_cell HR.out]; rfl
 have zr := lt_of_heap HR.out
 go_wp2_with fail
 refine (HV _).out.mono ?_
 rintro e' w4 ⟨rfl, hb⟩
 try dsimp only
 replace HR := Lib.hid (row_below HR.out hb)
 replace HZ := Lib.hid (row_below HZ.out hb)
 replace HB := Lib.hid (below_only HB.out hb)
 replace H_h := Lib.hid (row_below H_h.out hb)
 clear hb q10 zr HV
 go_upto_region 3 with fail
 refine one_row w4 _ _ ?_
 intro w5 hr hb
 replace HR := Lib.hid (row_below HR.out hb)
 replace HZ := Lib.hid (row_below HZ.out hb)
 replace HB := Lib.hid (below_only HB.out hb)
 replace H_h := Lib.hid (row_below H_h.out hb)
 obtain ⟨gv, hgv⟩ : ∃ x, x = w4.heap.size := ⟨_, rfl⟩
 rw [← hgv] at hr ⊢
 have H_v := Lib.hid hr
 clear hgv hr hb
 have q7 : w5.cell? ⟨w.heap.size, 7, none⟩ = some (.int .i64 7) := by rw [row_cell HR.out, ← Hp.out]; rfl
 have zr := lt_of_heap HR.out
 obtain ⟨f0, f1, f2, _, _, _⟩ := box3 H_h.out
 have zf := lt_of_heap H_h.out
 obtain ⟨g0, g1, g2, _, _, _⟩ := box3 H_v.out
 have zg := lt_of_heap H_v.out
 go_wp2_with fail
 refine (HC.out _ HB.out).mono ?_
 rintro e' w6 ⟨rfl, hb⟩
 replace HR := Lib.hid (row_below HR.out hb)
 replace HZ := Lib.hid (row_below HZ.out hb)
 replace HB := Lib.hid (below_only HB.out hb)
 replace H_h := Lib.hid (row_below H_h.out hb)
 replace H_v := Lib.hid (row_below H_v.out hb)
 clear hb
 clear q7 zr f0 f1 f2 zf g0 g1 g2 zg
 cases bo with
 | true =>
  go_wp2_with (refine wpList_load_row rfl 43 (.tmp 3) rfl w.heap.size rfl 43 r.arr (0, 0) _ HR.out undRun rfl infoRun ?_)
  refine (rtell16 r 19 0 _ HSd.out).mono ?_
  rintro e' w7 ⟨rfl, hb⟩
  replace HR := Lib.hid (row_below HR.out hb)
  replace HZ := Lib.hid (row_below HZ.out hb)
  replace HB := Lib.hid (below_only HB.out hb)
  replace H_h := Lib.hid (row_below H_h.out hb)
  replace H_v := Lib.hid (row_below H_v.out hb)
  clear hb
  go_wp2_with (refine wpList_store_row rfl 43 (.tmp 4) (.tmp 52) rfl (w.heap.size + 1) (toldR r 19 0 noS).arr rfl rfl 43 ZRun HZ.out infoRun rfl (Rn.one _) ?_)
  refine bodyPost_ret (results_cell_row (fn := Tryz.f15) rfl _ _ (w.heap.size + 1) 43 (toldR r 19 0 noS).arr (0, 0) _ rfl (setRow_heap w7 _ _ _ _ (0, 0) HZ.out) undRun rfl infoRun) rfl ?_
  exact ⟨rfl, below_setRow HB.out (by omega) _⟩
 | false =>
  go_wp2_with (refine wpList_load_row rfl 43 (.tmp 3) rfl w.heap.size rfl 43 r.arr (0, 0) _ HR.out undRun rfl infoRun ?_)
  refine (rat_any r 8 _).mono ?_
  rintro e' w7 ⟨rfl, hb⟩
  replace HR := Lib.hid (row_below HR.out hb)
  replace HZ := Lib.hid (row_below HZ.out hb)
  replace HB := Lib.hid (below_only HB.out hb)
  replace H_h := Lib.hid (row_below H_h.out hb)
  replace H_v := Lib.hid (row_below H_v.out hb)
  clear hb
  go_wp2_with (refine wpList_store_row rfl 43 (.tmp 4) (.tmp 54) rfl (w.heap.size + 1) ({ r with pc := 8 } : Rn).arr rfl rfl 43 ZRun HZ.out infoRun rfl (Rn.one _) ?_)
  refine bodyPost_ret (results_cell_row (fn := Tryz.f15) rfl _ _ (w.heap.size + 1) 43 ({ r with pc := 8 } : Rn).arr (0, 0) _ rfl (setRow_heap w7 _ _ _ _ (0, 0) HZ.out) undRun rfl infoRun) rfl ?_
  exact ⟨rfl, below_setRow HB.out (by omega) _⟩

set_option maxRecDepth 100000 in
set_option maxHeartbeats 4000000 in
theorem rslStep6_any (X : Nat) (r : Rn) (w : World) (hp : r.pc = 6) (h0 : 0 ≤ r.hand ∧ r.hand ≤ 18446744073709551615) (v0 : 0 ≤ r.val ∧ r.val ≤ 18446744073709551615) (uh uv : Rf × Int) (hu : unpackR r.hand = uh) (hv : unpackR r.val = uv) (Z : Rn) (hC : ∀ w', Below w.heap.size w w' → Calls Tryz.prog 42 #[.pointer (some ⟨X, 0, none⟩), r.v, rfV uh.1] w' fun e w'' => e = .returned Z.v ∧ Below w'.heap.size w' w'') :
  Calls Tryz.prog 15 #[.pointer (some ⟨X, 0, none⟩), r.v] w fun e w' => e = .returned Z.v ∧ Below w.heap.size w w' := by
 have Hp := Lib.hid hp
 have HU := fun w' => Lib.hid (runpackR_any r.hand w' h0.1 h0.2)
 have HV := fun w' => Lib.hid (runpackR_any r.val w' v0.1 v0.2)
 rw [hu] at HU
 rw [hv] at HV
 have HC := Lib.hid hC
 clear hC
 clear hp h0 v0 hu hv
 obtain ⟨⟨a1, a2, a3⟩, ac⟩ := uh
 obtain ⟨⟨b1, b2, b3⟩, bc⟩ := uv
 try dsimp only at *
 go_enter Tryz.func15, Tryz.ntmps15
 go_upto_region 1 with fail
 refine two_rows' w _ _ _ _ ?_
 intro w1 hr hz hb
 have HR := Lib.hid hr
 have HZ := Lib.hid hz
 have HB := Lib.hid hb
 clear hr hz hb
 have q9 : w1.cell? ⟨w.heap.size, 9, none⟩ = some (.int .u64 r.hand) := by rw [row_cell HR.out]; rfl
 have zr := lt_of_heap HR.out
 go_wp2_with fail
 refine (HU _).out.mono ?_
 rintro e' w2 ⟨rfl, hb⟩
 try dsimp only
 replace HR := Lib.hid (row_below HR.out hb)
 replace HZ := Lib.hid (row_below HZ.out hb)
 replace HB := Lib.hid (below_only HB.out hb)
 clear hb q9 zr HU
 go_upto_region 2 with fail
 refine one_row w2 _ _ ?_
 intro w3 hr hb
 replace HR := Lib.hid (row_below HR.out hb)
 replace HZ := Lib.hid (row_below HZ.out hb)
 replace HB := Lib.hid (below_only HB.out hb)
 obtain ⟨gh, hgh⟩ : ∃ x, x = w2.heap.size := ⟨_, rfl⟩
 rw [← hgh] at hr ⊢
 have H_h := Lib.hid hr
 clear hgh hr hb
 have q10 : w3.cell? ⟨w.heap.size, 10, none⟩ = some (.int .u64 r.val) := by rw [row_cell HR.out]; rfl
 have zr := lt_of_heap HR.out
 go_wp2_with fail
 refine (HV _).out.mono ?_
 rintro e' w4 ⟨rfl, hb⟩
 try dsimp only
 replace HR := Lib.hid (row_below HR.out hb)
 replace HZ := Lib.hid (row_below HZ.out hb)
 replace HB := Lib.hid (below_only HB.out hb)
 replace H_h := Lib.hid (row_below H_h.out hb)
 clear hb q10 zr HV
 go_upto_region 3 with fail
 refine one_row w4 _ _ ?_
 intro w5 hr hb
 replace HR := Lib.hid (row_below HR.out hb)
 replace HZ := Lib.hid (row_below HZ.out hb)
 replace HB := Lib.hid (below_only HB.out hb)
 replace H_h := Lib.hid (row_below H_h.out hb)
 obtain ⟨gv, hgv⟩ : ∃ x, x = w4.heap.size := ⟨_, rfl⟩
 rw [← hgv] at hr ⊢
 have H_v := Lib.hid hr
 clear hgv hr hb
 have q7 : w5.cell? ⟨w.heap.size, 7, none⟩ = some (.int .i64 6) := by rw [row_cell HR.out, ← Hp.out]; rfl
 have zr := lt_of_heap HR.out
 obtain ⟨f0, f1, f2, _, _, _⟩ := box3 H_h.out
 have zf := lt_of_heap H_h.out
 obtain ⟨g0, g1, g2, _, _, _⟩ := box3 H_v.out
 have zg := lt_of_heap H_v.out
 go_wp2_with (refine wpList_load_row rfl 43 (.tmp 3) rfl w.heap.size rfl 43 r.arr (0, 0) _ HR.out undRun rfl infoRun ?_)
 refine (HC.out _ HB.out).mono ?_
 rintro e' w6 ⟨rfl, hb⟩
 replace HR := Lib.hid (row_below HR.out hb)
 replace HZ := Lib.hid (row_below HZ.out hb)
 replace HB := Lib.hid (below_only HB.out hb)
 replace H_h := Lib.hid (row_below H_h.out hb)
 replace H_v := Lib.hid (row_below H_v.out hb)
 clear hb
 clear q7 zr f0 f1 f2 zf g0 g1 g2 zg
 go_wp2_with (refine wpList_store_row rfl 43 (.tmp 4) (.tmp 44) rfl (w.heap.size + 1) Z.arr rfl rfl 43 ZRun HZ.out infoRun rfl (Rn.one _) ?_)
 refine bodyPost_ret (results_cell_row (fn := Tryz.f15) rfl _ _ (w.heap.size + 1) 43 Z.arr (0, 0) _ rfl (setRow_heap w6 _ _ _ _ (0, 0) HZ.out) undRun rfl infoRun) rfl ?_
 exact ⟨rfl, below_setRow HB.out (by omega) _⟩

set_option maxRecDepth 100000 in
set_option maxHeartbeats 4000000 in
theorem rslStep8_any (X : Nat) (r : Rn) (w : World) (hp : r.pc = 8) (h0 : 0 ≤ r.hand ∧ r.hand ≤ 18446744073709551615) (v0 : 0 ≤ r.val ∧ r.val ≤ 18446744073709551615) (uh uv : Rf × Int) (hu : unpackR r.hand = uh) (hv : unpackR r.val = uv) (Z : Rn) (hC : ∀ w', Below w.heap.size w w' → Calls Tryz.prog 43 #[.pointer (some ⟨X, 0, none⟩), r.v, rfV uh.1, rfV uv.1] w' fun e w'' => e = .returned Z.v ∧ Below w'.heap.size w' w'') :
  Calls Tryz.prog 15 #[.pointer (some ⟨X, 0, none⟩), r.v] w fun e w' => e = .returned Z.v ∧ Below w.heap.size w w' := by
 have Hp := Lib.hid hp
 have HU := fun w' => Lib.hid (runpackR_any r.hand w' h0.1 h0.2)
 have HV := fun w' => Lib.hid (runpackR_any r.val w' v0.1 v0.2)
 rw [hu] at HU
 rw [hv] at HV
 have HC := Lib.hid hC
 clear hC
 clear hp h0 v0 hu hv
 obtain ⟨⟨a1, a2, a3⟩, ac⟩ := uh
 obtain ⟨⟨b1, b2, b3⟩, bc⟩ := uv
 try dsimp only at *
 go_enter Tryz.func15, Tryz.ntmps15
 go_upto_region 1 with fail
 refine two_rows' w _ _ _ _ ?_
 intro w1 hr hz hb
 have HR := Lib.hid hr
 have HZ := Lib.hid hz
 have HB := Lib.hid hb
 clear hr hz hb
 have q9 : w1.cell? ⟨w.heap.size, 9, none⟩ = some (.int .u64 r.hand) := by rw [row_cell HR.out]; rfl
 have zr := lt_of_heap HR.out
 go_wp2_with fail
 refine (HU _).out.mono ?_
 rintro e' w2 ⟨rfl, hb⟩
 try dsimp only
 replace HR := Lib.hid (row_below HR.out hb)
 replace HZ := Lib.hid (row_below HZ.out hb)
 replace HB := Lib.hid (below_only HB.out hb)
 clear hb q9 zr HU
 go_upto_region 2 with fail
 refine one_row w2 _ _ ?_
 intro w3 hr hb
 replace HR := Lib.hid (row_below HR.out hb)
 replace HZ := Lib.hid (row_below HZ.out hb)
 replace HB := Lib.hid (below_only HB.out hb)
 obtain ⟨gh, hgh⟩ : ∃ x, x = w2.heap.size := ⟨_, rfl⟩
 rw [← hgh] at hr ⊢
 have H_h := Lib.hid hr
 clear hgh hr hb
 have q10 : w3.cell? ⟨w.heap.size, 10, none⟩ = some (.int .u64 r.val) := by rw [row_cell HR.out]; rfl
 have zr := lt_of_heap HR.out
 go_wp2_with fail
 refine (HV _).out.mono ?_
 rintro e' w4 ⟨rfl, hb⟩
 try dsimp only
 replace HR := Lib.hid (row_below HR.out hb)
 replace HZ := Lib.hid (row_below HZ.out hb)
 replace HB := Lib.hid (below_only HB.out hb)
 replace H_h := Lib.hid (row_below H_h.out hb)
 clear hb q10 zr HV
 go_upto_region 3 with fail
 refine one_row w4 _ _ ?_
 intro w5 hr hb
 replace HR := Lib.hid (row_below HR.out hb)
 replace HZ := Lib.hid (row_below HZ.out hb)
 replace HB := Lib.hid (below_only HB.out hb)
 replace H_h := Lib.hid (row_below H_h.out hb)
 obtain ⟨gv, hgv⟩ : ∃ x, x = w4.heap.size := ⟨_, rfl⟩
 rw [← hgv] at hr ⊢
 have H_v := Lib.hid hr
 clear hgv hr hb
 have q7 : w5.cell? ⟨w.heap.size, 7, none⟩ = some (.int .i64 8) := by rw [row_cell HR.out, ← Hp.out]; rfl
 have zr := lt_of_heap HR.out
 obtain ⟨f0, f1, f2, _, _, _⟩ := box3 H_h.out
 have zf := lt_of_heap H_h.out
 obtain ⟨g0, g1, g2, _, _, _⟩ := box3 H_v.out
 have zg := lt_of_heap H_v.out
 go_wp2_with (refine wpList_load_row rfl 43 (.tmp 3) rfl w.heap.size rfl 43 r.arr (0, 0) _ HR.out undRun rfl infoRun ?_)
 refine (HC.out _ HB.out).mono ?_
 rintro e' w6 ⟨rfl, hb⟩
 replace HR := Lib.hid (row_below HR.out hb)
 replace HZ := Lib.hid (row_below HZ.out hb)
 replace HB := Lib.hid (below_only HB.out hb)
 replace H_h := Lib.hid (row_below H_h.out hb)
 replace H_v := Lib.hid (row_below H_v.out hb)
 clear hb
 clear q7 zr f0 f1 f2 zf g0 g1 g2 zg
 go_wp2_with (refine wpList_store_row rfl 43 (.tmp 4) (.tmp 61) rfl (w.heap.size + 1) Z.arr rfl rfl 43 ZRun HZ.out infoRun rfl (Rn.one _) ?_)
 refine bodyPost_ret (results_cell_row (fn := Tryz.f15) rfl _ _ (w.heap.size + 1) 43 Z.arr (0, 0) _ rfl (setRow_heap w6 _ _ _ _ (0, 0) HZ.out) undRun rfl infoRun) rfl ?_
 exact ⟨rfl, below_setRow HB.out (by omega) _⟩

end Go.Proofs.YtnimaajnlkbdaaaGreat

namespace Go.Proofs.YtnimaajnlkbdaaaGreat
open Go.RowKit
set_option linter.unusedVariables false
set_option linter.unusedSimpArgs false

set_option maxRecDepth 100000 in
set_option maxHeartbeats 4000000 in
theorem rslStep9_any (X : Nat) (r : Rn) (w : World) (hp : r.pc = 9) (h0 : 0 ≤ r.hand ∧ r.hand ≤ 18446744073709551615) (v0 : 0 ≤ r.val ∧ r.val ≤ 18446744073709551615) (uh uv : Rf × Int) (hu : unpackR r.hand = uh) (hv : unpackR r.val = uv) (q d : Nat) (s t i h : Int) (ws : List Int) (kk : Nat) (x : Int) (H : RAll w X q d s t i h ws) (hs : r.said = noS) (hk : ws[kk]? = some x) (ha : r.at_ = 8 * (kk : Int)) (hx : -9223372036854775808 ≤ x ∧ x ≤ 9223372036854775807) :
  Calls Tryz.prog 15 #[.pointer (some ⟨X, 0, none⟩), r.v] w fun e w' => e = .returned (toldR r 0 x noS).v ∧ Below w.heap.size w w' := by
 have Hp := Lib.hid hp
 have HU := fun w' => Lib.hid (runpackR_any r.hand w' h0.1 h0.2)
 have HV := fun w' => Lib.hid (runpackR_any r.val w' v0.1 v0.2)
 rw [hu] at HU
 rw [hv] at HV
 have HX := Lib.hid H
 have HXl := Lib.hid (rall_lt H)
 have HSd := Lib.hid hs
 have HW := fun w' (H' : RAll w' X q d s t i h ws) => Lib.hid (rarnWord_any q d ws kk x r.at_ w' H'.arn hk ha)
 have xw : IntKind.i64.wrap x = x := IntWalk.i64_in _ hx
 clear H hs hk ha hx
 clear hp h0 v0 hu hv
 obtain ⟨⟨a1, a2, a3⟩, ac⟩ := uh
 obtain ⟨⟨b1, b2, b3⟩, bc⟩ := uv
 try dsimp only at *
 go_enter Tryz.func15, Tryz.ntmps15
 go_upto_region 1 with fail
 refine two_rows' w _ _ _ _ ?_
 intro w1 hr hz hb
 have HR := Lib.hid hr
 have HZ := Lib.hid hz
 have HB := Lib.hid hb
 clear hr hz hb
 have q9 : w1.cell? ⟨w.heap.size, 9, none⟩ = some (.int .u64 r.hand) := by rw [row_cell HR.out]; rfl
 have zr := lt_of_heap HR.out
 go_wp2_with fail
 refine (HU _).out.mono ?_
 rintro e' w2 ⟨rfl, hb⟩
 try dsimp only
 replace HR := Lib.hid (row_below HR.out hb)
 replace HZ := Lib.hid (row_below HZ.out hb)
 replace HB := Lib.hid (below_only HB.out hb)
 clear hb q9 zr HU
 go_upto_region 2 with fail
 refine one_row w2 _ _ ?_
 intro w3 hr hb
 replace HR := Lib.hid (row_below HR.out hb)
 replace HZ := Lib.hid (row_below HZ.out hb)
 replace HB := Lib.hid (below_only HB.out hb)
 obtain ⟨gh, hgh⟩ : ∃ x, x = w2.heap.size := ⟨_, rfl⟩
 rw [← hgh] at hr ⊢
 have H_h := Lib.hid hr
 clear hgh hr hb
 have q10 : w3.cell? ⟨w.heap.size, 10, none⟩ = some (.int .u64 r.val) := by rw [row_cell HR.out]; rfl
 have zr := lt_of_heap HR.out
 go_wp2_with fail
 refine (HV _).out.mono ?_
 rintro e' w4 ⟨rfl, hb⟩
 try dsimp only
 replace HR := Lib.hid (row_below HR.out hb)
 replace HZ := Lib.hid (row_below HZ.out hb)
 replace HB := Lib.hid (below_only HB.out hb)
 replace H_h := Lib.hid (row_below H_h.out hb)
 clear hb q10 zr HV
 go_upto_region 3 with fail
 refine one_row w4 _ _ ?_
 intro w5 hr hb
 replace HR := Lib.hid (row_below HR.out hb)
 replace HZ := Lib.hid (row_below HZ.out hb)
 replace HB := Lib.hid (below_only HB.out hb)
 replace H_h := Lib.hid (row_below H_h.out hb)
 obtain ⟨gv, hgv⟩ : ∃ x, x = w4.heap.size := ⟨_, rfl⟩
 rw [← hgv] at hr ⊢
 have H_v := Lib.hid hr
 clear hgv hr hb
 have q7 : w5.cell? ⟨w.heap.size, 7, none⟩ = some (.int .i64 9) := by rw [row_cell HR.out, ← Hp.out]; rfl
 have zr := lt_of_heap HR.out
 obtain ⟨f0, f1, f2, _, _, _⟩ := box3 H_h.out
 have zf := lt_of_heap H_h.out
 obtain ⟨g0, g1, g2, _, _, _⟩ := box3 H_v.out
 have zg := lt_of_heap H_v.out
 go_upto_region 19 with fail
 clear q7 zr f0 f1 f2 zf g0 g1 g2 zg
 try simp only [Act.put]
 refine wp_region_held_drew (S := fun W' => RAll W' X q d s t i h ws ∧ W'.heap[w.heap.size]? = some (.cells r.arr 43 (0, 0))) (by kernel_rfl) (show RAll w5.drew X q d s t i h ws ∧ w5.drew.heap[w.heap.size]? = _ from ⟨(HX.out.below HB.out).drew, HR.out⟩) ?_
 intro hS
 have hZ0 : w5.drew.heap[w.heap.size + 1]? = _ := HZ.out
 have hB0 : Below w.heap.size w w5.drew := below_drewN HB.out 1
 generalize w5.drew = y0 at hS hZ0 hB0 ⊢
 refine tk (i := 0) (v := ?v0x19) (some 65) rfl rfl (Or.inl ⟨by kernel_rfl, ?h0x19⟩) ?r0x19
 case h0x19 => (intro w' hSw; obtain ⟨s1, s2⟩ := hSw; have x5 := s1.cell; have zx := (rall_lt s1).1; have c4 : w'.cell? ⟨w.heap.size, 4, none⟩ = some (.int .i64 r.c.a) := (by rw [row_cell s2]; rfl); have c10 : w'.cell? ⟨w.heap.size, 10, none⟩ = some (.int .u64 r.val) := (by rw [row_cell s2]; rfl); have c14 : w'.cell? ⟨w.heap.size, 14, none⟩ = some (.int .i64 r.at_) := (by rw [row_cell s2]; rfl); have zr := lt_of_heap s2; go_simp; first | done | (with_reducible rfl))
 try simp only [Act.put, List.setIfInBounds_toArray, List.set_cons_succ, List.set_cons_zero]
 refine tk (i := 1) (v := ?v1x20) (some 66) rfl rfl (Or.inl ⟨by kernel_rfl, ?h1x20⟩) ?r1x20
 case h1x20 => (intro w' hSw; obtain ⟨s1, s2⟩ := hSw; have x5 := s1.cell; have zx := (rall_lt s1).1; have c4 : w'.cell? ⟨w.heap.size, 4, none⟩ = some (.int .i64 r.c.a) := (by rw [row_cell s2]; rfl); have c10 : w'.cell? ⟨w.heap.size, 10, none⟩ = some (.int .u64 r.val) := (by rw [row_cell s2]; rfl); have c14 : w'.cell? ⟨w.heap.size, 14, none⟩ = some (.int .i64 r.at_) := (by rw [row_cell s2]; rfl); have zr := lt_of_heap s2; go_simp; first | done | (with_reducible rfl))
 try simp only [Act.put, List.setIfInBounds_toArray, List.set_cons_succ, List.set_cons_zero]
 refine tk (i := 2) (v := ?v2x21) (some 67) rfl rfl (Or.inl ⟨by kernel_rfl, ?h2x21⟩) ?r2x21
 case h2x21 => (intro w' hSw; obtain ⟨s1, s2⟩ := hSw; have x5 := s1.cell; have zx := (rall_lt s1).1; have c4 : w'.cell? ⟨w.heap.size, 4, none⟩ = some (.int .i64 r.c.a) := (by rw [row_cell s2]; rfl); have c10 : w'.cell? ⟨w.heap.size, 10, none⟩ = some (.int .u64 r.val) := (by rw [row_cell s2]; rfl); have c14 : w'.cell? ⟨w.heap.size, 14, none⟩ = some (.int .i64 r.at_) := (by rw [row_cell s2]; rfl); have zr := lt_of_heap s2; go_simp; first | done | (with_reducible rfl))
 try simp only [Act.put, List.setIfInBounds_toArray, List.set_cons_succ, List.set_cons_zero]
 refine tk (i := 3) (v := ?v3x22) (some 68) rfl rfl (Or.inl ⟨by kernel_rfl, ?h3x22⟩) ?r3x22
 case h3x22 => (intro w' hSw; obtain ⟨s1, s2⟩ := hSw; have x5 := s1.cell; have zx := (rall_lt s1).1; have c4 : w'.cell? ⟨w.heap.size, 4, none⟩ = some (.int .i64 r.c.a) := (by rw [row_cell s2]; rfl); have c10 : w'.cell? ⟨w.heap.size, 10, none⟩ = some (.int .u64 r.val) := (by rw [row_cell s2]; rfl); have c14 : w'.cell? ⟨w.heap.size, 14, none⟩ = some (.int .i64 r.at_) := (by rw [row_cell s2]; rfl); have zr := lt_of_heap s2; go_simp; first | done | (with_reducible rfl))
 try simp only [Act.put, List.setIfInBounds_toArray, List.set_cons_succ, List.set_cons_zero]
 refine tk (i := 4) (v := ?v4x23) (some 69) rfl rfl (Or.inl ⟨by kernel_rfl, ?h4x23⟩) ?r4x23
 case h4x23 => (intro w' hSw; obtain ⟨s1, s2⟩ := hSw; have x5 := s1.cell; have zx := (rall_lt s1).1; have c4 : w'.cell? ⟨w.heap.size, 4, none⟩ = some (.int .i64 r.c.a) := (by rw [row_cell s2]; rfl); have c10 : w'.cell? ⟨w.heap.size, 10, none⟩ = some (.int .u64 r.val) := (by rw [row_cell s2]; rfl); have c14 : w'.cell? ⟨w.heap.size, 14, none⟩ = some (.int .i64 r.at_) := (by rw [row_cell s2]; rfl); have zr := lt_of_heap s2; go_simp; first | done | (with_reducible rfl))
 try simp only [Act.put, List.setIfInBounds_toArray, List.set_cons_succ, List.set_cons_zero]
 refine tk (i := 5) (v := ?v5x24) (some 70) rfl rfl (Or.inl ⟨by kernel_rfl, ?h5x24⟩) ?r5x24
 case h5x24 => (intro w' hSw; obtain ⟨s1, s2⟩ := hSw; have x5 := s1.cell; have zx := (rall_lt s1).1; have c4 : w'.cell? ⟨w.heap.size, 4, none⟩ = some (.int .i64 r.c.a) := (by rw [row_cell s2]; rfl); have c10 : w'.cell? ⟨w.heap.size, 10, none⟩ = some (.int .u64 r.val) := (by rw [row_cell s2]; rfl); have c14 : w'.cell? ⟨w.heap.size, 14, none⟩ = some (.int .i64 r.at_) := (by rw [row_cell s2]; rfl); have zr := lt_of_heap s2; go_simp; first | done | (with_reducible rfl))
 try simp only [Act.put, List.setIfInBounds_toArray, List.set_cons_succ, List.set_cons_zero]
 refine wpAnyH_ready (rs := [6]) (by kernel_rfl) (by simp) ?_
 refine AllReadyH.cons rfl (fun K hK => ?_) AllReadyH.nil
 go_simp
 refine (HW _ hS.1).out.mono ?_
 rintro e' y1 ⟨rfl, e2⟩
 rw [e2]
 clear e2 y1
 go_simp
 refine hK.out _ _ (hS) (fun hS => ?_)
 clear hK K
 try simp only [Act.put, List.setIfInBounds_toArray, List.set_cons_succ, List.set_cons_zero]
 refine tk (i := 7) (v := ?v7x25) (some 64) rfl rfl (Or.inl ⟨by kernel_rfl, ?h7x25⟩) ?r7x25
 case h7x25 => (intro w' hSw; obtain ⟨s1, s2⟩ := hSw; have x5 := s1.cell; have zx := (rall_lt s1).1; have c4 : w'.cell? ⟨w.heap.size, 4, none⟩ = some (.int .i64 r.c.a) := (by rw [row_cell s2]; rfl); have c10 : w'.cell? ⟨w.heap.size, 10, none⟩ = some (.int .u64 r.val) := (by rw [row_cell s2]; rfl); have c14 : w'.cell? ⟨w.heap.size, 14, none⟩ = some (.int .i64 r.at_) := (by rw [row_cell s2]; rfl); have zr := lt_of_heap s2; go_simp; first | done | (with_reducible rfl))
 try simp only [Act.put, List.setIfInBounds_toArray, List.set_cons_succ, List.set_cons_zero]
 refine tk (i := 8) (v := ?v8x26) (some 72) rfl rfl (Or.inl ⟨by kernel_rfl, ?h8x26⟩) ?r8x26
 case h8x26 => (intro w' hSw; obtain ⟨s1, s2⟩ := hSw; have x5 := s1.cell; have zx := (rall_lt s1).1; have c4 : w'.cell? ⟨w.heap.size, 4, none⟩ = some (.int .i64 r.c.a) := (by rw [row_cell s2]; rfl); have c10 : w'.cell? ⟨w.heap.size, 10, none⟩ = some (.int .u64 r.val) := (by rw [row_cell s2]; rfl); have c14 : w'.cell? ⟨w.heap.size, 14, none⟩ = some (.int .i64 r.at_) := (by rw [row_cell s2]; rfl); have zr := lt_of_heap s2; go_simp; first | done | (with_reducible rfl))
 try simp only [Act.put, List.setIfInBounds_toArray, List.set_cons_succ, List.set_cons_zero]
 refine tk (i := 9) (v := ?v9x27) (some 73) rfl rfl (Or.inl ⟨by kernel_rfl, ?h9x27⟩) ?r9x27
 case h9x27 => (intro w' hSw; obtain ⟨s1, s2⟩ := hSw; have x5 := s1.cell; have zx := (rall_lt s1).1; have c4 : w'.cell? ⟨w.heap.size, 4, none⟩ = some (.int .i64 r.c.a) := (by rw [row_cell s2]; rfl); have c10 : w'.cell? ⟨w.heap.size, 10, none⟩ = some (.int .u64 r.val) := (by rw [row_cell s2]; rfl); have c14 : w'.cell? ⟨w.heap.size, 14, none⟩ = some (.int .i64 r.at_) := (by rw [row_cell s2]; rfl); have zr := lt_of_heap s2; go_simp; first | done | (with_reducible rfl))
 try simp only [Act.put, List.setIfInBounds_toArray, List.set_cons_succ, List.set_cons_zero]
 refine tk (i := 10) (v := ?v10x28) (some 11) rfl rfl (Or.inl ⟨by kernel_rfl, ?h10x28⟩) ?r10x28
 case h10x28 => (intro w' hSw; obtain ⟨s1, s2⟩ := hSw; have x5 := s1.cell; have zx := (rall_lt s1).1; have c4 : w'.cell? ⟨w.heap.size, 4, none⟩ = some (.int .i64 r.c.a) := (by rw [row_cell s2]; rfl); have c10 : w'.cell? ⟨w.heap.size, 10, none⟩ = some (.int .u64 r.val) := (by rw [row_cell s2]; rfl); have c14 : w'.cell? ⟨w.heap.size, 14, none⟩ = some (.int .i64 r.at_) := (by rw [row_cell s2]; rfl); have zr := lt_of_heap s2; go_simp; first | done | (with_reducible rfl))
 try simp only [Act.put, List.setIfInBounds_toArray, List.set_cons_succ, List.set_cons_zero]
 refine tk (i := 11) (v := ?v11x29) (some 12) rfl rfl (Or.inl ⟨by kernel_rfl, ?h11x29⟩) ?r11x29
 case h11x29 => (intro w' hSw; obtain ⟨s1, s2⟩ := hSw; have x5 := s1.cell; have zx := (rall_lt s1).1; have c4 : w'.cell? ⟨w.heap.size, 4, none⟩ = some (.int .i64 r.c.a) := (by rw [row_cell s2]; rfl); have c10 : w'.cell? ⟨w.heap.size, 10, none⟩ = some (.int .u64 r.val) := (by rw [row_cell s2]; rfl); have c14 : w'.cell? ⟨w.heap.size, 14, none⟩ = some (.int .i64 r.at_) := (by rw [row_cell s2]; rfl); have zr := lt_of_heap s2; go_simp; first | done | (with_reducible rfl))
 try simp only [Act.put, List.setIfInBounds_toArray, List.set_cons_succ, List.set_cons_zero]
 refine wpAnyH_done (by kernel_rfl) ?_ _
 have HR := Lib.hid hS.2
 have HZ := Lib.hid hZ0
 have HB := Lib.hid hB0
 clear hS hZ0 hB0 HX HXl
 go_wp2_with (refine wpList_load_row rfl 43 (.tmp 3) rfl w.heap.size rfl 43 r.arr (0, 0) _ HR.out undRun rfl infoRun ?_)
 refine (rtell16 r 0 x _ HSd.out).mono ?_
 rintro e' w7 ⟨rfl, hb⟩
 replace HZ := Lib.hid (row_below HZ.out hb)
 replace HB := Lib.hid (below_only HB.out hb)
 clear hb
 go_wp2_with (refine wpList_store_row rfl 43 (.tmp 4) (.tmp 77) rfl (w.heap.size + 1) (toldR r 0 x noS).arr rfl rfl 43 ZRun HZ.out infoRun rfl (Rn.one _) ?_)
 refine bodyPost_ret (results_cell_row (fn := Tryz.f15) rfl _ _ (w.heap.size + 1) 43 (toldR r 0 x noS).arr (0, 0) _ rfl (setRow_heap w7 _ _ _ _ (0, 0) HZ.out) undRun rfl infoRun) rfl ?_
 exact ⟨rfl, below_setRow HB.out (by omega) _⟩

set_option maxRecDepth 100000 in
set_option maxHeartbeats 4000000 in
theorem rslStep11_any (X : Nat) (r : Rn) (w : World) (hp : r.pc = 11) (h0 : 0 ≤ r.hand ∧ r.hand ≤ 18446744073709551615) (v0 : 0 ≤ r.val ∧ r.val ≤ 18446744073709551615) (uh uv : Rf × Int) (hu : unpackR r.hand = uh) (hv : unpackR r.val = uv) (q d : Nat) (s t i h : Int) (ws : List Int) (kk : Nat) (x : Int) (H : RAll w X q d s t i h ws) (hs : r.said = noS) (hk : ws[kk]? = some x) (ha : (kk : Int) = 8 * r.c.a + 4) (hac : 1 ≤ r.c.a ∧ r.c.a ≤ 3) (hx : -9223372036854775808 ≤ x ∧ x ≤ 9223372036854775807) :
  Calls Tryz.prog 15 #[.pointer (some ⟨X, 0, none⟩), r.v] w fun e w' => e = .returned (toldR r 0 x noS).v ∧ Below w.heap.size w w' := by
 have Hp := Lib.hid hp
 have HU := fun w' => Lib.hid (runpackR_any r.hand w' h0.1 h0.2)
 have HV := fun w' => Lib.hid (runpackR_any r.val w' v0.1 v0.2)
 rw [hu] at HU
 rw [hv] at HV
 have HX := Lib.hid H
 have HXl := Lib.hid (rall_lt H)
 have HSd := Lib.hid hs
 have HP := fun w' => Lib.hid (rplanAt_any 4 r.c.a w' (by decide) (by omega))
 have He : Hid (64 * r.c.a + 8 * 4 = 8 * (kk : Int)) := Lib.hid (by omega)
 have HW := fun w' (H' : RAll w' X q d s t i h ws) => Lib.hid (rarnWord_any q d ws kk x (8 * (kk : Int)) w' H'.arn hk rfl)
 have xw : IntKind.i64.wrap x = x := IntWalk.i64_in _ hx
 clear H hs hk ha hx hac
 clear hp h0 v0 hu hv
 obtain ⟨⟨a1, a2, a3⟩, ac⟩ := uh
 obtain ⟨⟨b1, b2, b3⟩, bc⟩ := uv
 try dsimp only at *
 go_enter Tryz.func15, Tryz.ntmps15
 go_upto_region 1 with fail
 refine two_rows' w _ _ _ _ ?_
 intro w1 hr hz hb
 have HR := Lib.hid hr
 have HZ := Lib.hid hz
 have HB := Lib.hid hb
 clear hr hz hb
 have q9 : w1.cell? ⟨w.heap.size, 9, none⟩ = some (.int .u64 r.hand) := by rw [row_cell HR.out]; rfl
 have zr := lt_of_heap HR.out
 go_wp2_with fail
 refine (HU _).out.mono ?_
 rintro e' w2 ⟨rfl, hb⟩
 try dsimp only
 replace HR := Lib.hid (row_below HR.out hb)
 replace HZ := Lib.hid (row_below HZ.out hb)
 replace HB := Lib.hid (below_only HB.out hb)
 clear hb q9 zr HU
 go_upto_region 2 with fail
 refine one_row w2 _ _ ?_
 intro w3 hr hb
 replace HR := Lib.hid (row_below HR.out hb)
 replace HZ := Lib.hid (row_below HZ.out hb)
 replace HB := Lib.hid (below_only HB.out hb)
 obtain ⟨gh, hgh⟩ : ∃ x, x = w2.heap.size := ⟨_, rfl⟩
 rw [← hgh] at hr ⊢
 have H_h := Lib.hid hr
 clear hgh hr hb
 have q10 : w3.cell? ⟨w.heap.size, 10, none⟩ = some (.int .u64 r.val) := by rw [row_cell HR.out]; rfl
 have zr := lt_of_heap HR.out
 go_wp2_with fail
 refine (HV _).out.mono ?_
 rintro e' w4 ⟨rfl, hb⟩
 try dsimp only
 replace HR := Lib.hid (row_below HR.out hb)
 replace HZ := Lib.hid (row_below HZ.out hb)
 replace HB := Lib.hid (below_only HB.out hb)
 replace H_h := Lib.hid (row_below H_h.out hb)
 clear hb q10 zr HV
 go_upto_region 3 with fail
 refine one_row w4 _ _ ?_
 intro w5 hr hb
 replace HR := Lib.hid (row_below HR.out hb)
 replace HZ := Lib.hid (row_below HZ.out hb)
 replace HB := Lib.hid (below_only HB.out hb)
 replace H_h := Lib.hid (row_below H_h.out hb)
 obtain ⟨gv, hgv⟩ : ∃ x, x = w4.heap.size := ⟨_, rfl⟩
 rw [← hgv] at hr ⊢
 have H_v := Lib.hid hr
 clear hgv hr hb
 have q7 : w5.cell? ⟨w.heap.size, 7, none⟩ = some (.int .i64 11) := by rw [row_cell HR.out, ← Hp.out]; rfl
 have zr := lt_of_heap HR.out
 obtain ⟨f0, f1, f2, _, _, _⟩ := box3 H_h.out
 have zf := lt_of_heap H_h.out
 obtain ⟨g0, g1, g2, _, _, _⟩ := box3 H_v.out
 have zg := lt_of_heap H_v.out
 go_upto_region 25 with fail
 clear q7 zr f0 f1 f2 zf g0 g1 g2 zg
 try simp only [Act.put]
 refine wp_region_held_drew (S := fun W' => RAll W' X q d s t i h ws ∧ W'.heap[w.heap.size]? = some (.cells r.arr 43 (0, 0))) (by kernel_rfl) (show RAll w5.drew X q d s t i h ws ∧ w5.drew.heap[w.heap.size]? = _ from ⟨(HX.out.below HB.out).drew, HR.out⟩) ?_
 intro hS
 have hZ0 : w5.drew.heap[w.heap.size + 1]? = _ := HZ.out
 have hB0 : Below w.heap.size w w5.drew := below_drewN HB.out 1
 generalize w5.drew = y0 at hS hZ0 hB0 ⊢
 refine tk (i := 0) (v := ?v0x30) (some 94) rfl rfl (Or.inl ⟨by kernel_rfl, ?h0x30⟩) ?r0x30
 case h0x30 => (intro w' hSw; obtain ⟨s1, s2⟩ := hSw; have x5 := s1.cell; have zx := (rall_lt s1).1; have c4 : w'.cell? ⟨w.heap.size, 4, none⟩ = some (.int .i64 r.c.a) := (by rw [row_cell s2]; rfl); have c10 : w'.cell? ⟨w.heap.size, 10, none⟩ = some (.int .u64 r.val) := (by rw [row_cell s2]; rfl); have c14 : w'.cell? ⟨w.heap.size, 14, none⟩ = some (.int .i64 r.at_) := (by rw [row_cell s2]; rfl); have zr := lt_of_heap s2; go_simp; first | done | (with_reducible rfl))
 try simp only [Act.put, List.setIfInBounds_toArray, List.set_cons_succ, List.set_cons_zero]
 refine tk (i := 1) (v := ?v1x31) (some 95) rfl rfl (Or.inl ⟨by kernel_rfl, ?h1x31⟩) ?r1x31
 case h1x31 => (intro w' hSw; obtain ⟨s1, s2⟩ := hSw; have x5 := s1.cell; have zx := (rall_lt s1).1; have c4 : w'.cell? ⟨w.heap.size, 4, none⟩ = some (.int .i64 r.c.a) := (by rw [row_cell s2]; rfl); have c10 : w'.cell? ⟨w.heap.size, 10, none⟩ = some (.int .u64 r.val) := (by rw [row_cell s2]; rfl); have c14 : w'.cell? ⟨w.heap.size, 14, none⟩ = some (.int .i64 r.at_) := (by rw [row_cell s2]; rfl); have zr := lt_of_heap s2; go_simp; first | done | (with_reducible rfl))
 try simp only [Act.put, List.setIfInBounds_toArray, List.set_cons_succ, List.set_cons_zero]
 refine tk (i := 2) (v := ?v2x32) (some 96) rfl rfl (Or.inl ⟨by kernel_rfl, ?h2x32⟩) ?r2x32
 case h2x32 => (intro w' hSw; obtain ⟨s1, s2⟩ := hSw; have x5 := s1.cell; have zx := (rall_lt s1).1; have c4 : w'.cell? ⟨w.heap.size, 4, none⟩ = some (.int .i64 r.c.a) := (by rw [row_cell s2]; rfl); have c10 : w'.cell? ⟨w.heap.size, 10, none⟩ = some (.int .u64 r.val) := (by rw [row_cell s2]; rfl); have c14 : w'.cell? ⟨w.heap.size, 14, none⟩ = some (.int .i64 r.at_) := (by rw [row_cell s2]; rfl); have zr := lt_of_heap s2; go_simp; first | done | (with_reducible rfl))
 try simp only [Act.put, List.setIfInBounds_toArray, List.set_cons_succ, List.set_cons_zero]
 refine tk (i := 3) (v := ?v3x33) (some 97) rfl rfl (Or.inl ⟨by kernel_rfl, ?h3x33⟩) ?r3x33
 case h3x33 => (intro w' hSw; obtain ⟨s1, s2⟩ := hSw; have x5 := s1.cell; have zx := (rall_lt s1).1; have c4 : w'.cell? ⟨w.heap.size, 4, none⟩ = some (.int .i64 r.c.a) := (by rw [row_cell s2]; rfl); have c10 : w'.cell? ⟨w.heap.size, 10, none⟩ = some (.int .u64 r.val) := (by rw [row_cell s2]; rfl); have c14 : w'.cell? ⟨w.heap.size, 14, none⟩ = some (.int .i64 r.at_) := (by rw [row_cell s2]; rfl); have zr := lt_of_heap s2; go_simp; first | done | (with_reducible rfl))
 try simp only [Act.put, List.setIfInBounds_toArray, List.set_cons_succ, List.set_cons_zero]
 refine tk (i := 4) (v := ?v4x34) (some 98) rfl rfl (Or.inl ⟨by kernel_rfl, ?h4x34⟩) ?r4x34
 case h4x34 => (intro w' hSw; obtain ⟨s1, s2⟩ := hSw; have x5 := s1.cell; have zx := (rall_lt s1).1; have c4 : w'.cell? ⟨w.heap.size, 4, none⟩ = some (.int .i64 r.c.a) := (by rw [row_cell s2]; rfl); have c10 : w'.cell? ⟨w.heap.size, 10, none⟩ = some (.int .u64 r.val) := (by rw [row_cell s2]; rfl); have c14 : w'.cell? ⟨w.heap.size, 14, none⟩ = some (.int .i64 r.at_) := (by rw [row_cell s2]; rfl); have zr := lt_of_heap s2; go_simp; first | done | (with_reducible rfl))
 try simp only [Act.put, List.setIfInBounds_toArray, List.set_cons_succ, List.set_cons_zero]
 refine tk (i := 5) (v := ?v5x35) (some 99) rfl rfl (Or.inl ⟨by kernel_rfl, ?h5x35⟩) ?r5x35
 case h5x35 => (intro w' hSw; obtain ⟨s1, s2⟩ := hSw; have x5 := s1.cell; have zx := (rall_lt s1).1; have c4 : w'.cell? ⟨w.heap.size, 4, none⟩ = some (.int .i64 r.c.a) := (by rw [row_cell s2]; rfl); have c10 : w'.cell? ⟨w.heap.size, 10, none⟩ = some (.int .u64 r.val) := (by rw [row_cell s2]; rfl); have c14 : w'.cell? ⟨w.heap.size, 14, none⟩ = some (.int .i64 r.at_) := (by rw [row_cell s2]; rfl); have zr := lt_of_heap s2; go_simp; first | done | (with_reducible rfl))
 try simp only [Act.put, List.setIfInBounds_toArray, List.set_cons_succ, List.set_cons_zero]
 refine tk (i := 6) (v := ?v6x36) (some 100) rfl rfl (Or.inl ⟨by kernel_rfl, ?h6x36⟩) ?r6x36
 case h6x36 => (intro w' hSw; obtain ⟨s1, s2⟩ := hSw; have x5 := s1.cell; have zx := (rall_lt s1).1; have c4 : w'.cell? ⟨w.heap.size, 4, none⟩ = some (.int .i64 r.c.a) := (by rw [row_cell s2]; rfl); have c10 : w'.cell? ⟨w.heap.size, 10, none⟩ = some (.int .u64 r.val) := (by rw [row_cell s2]; rfl); have c14 : w'.cell? ⟨w.heap.size, 14, none⟩ = some (.int .i64 r.at_) := (by rw [row_cell s2]; rfl); have zr := lt_of_heap s2; go_simp; first | done | (with_reducible rfl))
 try simp only [Act.put, List.setIfInBounds_toArray, List.set_cons_succ, List.set_cons_zero]
 refine wpAnyH_ready (rs := [7]) (by kernel_rfl) (by simp) ?_
 refine AllReadyH.cons rfl (fun K hK => ?_) AllReadyH.nil
 go_simp
 refine (HP _).out.mono ?_
 rintro e' y1 ⟨rfl, e2⟩
 rw [e2, He.out]
 clear e2 y1
 go_simp
 refine hK.out _ _ (hS) (fun hS => ?_)
 clear hK K
 try simp only [Act.put, List.setIfInBounds_toArray, List.set_cons_succ, List.set_cons_zero]
 refine wpAnyH_ready (rs := [8]) (by kernel_rfl) (by simp) ?_
 refine AllReadyH.cons rfl (fun K hK => ?_) AllReadyH.nil
 go_simp
 refine (HW _ hS.1).out.mono ?_
 rintro e' y1 ⟨rfl, e2⟩
 rw [e2]
 clear e2 y1
 go_simp
 refine hK.out _ _ (hS) (fun hS => ?_)
 clear hK K
 try simp only [Act.put, List.setIfInBounds_toArray, List.set_cons_succ, List.set_cons_zero]
 refine tk (i := 9) (v := ?v9x37) (some 93) rfl rfl (Or.inl ⟨by kernel_rfl, ?h9x37⟩) ?r9x37
 case h9x37 => (intro w' hSw; obtain ⟨s1, s2⟩ := hSw; have x5 := s1.cell; have zx := (rall_lt s1).1; have c4 : w'.cell? ⟨w.heap.size, 4, none⟩ = some (.int .i64 r.c.a) := (by rw [row_cell s2]; rfl); have c10 : w'.cell? ⟨w.heap.size, 10, none⟩ = some (.int .u64 r.val) := (by rw [row_cell s2]; rfl); have c14 : w'.cell? ⟨w.heap.size, 14, none⟩ = some (.int .i64 r.at_) := (by rw [row_cell s2]; rfl); have zr := lt_of_heap s2; go_simp; first | done | (with_reducible rfl))
 try simp only [Act.put, List.setIfInBounds_toArray, List.set_cons_succ, List.set_cons_zero]
 refine tk (i := 10) (v := ?v10x38) (some 103) rfl rfl (Or.inl ⟨by kernel_rfl, ?h10x38⟩) ?r10x38
 case h10x38 => (intro w' hSw; obtain ⟨s1, s2⟩ := hSw; have x5 := s1.cell; have zx := (rall_lt s1).1; have c4 : w'.cell? ⟨w.heap.size, 4, none⟩ = some (.int .i64 r.c.a) := (by rw [row_cell s2]; rfl); have c10 : w'.cell? ⟨w.heap.size, 10, none⟩ = some (.int .u64 r.val) := (by rw [row_cell s2]; rfl); have c14 : w'.cell? ⟨w.heap.size, 14, none⟩ = some (.int .i64 r.at_) := (by rw [row_cell s2]; rfl); have zr := lt_of_heap s2; go_simp; first | done | (with_reducible rfl))
 try simp only [Act.put, List.setIfInBounds_toArray, List.set_cons_succ, List.set_cons_zero]
 refine tk (i := 11) (v := ?v11x39) (some 104) rfl rfl (Or.inl ⟨by kernel_rfl, ?h11x39⟩) ?r11x39
 case h11x39 => (intro w' hSw; obtain ⟨s1, s2⟩ := hSw; have x5 := s1.cell; have zx := (rall_lt s1).1; have c4 : w'.cell? ⟨w.heap.size, 4, none⟩ = some (.int .i64 r.c.a) := (by rw [row_cell s2]; rfl); have c10 : w'.cell? ⟨w.heap.size, 10, none⟩ = some (.int .u64 r.val) := (by rw [row_cell s2]; rfl); have c14 : w'.cell? ⟨w.heap.size, 14, none⟩ = some (.int .i64 r.at_) := (by rw [row_cell s2]; rfl); have zr := lt_of_heap s2; go_simp; first | done | (with_reducible rfl))
 try simp only [Act.put, List.setIfInBounds_toArray, List.set_cons_succ, List.set_cons_zero]
 refine tk (i := 12) (v := ?v12x40) (some 13) rfl rfl (Or.inl ⟨by kernel_rfl, ?h12x40⟩) ?r12x40
 case h12x40 => (intro w' hSw; obtain ⟨s1, s2⟩ := hSw; have x5 := s1.cell; have zx := (rall_lt s1).1; have c4 : w'.cell? ⟨w.heap.size, 4, none⟩ = some (.int .i64 r.c.a) := (by rw [row_cell s2]; rfl); have c10 : w'.cell? ⟨w.heap.size, 10, none⟩ = some (.int .u64 r.val) := (by rw [row_cell s2]; rfl); have c14 : w'.cell? ⟨w.heap.size, 14, none⟩ = some (.int .i64 r.at_) := (by rw [row_cell s2]; rfl); have zr := lt_of_heap s2; go_simp; first | done | (with_reducible rfl))
 try simp only [Act.put, List.setIfInBounds_toArray, List.set_cons_succ, List.set_cons_zero]
 refine tk (i := 13) (v := ?v13x41) (some 14) rfl rfl (Or.inl ⟨by kernel_rfl, ?h13x41⟩) ?r13x41
 case h13x41 => (intro w' hSw; obtain ⟨s1, s2⟩ := hSw; have x5 := s1.cell; have zx := (rall_lt s1).1; have c4 : w'.cell? ⟨w.heap.size, 4, none⟩ = some (.int .i64 r.c.a) := (by rw [row_cell s2]; rfl); have c10 : w'.cell? ⟨w.heap.size, 10, none⟩ = some (.int .u64 r.val) := (by rw [row_cell s2]; rfl); have c14 : w'.cell? ⟨w.heap.size, 14, none⟩ = some (.int .i64 r.at_) := (by rw [row_cell s2]; rfl); have zr := lt_of_heap s2; go_simp; first | done | (with_reducible rfl))
 try simp only [Act.put, List.setIfInBounds_toArray, List.set_cons_succ, List.set_cons_zero]
 refine wpAnyH_done (by kernel_rfl) ?_ _
 have HR := Lib.hid hS.2
 have HZ := Lib.hid hZ0
 have HB := Lib.hid hB0
 clear hS hZ0 hB0 HX HXl
 go_wp2_with (refine wpList_load_row rfl 43 (.tmp 3) rfl w.heap.size rfl 43 r.arr (0, 0) _ HR.out undRun rfl infoRun ?_)
 refine (rtell16 r 0 x _ HSd.out).mono ?_
 rintro e' w7 ⟨rfl, hb⟩
 replace HZ := Lib.hid (row_below HZ.out hb)
 replace HB := Lib.hid (below_only HB.out hb)
 clear hb
 go_wp2_with (refine wpList_store_row rfl 43 (.tmp 4) (.tmp 108) rfl (w.heap.size + 1) (toldR r 0 x noS).arr rfl rfl 43 ZRun HZ.out infoRun rfl (Rn.one _) ?_)
 refine bodyPost_ret (results_cell_row (fn := Tryz.f15) rfl _ _ (w.heap.size + 1) 43 (toldR r 0 x noS).arr (0, 0) _ rfl (setRow_heap w7 _ _ _ _ (0, 0) HZ.out) undRun rfl infoRun) rfl ?_
 exact ⟨rfl, below_setRow HB.out (by omega) _⟩

set_option maxRecDepth 100000 in
set_option maxHeartbeats 4000000 in
theorem rslStep10_any (X : Nat) (r : Rn) (w : World) (hp : r.pc = 10) (h0 : 0 ≤ r.hand ∧ r.hand ≤ 18446744073709551615) (v0 : 0 ≤ r.val ∧ r.val ≤ 18446744073709551615) (uh uv : Rf × Int) (hu : unpackR r.hand = uh) (hv : unpackR r.val = uv) (q d : Nat) (s t i h : Int) (ws : List Int) (kk : Nat) (x : Int) (H : RAll w X q d s t i h ws) (hs : r.said = noS) (hk : ws[kk]? = some x) (ha : r.at_ = 8 * (kk : Int)) (hv9 : 0 ≤ r.val ∧ r.val < 18446744073709551616) :
  Calls Tryz.prog 15 #[.pointer (some ⟨X, 0, none⟩), r.v] w fun e w' => e = .returned (toldR r 0 0 noS).v ∧ RAll w' X q d s t i h (ws.set kk r.val) ∧ Keep [d] w w' := by
 have Hp := Lib.hid hp
 have HU := fun w' => Lib.hid (runpackR_any r.hand w' h0.1 h0.2)
 have HV := fun w' => Lib.hid (runpackR_any r.val w' v0.1 v0.2)
 rw [hu] at HU
 rw [hv] at HV
 have HX := Lib.hid H
 have HXl := Lib.hid (rall_lt H)
 have HSd := Lib.hid hs
 have HW := fun w' (H' : RAll w' X q d s t i h ws) => Lib.hid (rarnPut_any q d ws kk x r.val r.at_ w' H'.arn hk ha hv9)
 clear H hs hk ha hv9
 clear hp h0 v0 hu hv
 obtain ⟨⟨a1, a2, a3⟩, ac⟩ := uh
 obtain ⟨⟨b1, b2, b3⟩, bc⟩ := uv
 try dsimp only at *
 go_enter Tryz.func15, Tryz.ntmps15
 go_upto_region 1 with fail
 refine two_rows' w _ _ _ _ ?_
 intro w1 hr hz hb
 have HR := Lib.hid hr
 have HZ := Lib.hid hz
 have HB := Lib.hid hb
 clear hr hz hb
 have q9 : w1.cell? ⟨w.heap.size, 9, none⟩ = some (.int .u64 r.hand) := by rw [row_cell HR.out]; rfl
 have zr := lt_of_heap HR.out
 go_wp2_with fail
 refine (HU _).out.mono ?_
 rintro e' w2 ⟨rfl, hb⟩
 try dsimp only
 replace HR := Lib.hid (row_below HR.out hb)
 replace HZ := Lib.hid (row_below HZ.out hb)
 replace HB := Lib.hid (below_only HB.out hb)
 clear hb q9 zr HU
 go_upto_region 2 with fail
 refine one_row w2 _ _ ?_
 intro w3 hr hb
 replace HR := Lib.hid (row_below HR.out hb)
 replace HZ := Lib.hid (row_below HZ.out hb)
 replace HB := Lib.hid (below_only HB.out hb)
 obtain ⟨gh, hgh⟩ : ∃ x, x = w2.heap.size := ⟨_, rfl⟩
 rw [← hgh] at hr ⊢
 have H_h := Lib.hid hr
 clear hgh hr hb
 have q10 : w3.cell? ⟨w.heap.size, 10, none⟩ = some (.int .u64 r.val) := by rw [row_cell HR.out]; rfl
 have zr := lt_of_heap HR.out
 go_wp2_with fail
 refine (HV _).out.mono ?_
 rintro e' w4 ⟨rfl, hb⟩
 try dsimp only
 replace HR := Lib.hid (row_below HR.out hb)
 replace HZ := Lib.hid (row_below HZ.out hb)
 replace HB := Lib.hid (below_only HB.out hb)
 replace H_h := Lib.hid (row_below H_h.out hb)
 clear hb q10 zr HV
 go_upto_region 3 with fail
 refine one_row w4 _ _ ?_
 intro w5 hr hb
 replace HR := Lib.hid (row_below HR.out hb)
 replace HZ := Lib.hid (row_below HZ.out hb)
 replace HB := Lib.hid (below_only HB.out hb)
 replace H_h := Lib.hid (row_below H_h.out hb)
 obtain ⟨gv, hgv⟩ : ∃ x, x = w4.heap.size := ⟨_, rfl⟩
 rw [← hgv] at hr ⊢
 have H_v := Lib.hid hr
 clear hgv hr hb
 have q7 : w5.cell? ⟨w.heap.size, 7, none⟩ = some (.int .i64 10) := by rw [row_cell HR.out, ← Hp.out]; rfl
 have zr := lt_of_heap HR.out
 obtain ⟨f0, f1, f2, _, _, _⟩ := box3 H_h.out
 have zf := lt_of_heap H_h.out
 obtain ⟨g0, g1, g2, _, _, _⟩ := box3 H_v.out
 have zg := lt_of_heap H_v.out
 go_upto_region 22 with fail
 clear q7 zr f0 f1 f2 zf g0 g1 g2 zg
 try simp only [Act.put]
 refine wp_region_held_drew (S := fun W' => (∃ ws9, RAll W' X q d s t i h ws9) ∧ W'.heap[w.heap.size]? = some (.cells r.arr 43 (0, 0))) (by kernel_rfl) (show (∃ ws9, RAll w5.drew X q d s t i h ws9) ∧ w5.drew.heap[w.heap.size]? = _ from ⟨⟨ws, (HX.out.below HB.out).drew⟩, HR.out⟩) ?_
 intro hS
 have hX0 := (HX.out.below HB.out).drew
 have hZ0 : w5.drew.heap[w.heap.size + 1]? = _ := HZ.out
 have hB0 : Below w.heap.size w w5.drew := below_drewN HB.out 1
 generalize w5.drew = y0 at hS hX0 hZ0 hB0 ⊢
 refine tk (i := 0) (v := ?v0x42) (some 80) rfl rfl (Or.inl ⟨by kernel_rfl, ?h0x42⟩) ?r0x42
 case h0x42 => (intro w' hSw; obtain ⟨⟨ws9, s1⟩, s2⟩ := hSw; have x5 := s1.cell; have zx := (rall_lt s1).1; have c4 : w'.cell? ⟨w.heap.size, 4, none⟩ = some (.int .i64 r.c.a) := (by rw [row_cell s2]; rfl); have c10 : w'.cell? ⟨w.heap.size, 10, none⟩ = some (.int .u64 r.val) := (by rw [row_cell s2]; rfl); have c14 : w'.cell? ⟨w.heap.size, 14, none⟩ = some (.int .i64 r.at_) := (by rw [row_cell s2]; rfl); have zr := lt_of_heap s2; go_simp; first | done | (with_reducible rfl))
 try simp only [Act.put, List.setIfInBounds_toArray, List.set_cons_succ, List.set_cons_zero]
 refine tk (i := 1) (v := ?v1x43) (some 81) rfl rfl (Or.inl ⟨by kernel_rfl, ?h1x43⟩) ?r1x43
 case h1x43 => (intro w' hSw; obtain ⟨⟨ws9, s1⟩, s2⟩ := hSw; have x5 := s1.cell; have zx := (rall_lt s1).1; have c4 : w'.cell? ⟨w.heap.size, 4, none⟩ = some (.int .i64 r.c.a) := (by rw [row_cell s2]; rfl); have c10 : w'.cell? ⟨w.heap.size, 10, none⟩ = some (.int .u64 r.val) := (by rw [row_cell s2]; rfl); have c14 : w'.cell? ⟨w.heap.size, 14, none⟩ = some (.int .i64 r.at_) := (by rw [row_cell s2]; rfl); have zr := lt_of_heap s2; go_simp; first | done | (with_reducible rfl))
 try simp only [Act.put, List.setIfInBounds_toArray, List.set_cons_succ, List.set_cons_zero]
 refine tk (i := 2) (v := ?v2x44) (some 82) rfl rfl (Or.inl ⟨by kernel_rfl, ?h2x44⟩) ?r2x44
 case h2x44 => (intro w' hSw; obtain ⟨⟨ws9, s1⟩, s2⟩ := hSw; have x5 := s1.cell; have zx := (rall_lt s1).1; have c4 : w'.cell? ⟨w.heap.size, 4, none⟩ = some (.int .i64 r.c.a) := (by rw [row_cell s2]; rfl); have c10 : w'.cell? ⟨w.heap.size, 10, none⟩ = some (.int .u64 r.val) := (by rw [row_cell s2]; rfl); have c14 : w'.cell? ⟨w.heap.size, 14, none⟩ = some (.int .i64 r.at_) := (by rw [row_cell s2]; rfl); have zr := lt_of_heap s2; go_simp; first | done | (with_reducible rfl))
 try simp only [Act.put, List.setIfInBounds_toArray, List.set_cons_succ, List.set_cons_zero]
 refine tk (i := 3) (v := ?v3x45) (some 83) rfl rfl (Or.inl ⟨by kernel_rfl, ?h3x45⟩) ?r3x45
 case h3x45 => (intro w' hSw; obtain ⟨⟨ws9, s1⟩, s2⟩ := hSw; have x5 := s1.cell; have zx := (rall_lt s1).1; have c4 : w'.cell? ⟨w.heap.size, 4, none⟩ = some (.int .i64 r.c.a) := (by rw [row_cell s2]; rfl); have c10 : w'.cell? ⟨w.heap.size, 10, none⟩ = some (.int .u64 r.val) := (by rw [row_cell s2]; rfl); have c14 : w'.cell? ⟨w.heap.size, 14, none⟩ = some (.int .i64 r.at_) := (by rw [row_cell s2]; rfl); have zr := lt_of_heap s2; go_simp; first | done | (with_reducible rfl))
 try simp only [Act.put, List.setIfInBounds_toArray, List.set_cons_succ, List.set_cons_zero]
 refine tk (i := 4) (v := ?v4x46) (some 84) rfl rfl (Or.inl ⟨by kernel_rfl, ?h4x46⟩) ?r4x46
 case h4x46 => (intro w' hSw; obtain ⟨⟨ws9, s1⟩, s2⟩ := hSw; have x5 := s1.cell; have zx := (rall_lt s1).1; have c4 : w'.cell? ⟨w.heap.size, 4, none⟩ = some (.int .i64 r.c.a) := (by rw [row_cell s2]; rfl); have c10 : w'.cell? ⟨w.heap.size, 10, none⟩ = some (.int .u64 r.val) := (by rw [row_cell s2]; rfl); have c14 : w'.cell? ⟨w.heap.size, 14, none⟩ = some (.int .i64 r.at_) := (by rw [row_cell s2]; rfl); have zr := lt_of_heap s2; go_simp; first | done | (with_reducible rfl))
 try simp only [Act.put, List.setIfInBounds_toArray, List.set_cons_succ, List.set_cons_zero]
 refine tk (i := 5) (v := ?v5x47) (some 85) rfl rfl (Or.inl ⟨by kernel_rfl, ?h5x47⟩) ?r5x47
 case h5x47 => (intro w' hSw; obtain ⟨⟨ws9, s1⟩, s2⟩ := hSw; have x5 := s1.cell; have zx := (rall_lt s1).1; have c4 : w'.cell? ⟨w.heap.size, 4, none⟩ = some (.int .i64 r.c.a) := (by rw [row_cell s2]; rfl); have c10 : w'.cell? ⟨w.heap.size, 10, none⟩ = some (.int .u64 r.val) := (by rw [row_cell s2]; rfl); have c14 : w'.cell? ⟨w.heap.size, 14, none⟩ = some (.int .i64 r.at_) := (by rw [row_cell s2]; rfl); have zr := lt_of_heap s2; go_simp; first | done | (with_reducible rfl))
 try simp only [Act.put, List.setIfInBounds_toArray, List.set_cons_succ, List.set_cons_zero]
 refine tk (i := 6) (v := ?v6x48) (some 86) rfl rfl (Or.inl ⟨by kernel_rfl, ?h6x48⟩) ?r6x48
 case h6x48 => (intro w' hSw; obtain ⟨⟨ws9, s1⟩, s2⟩ := hSw; have x5 := s1.cell; have zx := (rall_lt s1).1; have c4 : w'.cell? ⟨w.heap.size, 4, none⟩ = some (.int .i64 r.c.a) := (by rw [row_cell s2]; rfl); have c10 : w'.cell? ⟨w.heap.size, 10, none⟩ = some (.int .u64 r.val) := (by rw [row_cell s2]; rfl); have c14 : w'.cell? ⟨w.heap.size, 14, none⟩ = some (.int .i64 r.at_) := (by rw [row_cell s2]; rfl); have zr := lt_of_heap s2; go_simp; first | done | (with_reducible rfl))
 try simp only [Act.put, List.setIfInBounds_toArray, List.set_cons_succ, List.set_cons_zero]
 refine tk (i := 7) (v := ?v7x49) (some 87) rfl rfl (Or.inl ⟨by kernel_rfl, ?h7x49⟩) ?r7x49
 case h7x49 => (intro w' hSw; obtain ⟨⟨ws9, s1⟩, s2⟩ := hSw; have x5 := s1.cell; have zx := (rall_lt s1).1; have c4 : w'.cell? ⟨w.heap.size, 4, none⟩ = some (.int .i64 r.c.a) := (by rw [row_cell s2]; rfl); have c10 : w'.cell? ⟨w.heap.size, 10, none⟩ = some (.int .u64 r.val) := (by rw [row_cell s2]; rfl); have c14 : w'.cell? ⟨w.heap.size, 14, none⟩ = some (.int .i64 r.at_) := (by rw [row_cell s2]; rfl); have zr := lt_of_heap s2; go_simp; first | done | (with_reducible rfl))
 try simp only [Act.put, List.setIfInBounds_toArray, List.set_cons_succ, List.set_cons_zero]
 refine wpAnyH_ready (rs := [8]) (by kernel_rfl) (by simp) ?_
 refine AllReadyH.cons rfl (fun K hK => ?_) AllReadyH.nil
 go_simp
 refine (HW _ hX0).out.mono ?_
 rintro e' y1 ⟨rfl, hA, hKp⟩
 go_simp
 have hA9 : RAll y1 X q d s t i h (ws.set kk r.val) := hX0.put hKp hA
 have HR := Lib.hid (hKp.row hS.2 (by have := HXl.out; simp; omega))
 have HZ := Lib.hid (hKp.row hZ0 (by have := HXl.out; simp; omega))
 have HA := Lib.hid hA9
 have HK := Lib.hid ((keep_below hB0 [d]).trans hKp)
 refine hK.out _ _ (⟨⟨_, hA9⟩, HR.out⟩) (fun hS => ?_)
 clear hK K
 try simp only [Act.put, List.setIfInBounds_toArray, List.set_cons_succ, List.set_cons_zero]
 refine wpAnyH_done (by kernel_rfl) ?_ _
 clear hS hX0 hZ0 hB0 hA hKp hA9 HX
 go_wp2_with (refine wpList_load_row rfl 43 (.tmp 3) rfl w.heap.size rfl 43 r.arr (0, 0) _ HR.out undRun rfl infoRun ?_)
 refine (rtell16 r 0 0 _ HSd.out).mono ?_
 rintro e' w7 ⟨rfl, hb⟩
 replace HZ := Lib.hid (row_below HZ.out hb)
 replace HA := Lib.hid (HA.out.below hb)
 replace HK := Lib.hid (HK.out.call hb)
 clear hb
 go_wp2_with (refine wpList_store_row rfl 43 (.tmp 4) (.tmp 90) rfl (w.heap.size + 1) (toldR r 0 0 noS).arr rfl rfl 43 ZRun HZ.out infoRun rfl (Rn.one _) ?_)
 have hks := (Keep.refl [w.heap.size + 1] w7).setRow (g := w.heap.size + 1) (.inl (by simp)) (toldR r 0 0 noS).arr
 refine bodyPost_ret (results_cell_row (fn := Tryz.f15) rfl _ _ (w.heap.size + 1) 43 (toldR r 0 0 noS).arr (0, 0) _ rfl (setRow_heap w7 _ _ _ _ (0, 0) HZ.out) undRun rfl infoRun) rfl ?_
 exact ⟨rfl, HA.out.kept hks (by have := HXl.out; simp; omega) (by have := HXl.out; simp; omega) (by have := HXl.out; simp; omega), HK.out.then hks (fun i hi h => by simp at h; omega)⟩

set_option maxRecDepth 100000 in
set_option maxHeartbeats 4000000 in
theorem rslStep12_any (X : Nat) (r : Rn) (w : World) (hp : r.pc = 12) (h0 : 0 ≤ r.hand ∧ r.hand ≤ 18446744073709551615) (v0 : 0 ≤ r.val ∧ r.val ≤ 18446744073709551615) (uh uv : Rf × Int) (hu : unpackR r.hand = uh) (hv : unpackR r.val = uv) (q d : Nat) (s t i h : Int) (ws : List Int) (kk : Nat) (x : Int) (H : RAll w X q d s t i h ws) (hs : r.said = noS) (hk : ws[kk]? = some x) (ha : (kk : Int) = 8 * r.c.a + 4) (hac : 1 ≤ r.c.a ∧ r.c.a ≤ 3) (hv9 : 0 ≤ r.val ∧ r.val < 18446744073709551616) :
  Calls Tryz.prog 15 #[.pointer (some ⟨X, 0, none⟩), r.v] w fun e w' => e = .returned (toldR r 0 0 noS).v ∧ RAll w' X q d s t i h (ws.set kk r.val) ∧ Keep [d] w w' := by
 have Hp := Lib.hid hp
 have HU := fun w' => Lib.hid (runpackR_any r.hand w' h0.1 h0.2)
 have HV := fun w' => Lib.hid (runpackR_any r.val w' v0.1 v0.2)
 rw [hu] at HU
 rw [hv] at HV
 have HX := Lib.hid H
 have HXl := Lib.hid (rall_lt H)
 have HSd := Lib.hid hs
 have HW := fun w' (H' : RAll w' X q d s t i h ws) => Lib.hid (rallPut_any X q d s t i h ws kk x r.val 4 r.c.a w' H' hk ha (by decide) (by omega) hv9)
 clear H hs hk ha hv9 hac
 clear hp h0 v0 hu hv
 obtain ⟨⟨a1, a2, a3⟩, ac⟩ := uh
 obtain ⟨⟨b1, b2, b3⟩, bc⟩ := uv
 try dsimp only at *
 go_enter Tryz.func15, Tryz.ntmps15
 go_upto_region 1 with fail
 refine two_rows' w _ _ _ _ ?_
 intro w1 hr hz hb
 have HR := Lib.hid hr
 have HZ := Lib.hid hz
 have HB := Lib.hid hb
 clear hr hz hb
 have q9 : w1.cell? ⟨w.heap.size, 9, none⟩ = some (.int .u64 r.hand) := by rw [row_cell HR.out]; rfl
 have zr := lt_of_heap HR.out
 go_wp2_with fail
 refine (HU _).out.mono ?_
 rintro e' w2 ⟨rfl, hb⟩
 try dsimp only
 replace HR := Lib.hid (row_below HR.out hb)
 replace HZ := Lib.hid (row_below HZ.out hb)
 replace HB := Lib.hid (below_only HB.out hb)
 clear hb q9 zr HU
 go_upto_region 2 with fail
 refine one_row w2 _ _ ?_
 intro w3 hr hb
 replace HR := Lib.hid (row_below HR.out hb)
 replace HZ := Lib.hid (row_below HZ.out hb)
 replace HB := Lib.hid (below_only HB.out hb)
 obtain ⟨gh, hgh⟩ : ∃ x, x = w2.heap.size := ⟨_, rfl⟩
 rw [← hgh] at hr ⊢
 have H_h := Lib.hid hr
 clear hgh hr hb
 have q10 : w3.cell? ⟨w.heap.size, 10, none⟩ = some (.int .u64 r.val) := by rw [row_cell HR.out]; rfl
 have zr := lt_of_heap HR.out
 go_wp2_with fail
 refine (HV _).out.mono ?_
 rintro e' w4 ⟨rfl, hb⟩
 try dsimp only
 replace HR := Lib.hid (row_below HR.out hb)
 replace HZ := Lib.hid (row_below HZ.out hb)
 replace HB := Lib.hid (below_only HB.out hb)
 replace H_h := Lib.hid (row_below H_h.out hb)
 clear hb q10 zr HV
 go_upto_region 3 with fail
 refine one_row w4 _ _ ?_
 intro w5 hr hb
 replace HR := Lib.hid (row_below HR.out hb)
 replace HZ := Lib.hid (row_below HZ.out hb)
 replace HB := Lib.hid (below_only HB.out hb)
 replace H_h := Lib.hid (row_below H_h.out hb)
 obtain ⟨gv, hgv⟩ : ∃ x, x = w4.heap.size := ⟨_, rfl⟩
 rw [← hgv] at hr ⊢
 have H_v := Lib.hid hr
 clear hgv hr hb
 have q7 : w5.cell? ⟨w.heap.size, 7, none⟩ = some (.int .i64 12) := by rw [row_cell HR.out, ← Hp.out]; rfl
 have zr := lt_of_heap HR.out
 obtain ⟨f0, f1, f2, _, _, _⟩ := box3 H_h.out
 have zf := lt_of_heap H_h.out
 obtain ⟨g0, g1, g2, _, _, _⟩ := box3 H_v.out
 have zg := lt_of_heap H_v.out
 have q4 : w5.cell? ⟨w.heap.size, 4, none⟩ = some (.int .i64 r.c.a) := by rw [row_cell HR.out]; rfl
 have q10 : w5.cell? ⟨w.heap.size, 10, none⟩ = some (.int .u64 r.val) := by rw [row_cell HR.out]; rfl
 go_wp2_with fail
 clear q4 q10
 clear q7 zr f0 f1 f2 zf g0 g1 g2 zg
 refine (HW _ (HX.out.below HB.out)).out.mono ?_
 rintro e' y1 hq
 obtain ⟨rfl, hA9, hK⟩ := hq
 replace HR := Lib.hid (hK.row HR.out (by have := HXl.out; simp; omega))
 replace HZ := Lib.hid (hK.row HZ.out (by have := HXl.out; simp; omega))
 have HA := Lib.hid hA9
 have HK := Lib.hid ((keep_below HB.out [d]).trans hK)
 clear hA9 hK HB HX
 go_wp2_with (refine wpList_load_row rfl 43 (.tmp 3) rfl w.heap.size rfl 43 r.arr (0, 0) _ HR.out undRun rfl infoRun ?_)
 refine (rtell16 r 0 0 _ HSd.out).mono ?_
 rintro e' w7 ⟨rfl, hb⟩
 replace HZ := Lib.hid (row_below HZ.out hb)
 replace HA := Lib.hid (HA.out.below hb)
 replace HK := Lib.hid (HK.out.call hb)
 clear hb
 go_wp2_with (refine wpList_store_row rfl 43 (.tmp 4) (.tmp 117) rfl (w.heap.size + 1) (toldR r 0 0 noS).arr rfl rfl 43 ZRun HZ.out infoRun rfl (Rn.one _) ?_)
 have hks := (Keep.refl [w.heap.size + 1] w7).setRow (g := w.heap.size + 1) (.inl (by simp)) (toldR r 0 0 noS).arr
 refine bodyPost_ret (results_cell_row (fn := Tryz.f15) rfl _ _ (w.heap.size + 1) 43 (toldR r 0 0 noS).arr (0, 0) _ rfl (setRow_heap w7 _ _ _ _ (0, 0) HZ.out) undRun rfl infoRun) rfl ?_
 exact ⟨rfl, HA.out.kept hks (by have := HXl.out; simp; omega) (by have := HXl.out; simp; omega) (by have := HXl.out; simp; omega), HK.out.then hks (fun i hi h => by simp at h; omega)⟩

end Go.Proofs.YtnimaajnlkbdaaaGreat

namespace Go.Proofs.YtnimaajnlkbdaaaGreat
open Go.RowKit
set_option linter.unusedVariables false
set_option linter.unusedSimpArgs false

section
variable (C : Nat → Ctl) (l : List Ent) (j v X q d : Nat) (ws : List Int) (r : Rn) (w : World)
abbrev RSlPost (e : Ending) (w' : World) : Prop := e = .returned (slR C l ws j v r).v ∧ RAll w' X q d 4 2 128 512 (slW ws r) ∧ Keep [d] w w'
theorem rsl_quiet (H : RAll w X q d 4 2 128 512 ws) (hn : r.pc ≠ 10 ∧ r.pc ≠ 12) (Z : Rn) (hz : Z = slR C l ws j v r) {e : Ending} {w' : World} (h : e = .returned Z.v ∧ Below w.heap.size w w') : RSlPost C l j v X q d ws r w e w' := by
 obtain ⟨he, hb⟩ := h
 refine ⟨by rw [he, hz], ?_, keep_below hb [d]⟩
 unfold slW
 rw [if_neg (by omega)]
 exact H.below hb
theorem hC_hand {C : Nat → Ctl} {l : List Ent} {j v : Nat} {r : Rn} (I : SlIn C l j v r) : (0 ≤ r.hand ∧ r.hand ≤ 18446744073709551615) ∧ 0 ≤ r.val ∧ r.val ≤ 18446744073709551615 := by
 have h1 := hC_bd j I.lt.1
 have h2 := hC_bd v I.lt.2
 rw [I.hand, I.val]
 omega
theorem rslJ5 (H : RAll w X q d 4 2 128 512 ws) (L : Lw C ws) (I : SlIn C l j v r) (h : r.pc = 5) : Calls Tryz.prog 15 #[.pointer (some ⟨X, 0, none⟩), r.v] w (RSlPost C l j v X q d ws r w) := by
 have hp := I.pcs
 have hx : j < 11 := by omega
 have hs := sC_lt j hx
 have hb := hC_hand I
 refine (rslStep5_any X r w h hb.1 hb.2 (((sC j : Int), eC j, 8 * (kC j : Int)), 0) (unpackR r.val) (by rw [I.hand]; exact hC_unpack j hx) rfl I.said (decide ((C (sC j)).ep ≠ eC j)) (fun w' hb' =>
  rstale_any X q d 4 2 128 512 ws (8 * sC j) (C (sC j)) (sC j : Int) (eC j) (8 * (kC j : Int)) _ w' (H.below hb') (L.right _ (by omega)) (L.ctl _ (by omega)) (by omega) (by omega) (by simp))).mono (fun e w' hh => rsl_quiet C l j v X q d ws r w H (by omega) _ ?_ hh)
 unfold slR
 rw [if_pos h]
 unfold freshR
 by_cases he : (C (sC j)).ep = eC j
 ·rw [if_pos he, if_neg (by simp [he])]
 ·rw [if_neg he, if_pos (by simp [he])]
theorem rslJ7 (H : RAll w X q d 4 2 128 512 ws) (L : Lw C ws) (I : SlIn C l j v r) (h : r.pc = 7) : Calls Tryz.prog 15 #[.pointer (some ⟨X, 0, none⟩), r.v] w (RSlPost C l j v X q d ws r w) := by
 have hp := I.pcs
 have hx : v < 11 := by omega
 have hs := sC_lt v hx
 have hb := hC_hand I
 refine (rslStep7_any X r w h hb.1 hb.2 (unpackR r.hand) (((sC v : Int), eC v, 8 * (kC v : Int)), 0) rfl (by rw [I.val]; exact hC_unpack v hx) I.said (decide ((C (sC v)).ep ≠ eC v)) (fun w' hb' =>
  rstale_any X q d 4 2 128 512 ws (8 * sC v) (C (sC v)) (sC v : Int) (eC v) (8 * (kC v : Int)) _ w' (H.below hb') (L.right _ (by omega)) (L.ctl _ (by omega)) (by omega) (by omega) (by simp))).mono (fun e w' hh => rsl_quiet C l j v X q d ws r w H (by omega) _ ?_ hh)
 unfold slR
 have n5 : ¬ r.pc = 5 := by omega
 have n6 : ¬ r.pc = 6 := by omega
 rw [if_neg n5, if_neg n6, if_pos h]
 unfold freshR
 by_cases he : (C (sC v)).ep = eC v
 ·rw [if_pos he, if_neg (by simp [he])]
 ·rw [if_neg he, if_pos (by simp [he])]
theorem rslJ6 (H : RAll w X q d 4 2 128 512 ws) (L : Lw C ws) (I : SlIn C l j v r) (hl : l.length ≤ 1048576) (hn : r.chain.n = l.length) (hkc : l.length ≤ r.chain.c) (hE : Ents w r.chain.a l) (h : r.pc = 6) : Calls Tryz.prog 15 #[.pointer (some ⟨X, 0, none⟩), r.v] w (RSlPost C l j v X q d ws r w) := by
 have hp := I.pcs
 have hj : j < 11 ∧ j ≠ 9 ∧ (r.c.op = 8 ∨ r.c.op = 9) := by omega
 have hb := hC_hand I
 have hV := hC_bd v I.lt.2
 have hsl : ∀ Z, Z = handR l j v r → Z = slR C l ws j v r := fun Z hz => by rw [hz]; unfold slR; rw [if_neg (show ¬ r.pc = 5 by omega), if_pos h]
 have hu : unpackR r.hand = (((sC j : Int), eC j, 8 * (kC j : Int)), 0) := by rw [I.hand]; exact hC_unpack j hj.1
 refine (rslStep6_any X r w h hb.1 hb.2 (((sC j : Int), eC j, 8 * (kC j : Int)), 0) (unpackR r.val) hu rfl (handR l j v r) (fun w' hb' => ?_)).mono (fun e w' hh => rsl_quiet C l j v X q d ws r w H (by omega) _ (hsl _ rfl) hh)
 by_cases h10 : j = 10
 ·obtain ⟨y, hy, _⟩ := L.sl 4 0 (by decide) (by decide)
  have hk : kC j = oK 4 + 1 := by rw [h10]; rfl
  have h4 : ws[kC j]? = some 1281 := by rw [hk]; exact L.h2 4 (by decide)
  have := rhand_bad X q d 4 2 128 512 ws (kC j) r (sC j : Int) (eC j) (8 * (kC j : Int)) w' (H.below hb') I.said rfl y h4 (by rw [hk]; exact hy)
  unfold handR
  rw [if_pos h10]
  exact this
 obtain ⟨hk, hs, he⟩ := kC_ok (j := j) (by omega)
 have e1 : ws[kC j]? = some (head1 4 2 0) := by rw [hk]; exact L.h1 j (by omega)
 have e2 : ws[kC j + 1]? = some (head2 (sC j : Int) (eC j)) := by rw [hk, hs, he]; exact L.h2 j (by omega)
 have hH : HeadOk 4 2 0 (sC j : Int) (eC j) := by rw [hs, he]; exact head16 j (by omega)
 cases hB2 : inB r.c.b 0 1 with
 | false =>
  have hnB : ¬ (0 ≤ r.c.b ∧ r.c.b < 2) := fun e => by rw [inB_t (by omega)] at hB2; cases hB2
  have := rhand_slot X q d 4 2 128 512 ws (kC j) r (sC j : Int) (eC j) (8 * (kC j : Int)) w' (H.below hb') I.said rfl 4 2 0 hH e1 e2 hnB
  unfold handR
  rw [if_neg h10, if_pos hB2]
  exact this
 | true =>
  have hBb := of_decide_eq_true hB2
  have hkb : kC j ≤ 100 := by rw [hk]; unfold oK; omega
  have := rhand_ok X q d 4 2 128 512 ws (kC j) r (sC j : Int) (eC j) (8 * (kC j : Int)) w' (H.below hb') I.said rfl 4 2 0 hH e1 e2 (by omega) (by omega) l hl hn (Ents.below hE hb') hb.2
  have hB3 : ¬ inB r.c.b 0 1 = false := by rw [hB2]; decide
  refine this.mono (fun e w'' hh => ⟨?_, hh.2⟩)
  rw [hh.1]
  unfold handR
  rw [if_neg h10, if_neg hB3]
  by_cases h8 : r.c.op = 8
  ·simp only [if_pos h8]; rfl
  by_cases hv : v = 11
  ·have h0 : r.val = 0 := by rw [I.val, hv]; decide
   simp only [if_neg h8, if_pos h0, if_pos hv]; rfl
  have h0 : ¬ r.val = 0 := fun e => hv (hV.2.2 (by rw [← I.val]; exact e))
  have hck : (checkR 4 l r.val).2 = if reach l (sC v) = true then 0 else 20 := by rw [I.val]; exact checkR_ok l v (by have := I.lt; omega)
  simp only [if_neg h8, if_neg h0, if_neg hv]
  rw [hck]
  cases hr : reach l (sC v : Int) with
  | true => rfl
  | false => rfl
theorem rslJ8 (H : RAll w X q d 4 2 128 512 ws) (L : Lw C ws) (I : SlIn C l j v r) (hl : l.length ≤ 1048576) (hn : r.chain.n = l.length) (hkc : l.length ≤ r.chain.c) (hE : Ents w r.chain.a l) (h : r.pc = 8) : Calls Tryz.prog 15 #[.pointer (some ⟨X, 0, none⟩), r.v] w (RSlPost C l j v X q d ws r w) := by
 have hp := I.pcs
 have hj : v < 11 ∧ v ≠ 9 ∧ (r.c.op = 9 ∧ j < 9 ∨ r.c.op = 11) := by omega
 have hb := hC_hand I
 have hsl : ∀ Z, Z = valueR l j v r → Z = slR C l ws j v r := fun Z hz => by rw [hz]; unfold slR; rw [if_neg (show ¬ r.pc = 5 by omega), if_neg (show ¬ r.pc = 6 by omega), if_neg (show ¬ r.pc = 7 by omega), if_pos h]
 have hu : unpackR r.val = (((sC v : Int), eC v, 8 * (kC v : Int)), 0) := by rw [I.val]; exact hC_unpack v hj.1
 have hJ : j < 9 → (unpackR r.hand).1.1 = (sC j : Int) := fun h => by rw [I.hand, hC_unpack j (by omega)]
 refine (rslStep8_any X r w h hb.1 hb.2 (unpackR r.hand) (((sC v : Int), eC v, 8 * (kC v : Int)), 0) rfl hu (valueR l j v r) (fun w' hb' => ?_)).mono (fun e w' hh => rsl_quiet C l j v X q d ws r w H (by omega) _ (hsl _ rfl) hh)
 by_cases h10 : v = 10
 ·obtain ⟨y, hy, _⟩ := L.sl 4 0 (by decide) (by decide)
  have hk : kC v = oK 4 + 1 := by rw [h10]; rfl
  have h4 : ws[kC v]? = some 1281 := by rw [hk]; exact L.h2 4 (by decide)
  have := rvalue_bad X q d 4 2 128 512 ws (kC v) r (sC v : Int) (eC v) (8 * (kC v : Int)) (unpackR r.hand).1.1 (unpackR r.hand).1.2.1 (unpackR r.hand).1.2.2 w' (H.below hb') I.said rfl y h4 (by rw [hk]; exact hy)
  unfold valueR
  rw [if_pos h10]
  exact this
 obtain ⟨hk, hs, he⟩ := kC_ok (j := v) (by omega)
 have e1 : ws[kC v]? = some (head1 4 2 0) := by rw [hk]; exact L.h1 v (by omega)
 have e2 : ws[kC v + 1]? = some (head2 (sC v : Int) (eC v)) := by rw [hk, hs, he]; exact L.h2 v (by omega)
 have hH : HeadOk 4 2 0 (sC v : Int) (eC v) := by rw [hs, he]; exact head16 v (by omega)
 rcases hj.2.2 with ⟨ho, hj9⟩ | ho
 ·have := rvalue_store X q d 4 2 128 512 ws (kC v) r (sC v : Int) (eC v) (8 * (kC v : Int)) (unpackR r.hand).1.1 (unpackR r.hand).1.2.1 (unpackR r.hand).1.2.2 w' (H.below hb') I.said rfl 4 2 0 hH e1 e2 ho l hl hn hkc (Ents.below hE hb')
  refine this.mono (fun e w'' hh => ⟨?_, hh.2⟩)
  rw [hh.1, hJ hj9]
  unfold valueR
  rw [if_neg h10, if_pos ho, if_pos ho]
 ·have := rvalue_gate X q d 4 2 128 512 ws (kC v) r (sC v : Int) (eC v) (8 * (kC v : Int)) (unpackR r.hand).1.1 (unpackR r.hand).1.2.1 (unpackR r.hand).1.2.2 w' (H.below hb') I.said rfl 4 2 0 hH e1 e2 ho l hl hn hkc (Ents.below hE hb')
  have ho9 : ¬ r.c.op = 9 := by omega
  refine this.mono (fun e w'' hh => ⟨?_, hh.2⟩)
  rw [hh.1]
  unfold valueR
  rw [if_neg h10, if_neg ho9, if_neg ho9]
theorem rslJ9 (H : RAll w X q d 4 2 128 512 ws) (L : Lw C ws) (I : SlIn C l j v r) (h : 9 ≤ r.pc) : Calls Tryz.prog 15 #[.pointer (some ⟨X, 0, none⟩), r.v] w (RSlPost C l j v X q d ws r w) := by
 have hp := I.pc
 have hb := hC_hand I
 obtain ⟨x, hx, x0, x1⟩ := L.at_ (I.cell h)
 have hv : 0 ≤ r.val ∧ r.val < 18446744073709551616 := by rw [I.val]; have := hC_bd v I.lt.2; omega
 have hr : ¬ r.pc = 5 ∧ ¬ r.pc = 6 ∧ ¬ r.pc = 7 ∧ ¬ r.pc = 8 := by omega
 have hrd : (r.pc = 9 ∨ r.pc = 11) → toldR r 0 x noS = slR C l ws j v r := fun h9 => by
  unfold slR
  rw [if_neg hr.1, if_neg hr.2.1, if_neg hr.2.2.1, if_neg hr.2.2.2, if_pos h9, hx]
  rfl
 have hwr : (r.pc = 10 ∨ r.pc = 12) → toldR r 0 0 noS = slR C l ws j v r := fun h9 => by
  unfold slR
  rw [if_neg hr.1, if_neg hr.2.1, if_neg hr.2.2.1, if_neg hr.2.2.2, if_neg (by omega)]
 by_cases h9 : r.pc = 9
 ·exact (rslStep9_any X r w h9 hb.1 hb.2 _ _ rfl rfl q d 4 2 128 512 ws (lastK r) x H I.said hx (by have := (I.at_nat (.inl h9)).1; omega) (by omega)).mono (fun e w' hh => rsl_quiet C l j v X q d ws r w H (by omega) _ (hrd (.inl h9)) hh)
 by_cases h11 : r.pc = 11
 ·obtain ⟨a1, a2, a3, _⟩ := I.pt_nat (.inl h11)
  exact (rslStep11_any X r w h11 hb.1 hb.2 _ _ rfl rfl q d 4 2 128 512 ws (lastK r) x H I.said hx a3 ⟨a1, a2⟩ (by omega)).mono (fun e w' hh => rsl_quiet C l j v X q d ws r w H (by omega) _ (hrd (.inr h11)) hh)
 have hsw : (r.pc = 10 ∨ r.pc = 12) → slW ws r = ws.set (lastK r) r.val := fun h => by unfold slW; rw [if_pos h]
 by_cases h10 : r.pc = 10
 ·refine (rslStep10_any X r w h10 hb.1 hb.2 _ _ rfl rfl q d 4 2 128 512 ws (lastK r) x H I.said hx (by have := (I.at_nat (.inr h10)).1; omega) hv).mono (fun e w' hh => ⟨?_, ?_, hh.2.2⟩)
  ·rw [hh.1, hwr (.inl h10)]
  ·rw [hsw (.inl h10)]; exact hh.2.1
 ·have h12 : r.pc = 12 := by omega
  obtain ⟨a1, a2, a3, _⟩ := I.pt_nat (.inr h12)
  refine (rslStep12_any X r w h12 hb.1 hb.2 _ _ rfl rfl q d 4 2 128 512 ws (lastK r) x H I.said hx a3 ⟨a1, a2⟩ hv).mono (fun e w' hh => ⟨?_, ?_, hh.2.2⟩)
  ·rw [hh.1, hwr (.inr h12)]
  ·rw [hsw (.inr h12)]; exact hh.2.1
theorem rslStep_any (H : RAll w X q d 4 2 128 512 ws) (L : Lw C ws) (I : SlIn C l j v r) (hl : l.length ≤ 1048576) (hn : r.chain.n = l.length) (hkc : l.length ≤ r.chain.c) (hE : Ents w r.chain.a l) : Calls Tryz.prog 15 #[.pointer (some ⟨X, 0, none⟩), r.v] w (RSlPost C l j v X q d ws r w) := by
 have hp := I.pc
 by_cases h5 : r.pc = 5
 ·exact rslJ5 C l j v X q d ws r w H L I h5
 by_cases h6 : r.pc = 6
 ·exact rslJ6 C l j v X q d ws r w H L I hl hn hkc hE h6
 by_cases h7 : r.pc = 7
 ·exact rslJ7 C l j v X q d ws r w H L I h7
 by_cases h8 : r.pc = 8
 ·exact rslJ8 C l j v X q d ws r w H L I hl hn hkc hE h8
 ·exact rslJ9 C l j v X q d ws r w H L I (by omega)
end
end Go.Proofs.YtnimaajnlkbdaaaGreat
