/- Layer 15: the document's head.Pack and its step of an allocation. (Printed by gen_rtake.py.) -/
import Derived.Test.YtbijaloeilnjoaaGreatTP
import Derived.Test.YtbijaloeilnjoaaGreatAll
import Derived.Test.YtbijaloeilnjoaaGreatSame
namespace Go.Proofs.YtbijaloeilnjoaaGreat
open Go.RowKit
set_option linter.unusedVariables false
set_option linter.unusedSimpArgs false

set_option maxRecDepth 100000 in
set_option maxHeartbeats 2000000 in
theorem rheadRight_any (sz sl tg sc ep : Int) (w : World) (H : HeadOk sz sl tg sc ep) : Calls Tryz.prog 122 #[headA sz sl tg sc ep] w fun r w' => r = .returned (.bool true) ∧ Below w.heap.size w w' := by
 obtain ⟨⟨s0, s1⟩, ⟨z0, z1⟩, ⟨t0, t1⟩, ⟨c0, c1⟩, ⟨p0, p1⟩⟩ := H
 have e1 : decide (0 ≤ sl) = true := decide_eq_true s0
 have e2 : decide (sl ≤ 6) = true := decide_eq_true s1
 have e3 : decide (2 + sl ≤ sz) = true := decide_eq_true z0
 have e4 : decide (sz ≤ 72) = true := decide_eq_true z1
 have e5 : decide (0 ≤ tg) = true := decide_eq_true t0
 have e6 : decide (tg < 8) = true := decide_eq_true (by omega)
 have e7 : decide (0 ≤ sc) = true := decide_eq_true c0
 have e8 : decide (sc < 8) = true := decide_eq_true (by omega)
 have e9 : decide (0 ≤ ep) = true := decide_eq_true p0
 have e10 : decide (ep ≤ 16777215) = true := decide_eq_true p1
 go_enter Tryz.func122, Tryz.ntmps122
 go_wp2_with fail
 all_goals
  go_ret
  exact ⟨rfl, by go_grown⟩
set_option maxRecDepth 100000 in
set_option maxHeartbeats 2000000 in
theorem rheadPack_any (sz sl tg sc ep : Int) (w : World) (H : HeadOk sz sl tg sc ep) : Calls Tryz.prog 82 #[headA sz sl tg sc ep] w fun r w' => r = .returned (.tuple #[.int .u64 (head1 sz sl tg), .int .u64 (head2 sc ep), .int .i64 0]) ∧ Below w.heap.size w w' := by
 have HR := Lib.hid (fun W => rheadRight_any sz sl tg sc ep W H)
 obtain ⟨⟨s0, s1⟩, ⟨z0, z1⟩, ⟨t0, t1⟩, ⟨c0, c1⟩, ⟨p0, p1⟩⟩ := H
 go_enter Tryz.func82, Tryz.ntmps82
 go_upto_region 1 with fail
 refine one_row w _ _ ?_
 intro W hR hB
 obtain ⟨x0, x1, x2, x3, x4, x5⟩ := box6 hR
 have zw := lt_of_heap hR
 have HRw := Lib.hid hR
 have HB := Lib.hid hB
 clear hR hB
 go_wp2_with fail
 refine (HR.out _).mono ?_
 rintro r w1 ⟨rfl, hb⟩
 replace HRw := Lib.hid (row_below HRw.out hb)
 replace HB := Lib.hid (below_only HB.out hb)
 clear hb x0 x1 x2 x3 x4 x5 zw
 obtain ⟨x0, x1, x2, x3, x4, x5⟩ := box6 HRw.out
 have zw := lt_of_heap HRw.out
 go_wp2_with fail
 go_quiet (fail)
 go_wp2
 go_ret3
 exact ⟨by unfold head1 head2; rfl, by first | exact HB.out | exact below_drewN HB.out _⟩

@[go_sem] theorem fieldCtl3 (a b c d : Int) (w : World) : (Instr.field 61 (.agg #[.int .i64 a, .int .i64 b, .int .i64 c, .int .i64 d]) 3).run Tryz.prog w = .ok (.int .i64 d) w := by kernel_rfl
set_option maxRecDepth 100000 in
set_option maxHeartbeats 8000000 in
theorem rtakeStep_any (X q d k : Nat) (s t i h : Int) (ws : List Int) (c : Ctl) (ba bu tp : Int) (r : Rn) (w : World) (hX : RAll w X q d s t i h ws) (hI : TkIn s ws k c ba bu tp r) :
  Calls Tryz.prog 36 #[.pointer (some ⟨X, 0, none⟩), r.v] w fun e w' => e = .returned (takeR c ba bu tp r).v ∧ RAll w' X q d s t i h (takeW ws k tp r) ∧ Keep [d] w w' := by
 have HX := Lib.hid hX
 have HI := Lib.hid hI
 have hX0 : X < w.heap.size := by obtain ⟨gp, h⟩ := HX.out.box; exact lt_of_heap h
 have hq0 : q < w.heap.size := lt_of_heap HX.out.arn.box
 have hd0 : d < w.heap.size := lt_of_heap HX.out.arn.row
 have HL := Lib.hid (And.intro hX0 (And.intro hq0 hd0))
 have Ha : Hid (r.area = (k : Int) ∧ 0 ≤ r.area ∧ r.area ≤ 7) := Lib.hid ⟨hI.area, by have := hI.area; omega, by have := hI.area; have := hI.lt; have := hI.s8; omega⟩
 clear hX hI hX0 hq0 hd0
 go_enter Tryz.func36, Tryz.ntmps36
 go_upto_region 1 with fail
 refine two_rows' w _ _ _ _ ?_
 intro w1 hr hz hb
 have HR : Hid (w1.heap[w.heap.size]? = some (.cells r.arr 43 (0, 0))) := Lib.hid hr
 have HZ : Hid (w1.heap[w.heap.size + 1]? = some (.cells ZRun 43 (0, 0))) := Lib.hid hz
 have HB := Lib.hid hb
 replace HX := Lib.hid (HX.out.below hb)
 clear hr hz hb
 have q7 : w1.cell? ⟨w.heap.size, 7, none⟩ = some (.int .i64 r.pc) := by rw [row_cell HR.out]; rfl
 have q8 : w1.cell? ⟨w.heap.size, 8, none⟩ = some (.int .i64 r.area) := by rw [row_cell HR.out]; rfl
 rcases HI.out.pcs with hp | hp | hp | hp
 ·skip
  have Hst : Hid (takeR c ba bu tp r = { r with next := c.ep, pc := 2 } ∧ takeW ws k tp r = ws) := Lib.hid ⟨by unfold takeR; rw [if_pos hp], takeW_same (by rw [hp]; decide)⟩
  rw [hp] at q7
  clear hp
  have e0 : 0 ≤ c.ep := HI.out.blk.right.1
  have e1 : c.ep ≤ 16777215 := HI.out.blk.right.2.1
  have HC := fun w' h' => Lib.hid (rallCtl_any X q d s t i h ws (8 * k) r.area c w' h' HI.out.blk.right HI.out.blk.ctl (by have := Ha.out; omega) (by have := Ha.out; omega))
  clear HI
  obtain ⟨c1, c2, c3, c4⟩ := c
  have e0 : 0 ≤ c4 := e0
  have e1 : c4 ≤ 16777215 := e1
  have Hst : Hid (takeR ⟨c1, c2, c3, c4⟩ ba bu tp r = { r with next := c4, pc := 2 } ∧ takeW ws k tp r = ws) := Hst
  go_wp2_with fail
  refine (HC _ HX.out).out.mono ?_
  rw [show (⟨c1, c2, c3, c4⟩ : Ctl).val = .agg #[.int .i64 c1, .int .i64 c2, .int .i64 c3, .int .i64 c4] from rfl]
  rintro e w2 ⟨rfl, hb⟩
  clear q7 q8
  replace HR := Lib.hid (row_below HR.out hb)
  replace HZ := Lib.hid (row_below HZ.out hb)
  replace HB := Lib.hid (below_only HB.out hb)
  replace HX := Lib.hid (HX.out.below hb)
  clear hb
  have q7 : w2.cell? ⟨w.heap.size, 7, none⟩ = some (.int .i64 r.pc) := by rw [row_cell HR.out]; rfl
  have q13 : w2.cell? ⟨w.heap.size, 13, none⟩ = some (.int .u64 r.next) := by rw [row_cell HR.out]; rfl
  have f7 : w2.frozen? ⟨w.heap.size, 7, none⟩ = false := row_frozen HR.out _
  have f13 : w2.frozen? ⟨w.heap.size, 13, none⟩ = false := row_frozen HR.out _
  have zr := lt_of_heap HR.out
  go_upto_region 6 with fail
  clear q7 q13 f7 f13 zr
  refine set_twoR w2 w.heap.size 13 7 _ _ _ _ HR.out ?_
  intro w3 hr hK
  replace HR : Hid (w3.heap[w.heap.size]? = some (.cells (Rn.arr { r with next := c4, pc := 2 }) 43 (0, 0))) := Lib.hid hr
  replace HZ := Lib.hid (hK.row HZ.out (by simp))
  replace HX := Lib.hid (HX.out.kept hK (by simp; have := HL.out; omega) (by simp; have := HL.out; omega) (by simp; have := HL.out; omega))
  replace HB := Lib.hid (Keep.under HB.out hK (by have := HB.out.size; omega) (by simp))
  clear hr hK
  obtain ⟨R, HRq⟩ : ∃ R : Rn, Hid (R = { r with next := c4, pc := 2 }) := ⟨_, Lib.hid rfl⟩
  rw [← HRq.out] at HR Hst
  clear HRq
  go_wp2_with (first | refine wpList_load_row rfl 43 (.tmp 3) rfl w.heap.size rfl 43 R.arr (0, 0) _ HR.out undRun rfl infoRun ?_ | refine wpList_store_row rfl 43 (.tmp 4) (.tmp 29) rfl (w.heap.size + 1) R.arr rfl rfl 43 ZRun HZ.out infoRun rfl (Rn.one _) ?_)
  refine bodyPost_ret (results_cell_row (fn := Tryz.f36) rfl _ _ (w.heap.size + 1) 43 R.arr (0, 0) _ rfl (setRow_heap w3 _ _ _ _ (0, 0) HZ.out) undRun rfl infoRun) rfl ?_
  have hks := (Keep.refl [w.heap.size + 1] w3).setRow (g := w.heap.size + 1) (.inl (by simp)) R.arr
  rw [Hst.out.1, Hst.out.2]
  exact ⟨rfl, HX.out.kept hks (by simp; have := HL.out; omega) (by simp; have := HL.out; omega) (by simp; have := HL.out; omega), keep_below (below_setRow HB.out (by omega) _) [d]⟩
 ·skip
  have Hst : Hid (takeR c ba bu tp r = { r with at_ := ba, pc := 3 } ∧ takeW ws k tp r = ws) := Lib.hid ⟨by unfold takeR; rw [if_neg (by rw [hp]; decide), if_pos hp], takeW_same (by rw [hp]; decide)⟩
  rw [hp] at q7
  clear hp
  obtain ⟨e0, e1⟩ := HI.out.bd1
  have HC := fun w' h' => Lib.hid (rallGet_any X q d s t i h ws (8 * k + 1) ba 1 r.area w' h' HI.out.blk.ba (by have := Ha.out; omega) (by decide) (by have := Ha.out; omega))
  clear HI
  go_wp2_with fail
  refine (HC _ HX.out).out.mono ?_
  rintro e w2 ⟨rfl, hb⟩
  clear q7 q8
  replace HR := Lib.hid (row_below HR.out hb)
  replace HZ := Lib.hid (row_below HZ.out hb)
  replace HB := Lib.hid (below_only HB.out hb)
  replace HX := Lib.hid (HX.out.below hb)
  clear hb
  have q7 : w2.cell? ⟨w.heap.size, 7, none⟩ = some (.int .i64 r.pc) := by rw [row_cell HR.out]; rfl
  have q14 : w2.cell? ⟨w.heap.size, 14, none⟩ = some (.int .i64 r.at_) := by rw [row_cell HR.out]; rfl
  have f7 : w2.frozen? ⟨w.heap.size, 7, none⟩ = false := row_frozen HR.out _
  have f14 : w2.frozen? ⟨w.heap.size, 14, none⟩ = false := row_frozen HR.out _
  have zr := lt_of_heap HR.out
  go_upto_region 10 with fail
  clear q7 q14 f7 f14 zr
  refine set_twoR w2 w.heap.size 14 7 _ _ _ _ HR.out ?_
  intro w3 hr hK
  replace HR : Hid (w3.heap[w.heap.size]? = some (.cells (Rn.arr { r with at_ := ba, pc := 3 }) 43 (0, 0))) := Lib.hid hr
  replace HZ := Lib.hid (hK.row HZ.out (by simp))
  replace HX := Lib.hid (HX.out.kept hK (by simp; have := HL.out; omega) (by simp; have := HL.out; omega) (by simp; have := HL.out; omega))
  replace HB := Lib.hid (Keep.under HB.out hK (by have := HB.out.size; omega) (by simp))
  clear hr hK
  obtain ⟨R, HRq⟩ : ∃ R : Rn, Hid (R = { r with at_ := ba, pc := 3 }) := ⟨_, Lib.hid rfl⟩
  rw [← HRq.out] at HR Hst
  clear HRq
  go_wp2_with (first | refine wpList_load_row rfl 43 (.tmp 3) rfl w.heap.size rfl 43 R.arr (0, 0) _ HR.out undRun rfl infoRun ?_ | refine wpList_store_row rfl 43 (.tmp 4) (.tmp 38) rfl (w.heap.size + 1) R.arr rfl rfl 43 ZRun HZ.out infoRun rfl (Rn.one _) ?_)
  refine bodyPost_ret (results_cell_row (fn := Tryz.f36) rfl _ _ (w.heap.size + 1) 43 R.arr (0, 0) _ rfl (setRow_heap w3 _ _ _ _ (0, 0) HZ.out) undRun rfl infoRun) rfl ?_
  have hks := (Keep.refl [w.heap.size + 1] w3).setRow (g := w.heap.size + 1) (.inl (by simp)) R.arr
  rw [Hst.out.1, Hst.out.2]
  exact ⟨rfl, HX.out.kept hks (by simp; have := HL.out; omega) (by simp; have := HL.out; omega) (by simp; have := HL.out; omega), keep_below (below_setRow HB.out (by omega) _) [d]⟩
 ·skip
  have Hst : Hid (takeR c ba bu tp r = { r with word := bu, pc := 4 } ∧ takeW ws k tp r = ws) := Lib.hid ⟨by unfold takeR; rw [if_neg (by rw [hp]; decide), if_neg (by rw [hp]; decide), if_pos hp], takeW_same (by rw [hp]; decide)⟩
  rw [hp] at q7
  clear hp
  obtain ⟨e0, e1⟩ := HI.out.bd2
  have HC := fun w' h' => Lib.hid (rallGet_any X q d s t i h ws (8 * k + 2) bu 2 r.area w' h' HI.out.blk.bu (by have := Ha.out; omega) (by decide) (by have := Ha.out; omega))
  clear HI
  go_wp2_with fail
  refine (HC _ HX.out).out.mono ?_
  rintro e w2 ⟨rfl, hb⟩
  clear q7 q8
  replace HR := Lib.hid (row_below HR.out hb)
  replace HZ := Lib.hid (row_below HZ.out hb)
  replace HB := Lib.hid (below_only HB.out hb)
  replace HX := Lib.hid (HX.out.below hb)
  clear hb
  have q7 : w2.cell? ⟨w.heap.size, 7, none⟩ = some (.int .i64 r.pc) := by rw [row_cell HR.out]; rfl
  have q12 : w2.cell? ⟨w.heap.size, 12, none⟩ = some (.int .u64 r.word) := by rw [row_cell HR.out]; rfl
  have f7 : w2.frozen? ⟨w.heap.size, 7, none⟩ = false := row_frozen HR.out _
  have f12 : w2.frozen? ⟨w.heap.size, 12, none⟩ = false := row_frozen HR.out _
  have zr := lt_of_heap HR.out
  go_upto_region 14 with fail
  clear q7 q12 f7 f12 zr
  refine set_twoR w2 w.heap.size 12 7 _ _ _ _ HR.out ?_
  intro w3 hr hK
  replace HR : Hid (w3.heap[w.heap.size]? = some (.cells (Rn.arr { r with word := bu, pc := 4 }) 43 (0, 0))) := Lib.hid hr
  replace HZ := Lib.hid (hK.row HZ.out (by simp))
  replace HX := Lib.hid (HX.out.kept hK (by simp; have := HL.out; omega) (by simp; have := HL.out; omega) (by simp; have := HL.out; omega))
  replace HB := Lib.hid (Keep.under HB.out hK (by have := HB.out.size; omega) (by simp))
  clear hr hK
  obtain ⟨R, HRq⟩ : ∃ R : Rn, Hid (R = { r with word := bu, pc := 4 }) := ⟨_, Lib.hid rfl⟩
  rw [← HRq.out] at HR Hst
  clear HRq
  go_wp2_with (first | refine wpList_load_row rfl 43 (.tmp 3) rfl w.heap.size rfl 43 R.arr (0, 0) _ HR.out undRun rfl infoRun ?_ | refine wpList_store_row rfl 43 (.tmp 4) (.tmp 46) rfl (w.heap.size + 1) R.arr rfl rfl 43 ZRun HZ.out infoRun rfl (Rn.one _) ?_)
  refine bodyPost_ret (results_cell_row (fn := Tryz.f36) rfl _ _ (w.heap.size + 1) 43 R.arr (0, 0) _ rfl (setRow_heap w3 _ _ _ _ (0, 0) HZ.out) undRun rfl infoRun) rfl ?_
  have hks := (Keep.refl [w.heap.size + 1] w3).setRow (g := w.heap.size + 1) (.inl (by simp)) R.arr
  rw [Hst.out.1, Hst.out.2]
  exact ⟨rfl, HX.out.kept hks (by simp; have := HL.out; omega) (by simp; have := HL.out; omega) (by simp; have := HL.out; omega), keep_below (below_setRow HB.out (by omega) _) [d]⟩
 ·have Hp := Lib.hid hp
  clear hp
  by_cases hf : tp + 8 * wordsN r.c.a r.c.b ≤ r.word
  ·skip
   obtain ⟨K, z0, z1, k1, k2, k3, k4, k5, k6, k7, _⟩ := HI.out.place Hp.out hf
   have Hst : Hid (takeR c ba bu tp r = toldR r 0 (hdl r.area r.next (K : Int)) noS ∧ takeW ws k tp r = ((ws.set (8 * k + 3) (tp + 8 * wordsN r.c.a r.c.b)).set K (head1 (wordsN r.c.a r.c.b) r.c.a r.c.c)).set (K + 1) (head2 r.area r.next)) := Lib.hid ⟨by unfold takeR; rw [if_neg (by rw [Hp.out]; decide), if_neg (by rw [Hp.out]; decide), if_neg (by rw [Hp.out]; decide), if_pos hf, k7], by unfold takeW; rw [if_pos ⟨Hp.out, hf⟩, k6]⟩
   obtain ⟨ca0, ca1⟩ := HI.out.ca
   have hwn : 2 + r.c.a ≤ wordsN r.c.a r.c.b ∧ wordsN r.c.a r.c.b ≤ 72 := by have := HI.out.ca; have := HI.out.cb; unfold wordsN; omega
   have HPk := fun w' => Lib.hid (rheadPack_any (wordsN r.c.a r.c.b) r.c.a r.c.c r.area r.next w' ⟨HI.out.ca, hwn, HI.out.cc, by have := Ha.out; omega, HI.out.nx Hp.out⟩)
   have HWd : Hid (∀ w', Calls Tryz.prog 81 #[.int .i64 r.c.a, .int .i64 r.c.b] w' fun e w'' => e = .returned (.tuple #[.int .i64 (wordsN r.c.a r.c.b), .int .i64 0]) ∧ w'' = w') := Lib.hid fun w' => by
    have h9 := rwords_any r.c.a r.c.b w'
    have h8 : wordsOk r.c.a r.c.b = true := by unfold wordsOk; rw [inB_t HI.out.ca, inB_t HI.out.cb]; rfl
    rw [h8] at h9
    exact h9
   have hh1 : 0 ≤ head1 (wordsN r.c.a r.c.b) r.c.a r.c.c ∧ head1 (wordsN r.c.a r.c.b) r.c.a r.c.c < 18446744073709551616 := by have := HI.out.ca; have := HI.out.cc; unfold head1; omega
   have hh2 : 0 ≤ head2 r.area r.next ∧ head2 r.area r.next < 18446744073709551616 := by have := Ha.out; have := HI.out.nx Hp.out; unfold head2; omega
   have hat : 0 ≤ r.at_ ∧ r.at_ ≤ 65536 := by have := HI.out.at4 Hp.out; have := HI.out.lt; omega
   have hwd := HI.out.wd Hp.out
   have hnx := HI.out.nx Hp.out
   have htp0 := HI.out.bd3
   have HCk := HI.out.blk.tp
   have Hsd := Lib.hid HI.out.said
   have He := Lib.hid (show 64 * r.area + 8 * 3 = 8 * ((8 * k + 3 : Nat) : Int) by have := Ha.out; omega)
   have HCl := fun w' (h' : RArn w' q d ws) => Lib.hid (rarnClaim_yes q d ws (8 * k + 3) K tp (8 * wordsN r.c.a r.c.b) r.word r.at_ (head1 (wordsN r.c.a r.c.b) r.c.a r.c.c) (head2 r.area r.next) z0 z1 w' h' HCk k1 k2 k3 ⟨htp0, hwd.1⟩ hwd.2 (by omega) hat k4 hh1 hh2)
   have hsm := HX.out.arn.small
   have hKl : K + 1 < ws.length := (List.getElem?_eq_some_iff.1 k2).1
   have hRb : refB r.area r.next (K : Int) = true := by have := Ha.out; unfold refB; simp only [Bool.and_eq_true]; exact ⟨⟨inB_t (by omega), inB_t hnx⟩, inB_t (by omega)⟩
   have HRp : ∀ w', Hid (Calls Tryz.prog 84 #[.agg #[.int .i64 r.area, .int .i64 r.next, .int .i64 (r.at_ + tp)]] w' fun e w'' => e = .returned (.tuple #[.int .u64 (hdl r.area r.next (K : Int)), .int .i64 0]) ∧ Below w'.heap.size w' w'') := fun w' => Lib.hid (by
    have h9 := rrefpack_any r.area r.next (K : Int) (r.at_ + tp) w' (by have := Ha.out; omega) (by have := Ha.out; omega) hnx.1 (by omega) (by omega) (by omega) (by omega)
    rw [hRb] at h9
    exact h9)
   have hdb : 0 ≤ hdl r.area r.next (K : Int) ∧ hdl r.area r.next (K : Int) ≤ 9223372036854775807 := by have := Ha.out; unfold hdl; omega
   obtain ⟨hd, Hh⟩ : ∃ n, n = hdl r.area r.next (K : Int) := ⟨_, rfl⟩
   rw [← Hh] at hdb Hst
   simp only [← Hh] at HRp
   obtain ⟨d0, d1⟩ := hdb
   clear k1 k2 k3 k4 k5 k6 k7 hsm hKl hRb Hh
   rw [← (show 8 * ((8 * k + 3 : Nat) : Int) = (((8 * k + 3) * 8 : Nat) : Int) by omega)] at HCl
   rw [← He.out] at HCl
   obtain ⟨n, Hn⟩ : ∃ n, n = wordsN r.c.a r.c.b := ⟨_, rfl⟩
   obtain ⟨one, H1⟩ : ∃ n, n = head1 (wordsN r.c.a r.c.b) r.c.a r.c.c := ⟨_, rfl⟩
   obtain ⟨two, H2⟩ : ∃ n, n = head2 r.area r.next := ⟨_, rfl⟩
   simp only [← H1, ← H2, ← Hn] at HWd HPk HCl Hst
   have n0 : 0 ≤ n := by rw [Hn]; omega
   have n1 : n ≤ 72 := by rw [Hn]; omega
   obtain ⟨a0, a1⟩ := hat
   obtain ⟨x0, x1⟩ := hnx
   have t1 : tp ≤ 65536 := by omega
   have hm8 : IntKind.i64.wrap (8 * n) = 8 * n := IntWalk.i64_in _ (by omega)
   have hm9 : IntKind.u64.wrap (8 * n) = 8 * n := by rw [IntKind.wrap_u64]; omega
   have hnx : IntKind.i64.wrap r.next = r.next := IntWalk.i64_in _ (by omega)
   have htp : IntKind.i64.wrap tp = tp := IntWalk.i64_in _ (by omega)
   have HAr := Lib.hid (show 0 ≤ r.area ∧ r.area ≤ 7 by have := Ha.out; omega)
   rw [Hp.out] at q7
   clear ca0 ca1 hf hwn hwd HCk hh1 hh2 Hn H1 H2 HI Hp He Ha
   have q4 : w1.cell? ⟨w.heap.size, 4, none⟩ = some (.int .i64 r.c.a) := by rw [row_cell HR.out]; rfl
   have q5 : w1.cell? ⟨w.heap.size, 5, none⟩ = some (.int .i64 r.c.b) := by rw [row_cell HR.out]; rfl
   go_wp2_with fail
   refine (HWd.out _).mono ?_
   rintro e w2 ⟨rfl, e2⟩
   rw [e2]
   clear e2 w2
   have q6 : w1.cell? ⟨w.heap.size, 6, none⟩ = some (.int .i64 r.c.c) := by rw [row_cell HR.out]; rfl
   have q13 : w1.cell? ⟨w.heap.size, 13, none⟩ = some (.int .u64 r.next) := by rw [row_cell HR.out]; rfl
   go_wp2_with fail
   refine (HPk _).out.mono ?_
   rintro e w2 ⟨rfl, hb⟩
   clear q4 q5 q6 q7 q8 q13
   replace HR := Lib.hid (row_below HR.out hb)
   replace HZ := Lib.hid (row_below HZ.out hb)
   replace HB := Lib.hid (below_only HB.out hb)
   replace HX := Lib.hid (HX.out.below hb)
   clear hb
   go_upto_region 17 with fail
   have q12 : w2.cell? ⟨w.heap.size, 12, none⟩ = some (.int .u64 r.word) := by rw [row_cell HR.out]; rfl
   have q14 : w2.cell? ⟨w.heap.size, 14, none⟩ = some (.int .i64 r.at_) := by rw [row_cell HR.out]; rfl
   have X_5 := HX.out.cell
   refine wp_region_held_drew (S := fun W => W.cell? ⟨X, 5, none⟩ = some (.pointer (some ⟨q, 0, none⟩)) ∧ W.cell? ⟨w.heap.size, 12, none⟩ = some (.int .u64 r.word) ∧ W.cell? ⟨w.heap.size, 14, none⟩ = some (.int .i64 r.at_)) (by kernel_rfl) (by first | exact ⟨X_5, q12, q14⟩ | (dsimp only; exact ⟨X_5, q12, q14⟩)) ?_
   intro hS
   have hA : RAll w2.drew X q d s t i h ws := HX.out.drew
   have hR : w2.drew.heap[w.heap.size]? = some (.cells r.arr 43 (0, 0)) := HR.out
   have hZz : w2.drew.heap[w.heap.size + 1]? = some (.cells ZRun 43 (0, 0)) := HZ.out
   have hK0 : Keep [d] w w2.drew := (keep_below HB.out [d]).drew
   clear HX HR HZ HB X_5 q12 q14
   generalize w2.drew = y0 at hS hA hR hZz hK0 ⊢
   refine tk (i := 0) (v := ?v0x1) (some 75) rfl rfl (Or.inl ⟨by kernel_rfl, ?h0x1⟩) ?r0x1
   case h0x1 => (intro w hSw; obtain ⟨s0, s12, s14⟩ := hSw; go_simp; first | done | (with_reducible rfl))
   try simp only [zA, zB, zC, zD, zE]
   refine tk (i := 1) (v := ?v1x2) (some 76) rfl rfl (Or.inl ⟨by kernel_rfl, ?h1x2⟩) ?r1x2
   case h1x2 => (intro w hSw; obtain ⟨s0, s12, s14⟩ := hSw; go_simp; first | done | (with_reducible rfl))
   try simp only [zA, zB, zC, zD, zE]
   refine tk (i := 2) (v := ?v2x3) (some 77) rfl rfl (Or.inl ⟨by kernel_rfl, ?h2x3⟩) ?r2x3
   case h2x3 => (intro w hSw; obtain ⟨s0, s12, s14⟩ := hSw; go_simp; first | done | (with_reducible rfl))
   try simp only [zA, zB, zC, zD, zE]
   refine tk (i := 3) (v := ?v3x4) (some 78) rfl rfl (Or.inl ⟨by kernel_rfl, ?h3x4⟩) ?r3x4
   case h3x4 => (intro w hSw; obtain ⟨s0, s12, s14⟩ := hSw; go_simp; first | done | (with_reducible rfl))
   try simp only [zA, zB, zC, zD, zE]
   refine tk (i := 4) (v := ?v4x5) (some 79) rfl rfl (Or.inl ⟨by kernel_rfl, ?h4x5⟩) ?r4x5
   case h4x5 => (intro w hSw; obtain ⟨s0, s12, s14⟩ := hSw; go_simp; first | done | (with_reducible rfl))
   try simp only [zA, zB, zC, zD, zE]
   refine tk (i := 6) (v := ?v6x6) (some 81) rfl rfl (Or.inl ⟨by kernel_rfl, ?h6x6⟩) ?r6x6
   case h6x6 => (intro w hSw; obtain ⟨s0, s12, s14⟩ := hSw; go_simp; first | done | (with_reducible rfl))
   try simp only [zA, zB, zC, zD, zE]
   refine tk (i := 7) (v := ?v7x7) (some 82) rfl rfl (Or.inl ⟨by kernel_rfl, ?h7x7⟩) ?r7x7
   case h7x7 => (intro w hSw; obtain ⟨s0, s12, s14⟩ := hSw; go_simp; first | done | (with_reducible rfl))
   try simp only [zA, zB, zC, zD, zE]
   refine tk (i := 8) (v := ?v8x8) (some 83) rfl rfl (Or.inl ⟨by kernel_rfl, ?h8x8⟩) ?r8x8
   case h8x8 => (intro w hSw; obtain ⟨s0, s12, s14⟩ := hSw; go_simp; first | done | (with_reducible rfl))
   try simp only [zA, zB, zC, zD, zE]
   refine tk (i := 9) (v := ?v9x9) (some 84) rfl rfl (Or.inl ⟨by kernel_rfl, ?h9x9⟩) ?r9x9
   case h9x9 => (intro w hSw; obtain ⟨s0, s12, s14⟩ := hSw; go_simp; first | done | (with_reducible rfl))
   try simp only [zA, zB, zC, zD, zE]
   refine tk (i := 10) (v := ?v10x10) (some 85) rfl rfl (Or.inl ⟨by kernel_rfl, ?h10x10⟩) ?r10x10
   case h10x10 => (intro w hSw; obtain ⟨s0, s12, s14⟩ := hSw; go_simp; first | done | (with_reducible rfl))
   try simp only [zA, zB, zC, zD, zE]
   refine tk (i := 11) (v := ?v11x11) (some 86) rfl rfl (Or.inl ⟨by kernel_rfl, ?h11x11⟩) ?r11x11
   case h11x11 => (intro w hSw; obtain ⟨s0, s12, s14⟩ := hSw; go_simp; first | done | (with_reducible rfl))
   try simp only [zA, zB, zC, zD, zE]
   refine tk (i := 12) (v := ?v12x12) (some 87) rfl rfl (Or.inl ⟨by kernel_rfl, ?h12x12⟩) ?r12x12
   case h12x12 => (intro w hSw; obtain ⟨s0, s12, s14⟩ := hSw; go_simp; first | done | (with_reducible rfl))
   try simp only [zA, zB, zC, zD, zE]
   refine tk (i := 13) (v := ?v13x13) (some 88) rfl rfl (Or.inl ⟨by kernel_rfl, ?h13x13⟩) ?r13x13
   case h13x13 => (intro w hSw; obtain ⟨s0, s12, s14⟩ := hSw; go_simp; first | done | (with_reducible rfl))
   try simp only [zA, zB, zC, zD, zE]
   refine tk (i := 14) (v := ?v14x14) (some 89) rfl rfl (Or.inl ⟨by kernel_rfl, ?h14x14⟩) ?r14x14
   case h14x14 => (intro w hSw; obtain ⟨s0, s12, s14⟩ := hSw; go_simp; first | done | (with_reducible rfl))
   try simp only [zA, zB, zC, zD, zE]
   refine wpAnyH_ready (rs := [5]) (by kernel_rfl) (by simp) ?_
   refine AllReadyH.cons rfl (fun K hK => ?_) AllReadyH.nil
   go_simp
   refine (rplanAt_any 3 r.area _ (by decide) HAr.out).mono ?_
   rintro e y1 ⟨rfl, e1⟩
   rw [e1]
   clear e1 y1
   go_simp
   refine hK.out _ _ (hS) (fun hS => ?_)
   clear hK K
   try simp only [zA, zB, zC, zD, zE]
   refine wpAnyH_ready (rs := [15]) (by kernel_rfl) (by simp) ?_
   refine AllReadyH.cons rfl (fun K hK => ?_) AllReadyH.nil
   go_simp
   refine (HCl _ hA.arn).out.mono ?_
   rintro e yC ⟨rfl, hA1, hK1⟩
   go_simp
   have hA2 := hA.put hK1 hA1
   replace hR := hK1.row hR (by simp; have := HL.out; omega)
   replace hZz := hK1.row hZz (by simp; have := HL.out; omega)
   replace hK0 := hK0.trans hK1
   clear hA hA1 hK1
   have hA := hA2
   clear hA2
   refine hK.out _ _ (⟨hA.cell, by rw [row_cell hR]; rfl, by rw [row_cell hR]; rfl⟩) (fun hS => ?_)
   clear hK K
   try simp only [zA, zB, zC, zD, zE]
   refine tk (i := 16) (v := ?v16x15) (some 74) rfl rfl (Or.inl ⟨by kernel_rfl, ?h16x15⟩) ?r16x15
   case h16x15 => (intro w hSw; obtain ⟨s0, s12, s14⟩ := hSw; go_simp; first | done | (with_reducible rfl))
   try simp only [zA, zB, zC, zD, zE]
   refine tk (i := 17) (v := ?v17x16) (some 91) rfl rfl (Or.inl ⟨by kernel_rfl, ?h17x16⟩) ?r17x16
   case h17x16 => (intro w hSw; obtain ⟨s0, s12, s14⟩ := hSw; go_simp; first | done | (with_reducible rfl))
   try simp only [zA, zB, zC, zD, zE]
   refine tk (i := 18) (v := ?v18x17) (some 92) rfl rfl (Or.inl ⟨by kernel_rfl, ?h18x17⟩) ?r18x17
   case h18x17 => (intro w hSw; obtain ⟨s0, s12, s14⟩ := hSw; go_simp; first | done | (with_reducible rfl))
   try simp only [zA, zB, zC, zD, zE]
   refine tk (i := 19) (v := ?v19x18) (some 93) rfl rfl (Or.inl ⟨by kernel_rfl, ?h19x18⟩) ?r19x18
   case h19x18 => (intro w hSw; obtain ⟨s0, s12, s14⟩ := hSw; go_simp; first | done | (with_reducible rfl))
   try simp only [zA, zB, zC, zD, zE]
   refine tk (i := 20) (v := ?v20x19) (some 11) rfl rfl (Or.inl ⟨by kernel_rfl, ?h20x19⟩) ?r20x19
   case h20x19 => (intro w hSw; obtain ⟨s0, s12, s14⟩ := hSw; go_simp; first | done | (with_reducible rfl))
   try simp only [zA, zB, zC, zD, zE]
   refine tk (i := 21) (v := ?v21x20) (some 12) rfl rfl (Or.inl ⟨by kernel_rfl, ?h21x20⟩) ?r21x20
   case h21x20 => (intro w hSw; obtain ⟨s0, s12, s14⟩ := hSw; go_simp; first | done | (with_reducible rfl))
   try simp only [zA, zB, zC, zD, zE]
   refine tk (i := 22) (v := ?v22x21) (some 13) rfl rfl (Or.inl ⟨by kernel_rfl, ?h22x21⟩) ?r22x21
   case h22x21 => (intro w hSw; obtain ⟨s0, s12, s14⟩ := hSw; go_simp; first | done | (with_reducible rfl))
   try simp only [zA, zB, zC, zD, zE]
   refine wpAnyH_done (by kernel_rfl) ?_ _
   have HA := Lib.hid hA
   have HR := Lib.hid hR
   have HZ := Lib.hid hZz
   have HK := Lib.hid hK0
   clear hA hR hZz hK0 hS
   have q13 : yC.cell? ⟨w.heap.size, 13, none⟩ = some (.int .u64 r.next) := by rw [row_cell HR.out]; rfl
   have q14 : yC.cell? ⟨w.heap.size, 14, none⟩ = some (.int .i64 r.at_) := by rw [row_cell HR.out]; rfl
   go_wp2_with fail
   with_reducible refine (HRp _).out.mono ?_
   rintro e z0' ⟨rfl, hb⟩
   clear q13 q14
   replace HA := Lib.hid (HA.out.below hb)
   replace HR := Lib.hid (row_below HR.out hb)
   replace HZ := Lib.hid (row_below HZ.out hb)
   replace HK := Lib.hid (HK.out.call hb)
   clear hb
   go_wp2_with (first | refine wpList_load_row rfl 43 (.tmp 3) rfl w.heap.size rfl 43 r.arr (0, 0) _ HR.out undRun rfl infoRun ?_)
   refine (rtell_any r 0 hd _).mono ?_
   rw [Hsd.out]
   rintro e z1 ⟨rfl, hb⟩
   replace HA := Lib.hid (HA.out.below hb)
   replace HZ := Lib.hid (row_below HZ.out hb)
   replace HK := Lib.hid (HK.out.call hb)
   clear hb
   go_wp2_with (first | refine wpList_store_row rfl 43 (.tmp 4) (.tmp 115) rfl (w.heap.size + 1) (toldR r 0 hd noS).arr rfl rfl 43 ZRun HZ.out infoRun rfl (Rn.one _) ?_)
   refine bodyPost_ret (results_cell_row (fn := Tryz.f36) rfl _ _ (w.heap.size + 1) 43 (toldR r 0 hd noS).arr (0, 0) _ rfl (setRow_heap z1 _ _ _ _ (0, 0) HZ.out) undRun rfl infoRun) rfl ?_
   have hks := (Keep.refl [w.heap.size + 1] z1).setRow (g := w.heap.size + 1) (.inl (by simp)) (toldR r 0 hd noS).arr
   rw [Hst.out.1, Hst.out.2]
   exact ⟨rfl, HA.out.kept hks (by simp; have := HL.out; omega) (by simp; have := HL.out; omega) (by simp; have := HL.out; omega), HK.out.then hks (fun i hi h => by simp at h; omega)⟩
  ·skip
   have Hst : Hid (takeR c ba bu tp r = toldR r 17 0 noS ∧ takeW ws k tp r = ws) := Lib.hid ⟨by unfold takeR; rw [if_neg (by rw [Hp.out]; decide), if_neg (by rw [Hp.out]; decide), if_neg (by rw [Hp.out]; decide), if_neg hf], by unfold takeW; rw [if_neg (fun e => hf e.2)]⟩
   obtain ⟨ca0, ca1⟩ := HI.out.ca
   have hwn : 2 + r.c.a ≤ wordsN r.c.a r.c.b ∧ wordsN r.c.a r.c.b ≤ 72 := by have := HI.out.ca; have := HI.out.cb; unfold wordsN; omega
   have HPk := fun w' => Lib.hid (rheadPack_any (wordsN r.c.a r.c.b) r.c.a r.c.c r.area r.next w' ⟨HI.out.ca, hwn, HI.out.cc, by have := Ha.out; omega, HI.out.nx Hp.out⟩)
   have HWd : Hid (∀ w', Calls Tryz.prog 81 #[.int .i64 r.c.a, .int .i64 r.c.b] w' fun e w'' => e = .returned (.tuple #[.int .i64 (wordsN r.c.a r.c.b), .int .i64 0]) ∧ w'' = w') := Lib.hid fun w' => by
    have h9 := rwords_any r.c.a r.c.b w'
    have h8 : wordsOk r.c.a r.c.b = true := by unfold wordsOk; rw [inB_t HI.out.ca, inB_t HI.out.cb]; rfl
    rw [h8] at h9
    exact h9
   have hh1 : 0 ≤ head1 (wordsN r.c.a r.c.b) r.c.a r.c.c ∧ head1 (wordsN r.c.a r.c.b) r.c.a r.c.c < 18446744073709551616 := by have := HI.out.ca; have := HI.out.cc; unfold head1; omega
   have hh2 : 0 ≤ head2 r.area r.next ∧ head2 r.area r.next < 18446744073709551616 := by have := Ha.out; have := HI.out.nx Hp.out; unfold head2; omega
   have hat : 0 ≤ r.at_ ∧ r.at_ ≤ 65536 := by have := HI.out.at4 Hp.out; have := HI.out.lt; omega
   have hwd := HI.out.wd Hp.out
   have hnx := HI.out.nx Hp.out
   have htp0 := HI.out.bd3
   have HCk := HI.out.blk.tp
   have Hsd := Lib.hid HI.out.said
   have He := Lib.hid (show 64 * r.area + 8 * 3 = 8 * ((8 * k + 3 : Nat) : Int) by have := Ha.out; omega)
   have HCl := fun w' (h' : RArn w' q d ws) => Lib.hid (rarnClaim_no q d ws (8 * k + 3) tp (8 * wordsN r.c.a r.c.b) r.word r.at_ (head1 (wordsN r.c.a r.c.b) r.c.a r.c.c) (head2 r.area r.next) w' h' HCk ⟨htp0, hwd.1⟩ hwd.2 (by omega))
   rw [← (show 8 * ((8 * k + 3 : Nat) : Int) = (((8 * k + 3) * 8 : Nat) : Int) by omega)] at HCl
   rw [← He.out] at HCl
   obtain ⟨n, Hn⟩ : ∃ n, n = wordsN r.c.a r.c.b := ⟨_, rfl⟩
   obtain ⟨one, H1⟩ : ∃ n, n = head1 (wordsN r.c.a r.c.b) r.c.a r.c.c := ⟨_, rfl⟩
   obtain ⟨two, H2⟩ : ∃ n, n = head2 r.area r.next := ⟨_, rfl⟩
   simp only [← H1, ← H2, ← Hn] at HWd HPk HCl Hst
   have n0 : 0 ≤ n := by rw [Hn]; omega
   have n1 : n ≤ 72 := by rw [Hn]; omega
   obtain ⟨a0, a1⟩ := hat
   obtain ⟨x0, x1⟩ := hnx
   have t1 : tp ≤ 65536 := by omega
   have hm8 : IntKind.i64.wrap (8 * n) = 8 * n := IntWalk.i64_in _ (by omega)
   have hm9 : IntKind.u64.wrap (8 * n) = 8 * n := by rw [IntKind.wrap_u64]; omega
   have hnx : IntKind.i64.wrap r.next = r.next := IntWalk.i64_in _ (by omega)
   have htp : IntKind.i64.wrap tp = tp := IntWalk.i64_in _ (by omega)
   have HAr := Lib.hid (show 0 ≤ r.area ∧ r.area ≤ 7 by have := Ha.out; omega)
   rw [Hp.out] at q7
   clear ca0 ca1 hf hwn hwd HCk hh1 hh2 Hn H1 H2 HI Hp He Ha
   have q4 : w1.cell? ⟨w.heap.size, 4, none⟩ = some (.int .i64 r.c.a) := by rw [row_cell HR.out]; rfl
   have q5 : w1.cell? ⟨w.heap.size, 5, none⟩ = some (.int .i64 r.c.b) := by rw [row_cell HR.out]; rfl
   go_wp2_with fail
   refine (HWd.out _).mono ?_
   rintro e w2 ⟨rfl, e2⟩
   rw [e2]
   clear e2 w2
   have q6 : w1.cell? ⟨w.heap.size, 6, none⟩ = some (.int .i64 r.c.c) := by rw [row_cell HR.out]; rfl
   have q13 : w1.cell? ⟨w.heap.size, 13, none⟩ = some (.int .u64 r.next) := by rw [row_cell HR.out]; rfl
   go_wp2_with fail
   refine (HPk _).out.mono ?_
   rintro e w2 ⟨rfl, hb⟩
   clear q4 q5 q6 q7 q8 q13
   replace HR := Lib.hid (row_below HR.out hb)
   replace HZ := Lib.hid (row_below HZ.out hb)
   replace HB := Lib.hid (below_only HB.out hb)
   replace HX := Lib.hid (HX.out.below hb)
   clear hb
   go_upto_region 17 with fail
   have q12 : w2.cell? ⟨w.heap.size, 12, none⟩ = some (.int .u64 r.word) := by rw [row_cell HR.out]; rfl
   have q14 : w2.cell? ⟨w.heap.size, 14, none⟩ = some (.int .i64 r.at_) := by rw [row_cell HR.out]; rfl
   have X_5 := HX.out.cell
   refine wp_region_held_drew (S := fun W => W.cell? ⟨X, 5, none⟩ = some (.pointer (some ⟨q, 0, none⟩)) ∧ W.cell? ⟨w.heap.size, 12, none⟩ = some (.int .u64 r.word) ∧ W.cell? ⟨w.heap.size, 14, none⟩ = some (.int .i64 r.at_)) (by kernel_rfl) (by first | exact ⟨X_5, q12, q14⟩ | (dsimp only; exact ⟨X_5, q12, q14⟩)) ?_
   intro hS
   have hA : RAll w2.drew X q d s t i h ws := HX.out.drew
   have hR : w2.drew.heap[w.heap.size]? = some (.cells r.arr 43 (0, 0)) := HR.out
   have hZz : w2.drew.heap[w.heap.size + 1]? = some (.cells ZRun 43 (0, 0)) := HZ.out
   have hK0 : Keep [d] w w2.drew := (keep_below HB.out [d]).drew
   clear HX HR HZ HB X_5 q12 q14
   generalize w2.drew = y0 at hS hA hR hZz hK0 ⊢
   refine tk (i := 0) (v := ?v0x22) (some 75) rfl rfl (Or.inl ⟨by kernel_rfl, ?h0x22⟩) ?r0x22
   case h0x22 => (intro w hSw; obtain ⟨s0, s12, s14⟩ := hSw; go_simp; first | done | (with_reducible rfl))
   try simp only [zA, zB, zC, zD, zE]
   refine tk (i := 1) (v := ?v1x23) (some 76) rfl rfl (Or.inl ⟨by kernel_rfl, ?h1x23⟩) ?r1x23
   case h1x23 => (intro w hSw; obtain ⟨s0, s12, s14⟩ := hSw; go_simp; first | done | (with_reducible rfl))
   try simp only [zA, zB, zC, zD, zE]
   refine tk (i := 2) (v := ?v2x24) (some 77) rfl rfl (Or.inl ⟨by kernel_rfl, ?h2x24⟩) ?r2x24
   case h2x24 => (intro w hSw; obtain ⟨s0, s12, s14⟩ := hSw; go_simp; first | done | (with_reducible rfl))
   try simp only [zA, zB, zC, zD, zE]
   refine tk (i := 3) (v := ?v3x25) (some 78) rfl rfl (Or.inl ⟨by kernel_rfl, ?h3x25⟩) ?r3x25
   case h3x25 => (intro w hSw; obtain ⟨s0, s12, s14⟩ := hSw; go_simp; first | done | (with_reducible rfl))
   try simp only [zA, zB, zC, zD, zE]
   refine tk (i := 4) (v := ?v4x26) (some 79) rfl rfl (Or.inl ⟨by kernel_rfl, ?h4x26⟩) ?r4x26
   case h4x26 => (intro w hSw; obtain ⟨s0, s12, s14⟩ := hSw; go_simp; first | done | (with_reducible rfl))
   try simp only [zA, zB, zC, zD, zE]
   refine tk (i := 6) (v := ?v6x27) (some 81) rfl rfl (Or.inl ⟨by kernel_rfl, ?h6x27⟩) ?r6x27
   case h6x27 => (intro w hSw; obtain ⟨s0, s12, s14⟩ := hSw; go_simp; first | done | (with_reducible rfl))
   try simp only [zA, zB, zC, zD, zE]
   refine tk (i := 7) (v := ?v7x28) (some 82) rfl rfl (Or.inl ⟨by kernel_rfl, ?h7x28⟩) ?r7x28
   case h7x28 => (intro w hSw; obtain ⟨s0, s12, s14⟩ := hSw; go_simp; first | done | (with_reducible rfl))
   try simp only [zA, zB, zC, zD, zE]
   refine tk (i := 8) (v := ?v8x29) (some 83) rfl rfl (Or.inl ⟨by kernel_rfl, ?h8x29⟩) ?r8x29
   case h8x29 => (intro w hSw; obtain ⟨s0, s12, s14⟩ := hSw; go_simp; first | done | (with_reducible rfl))
   try simp only [zA, zB, zC, zD, zE]
   refine tk (i := 9) (v := ?v9x30) (some 84) rfl rfl (Or.inl ⟨by kernel_rfl, ?h9x30⟩) ?r9x30
   case h9x30 => (intro w hSw; obtain ⟨s0, s12, s14⟩ := hSw; go_simp; first | done | (with_reducible rfl))
   try simp only [zA, zB, zC, zD, zE]
   refine tk (i := 10) (v := ?v10x31) (some 85) rfl rfl (Or.inl ⟨by kernel_rfl, ?h10x31⟩) ?r10x31
   case h10x31 => (intro w hSw; obtain ⟨s0, s12, s14⟩ := hSw; go_simp; first | done | (with_reducible rfl))
   try simp only [zA, zB, zC, zD, zE]
   refine tk (i := 11) (v := ?v11x32) (some 86) rfl rfl (Or.inl ⟨by kernel_rfl, ?h11x32⟩) ?r11x32
   case h11x32 => (intro w hSw; obtain ⟨s0, s12, s14⟩ := hSw; go_simp; first | done | (with_reducible rfl))
   try simp only [zA, zB, zC, zD, zE]
   refine tk (i := 12) (v := ?v12x33) (some 87) rfl rfl (Or.inl ⟨by kernel_rfl, ?h12x33⟩) ?r12x33
   case h12x33 => (intro w hSw; obtain ⟨s0, s12, s14⟩ := hSw; go_simp; first | done | (with_reducible rfl))
   try simp only [zA, zB, zC, zD, zE]
   refine tk (i := 13) (v := ?v13x34) (some 88) rfl rfl (Or.inl ⟨by kernel_rfl, ?h13x34⟩) ?r13x34
   case h13x34 => (intro w hSw; obtain ⟨s0, s12, s14⟩ := hSw; go_simp; first | done | (with_reducible rfl))
   try simp only [zA, zB, zC, zD, zE]
   refine tk (i := 14) (v := ?v14x35) (some 89) rfl rfl (Or.inl ⟨by kernel_rfl, ?h14x35⟩) ?r14x35
   case h14x35 => (intro w hSw; obtain ⟨s0, s12, s14⟩ := hSw; go_simp; first | done | (with_reducible rfl))
   try simp only [zA, zB, zC, zD, zE]
   refine wpAnyH_ready (rs := [5]) (by kernel_rfl) (by simp) ?_
   refine AllReadyH.cons rfl (fun K hK => ?_) AllReadyH.nil
   go_simp
   refine (rplanAt_any 3 r.area _ (by decide) HAr.out).mono ?_
   rintro e y1 ⟨rfl, e1⟩
   rw [e1]
   clear e1 y1
   go_simp
   refine hK.out _ _ (hS) (fun hS => ?_)
   clear hK K
   try simp only [zA, zB, zC, zD, zE]
   refine wpAnyH_ready (rs := [15]) (by kernel_rfl) (by simp) ?_
   refine AllReadyH.cons rfl (fun K hK => ?_) AllReadyH.nil
   go_simp
   refine (HCl _ hA.arn).out.mono ?_
   rintro e yC ⟨rfl, e1⟩
   rw [e1]
   clear e1 yC
   go_simp
   refine hK.out _ _ (hS) (fun hS => ?_)
   clear hK K
   try simp only [zA, zB, zC, zD, zE]
   refine tk (i := 16) (v := ?v16x36) (some 74) rfl rfl (Or.inl ⟨by kernel_rfl, ?h16x36⟩) ?r16x36
   case h16x36 => (intro w hSw; obtain ⟨s0, s12, s14⟩ := hSw; go_simp; first | done | (with_reducible rfl))
   try simp only [zA, zB, zC, zD, zE]
   refine tk (i := 17) (v := ?v17x37) (some 91) rfl rfl (Or.inl ⟨by kernel_rfl, ?h17x37⟩) ?r17x37
   case h17x37 => (intro w hSw; obtain ⟨s0, s12, s14⟩ := hSw; go_simp; first | done | (with_reducible rfl))
   try simp only [zA, zB, zC, zD, zE]
   refine tk (i := 18) (v := ?v18x38) (some 92) rfl rfl (Or.inl ⟨by kernel_rfl, ?h18x38⟩) ?r18x38
   case h18x38 => (intro w hSw; obtain ⟨s0, s12, s14⟩ := hSw; go_simp; first | done | (with_reducible rfl))
   try simp only [zA, zB, zC, zD, zE]
   refine tk (i := 19) (v := ?v19x39) (some 93) rfl rfl (Or.inl ⟨by kernel_rfl, ?h19x39⟩) ?r19x39
   case h19x39 => (intro w hSw; obtain ⟨s0, s12, s14⟩ := hSw; go_simp; first | done | (with_reducible rfl))
   try simp only [zA, zB, zC, zD, zE]
   refine tk (i := 20) (v := ?v20x40) (some 11) rfl rfl (Or.inl ⟨by kernel_rfl, ?h20x40⟩) ?r20x40
   case h20x40 => (intro w hSw; obtain ⟨s0, s12, s14⟩ := hSw; go_simp; first | done | (with_reducible rfl))
   try simp only [zA, zB, zC, zD, zE]
   refine tk (i := 21) (v := ?v21x41) (some 12) rfl rfl (Or.inl ⟨by kernel_rfl, ?h21x41⟩) ?r21x41
   case h21x41 => (intro w hSw; obtain ⟨s0, s12, s14⟩ := hSw; go_simp; first | done | (with_reducible rfl))
   try simp only [zA, zB, zC, zD, zE]
   refine tk (i := 22) (v := ?v22x42) (some 13) rfl rfl (Or.inl ⟨by kernel_rfl, ?h22x42⟩) ?r22x42
   case h22x42 => (intro w hSw; obtain ⟨s0, s12, s14⟩ := hSw; go_simp; first | done | (with_reducible rfl))
   try simp only [zA, zB, zC, zD, zE]
   refine wpAnyH_done (by kernel_rfl) ?_ _
   have HA := Lib.hid hA
   have HR := Lib.hid hR
   have HZ := Lib.hid hZz
   have HK := Lib.hid hK0
   clear hA hR hZz hK0 hS
   go_wp2_with (first | refine wpList_load_row rfl 43 (.tmp 3) rfl w.heap.size rfl 43 r.arr (0, 0) _ HR.out undRun rfl infoRun ?_)
   refine (rtell_any r 17 0 _).mono ?_
   rw [Hsd.out]
   rintro e z1 ⟨rfl, hb⟩
   replace HA := Lib.hid (HA.out.below hb)
   replace HZ := Lib.hid (row_below HZ.out hb)
   replace HK := Lib.hid (HK.out.call hb)
   clear hb
   go_wp2_with (first | refine wpList_store_row rfl 43 (.tmp 4) (.tmp 97) rfl (w.heap.size + 1) (toldR r 17 0 noS).arr rfl rfl 43 ZRun HZ.out infoRun rfl (Rn.one _) ?_)
   refine bodyPost_ret (results_cell_row (fn := Tryz.f36) rfl _ _ (w.heap.size + 1) 43 (toldR r 17 0 noS).arr (0, 0) _ rfl (setRow_heap z1 _ _ _ _ (0, 0) HZ.out) undRun rfl infoRun) rfl ?_
   have hks := (Keep.refl [w.heap.size + 1] z1).setRow (g := w.heap.size + 1) (.inl (by simp)) (toldR r 17 0 noS).arr
   rw [Hst.out.1, Hst.out.2]
   exact ⟨rfl, HA.out.kept hks (by simp; have := HL.out; omega) (by simp; have := HL.out; omega) (by simp; have := HL.out; omega), HK.out.then hks (fun i hi h => by simp at h; omega)⟩

end Go.Proofs.YtbijaloeilnjoaaGreat
