/- Layer 16: the document's pieces of a step. (Printed by gen_rsl.py.) Layer 16: the document's look at a head. (Printed by gen_rhd.py.) Layer 16: the document's hand. (Printed by gen_rhand.py.) Layer 16: the document's value. (Printed by gen_rval.py.) -/
import Derived.Test.YtnimaajnlkbdaaaGreatUse
import Derived.Test.YtnimaajnlkbdaaaGreatMQ
import Derived.Test.YtnimaajnlkbdaaaGreatRTake
import Derived.Test.YtnimaajnlkbdaaaGreatFRest
import Derived.Test.YtnimaajnlkbdaaaGreatSteps
namespace Go.Proofs.YtnimaajnlkbdaaaGreat
open Go.RowKit
set_option linter.unusedVariables false
set_option linter.unusedSimpArgs false

theorem ret_pc16 (R : Rn) (x : Int) : R.arr.setIfInBounds 7 (.int .i64 x) = ({ R with pc := x } : Rn).arr := by simp
set_option maxRecDepth 100000 in
set_option maxHeartbeats 2000000 in
theorem rIs_yes (r : Rn) (w : World) (hd : r.done = false) (hp : 5 ≤ r.pc ∧ r.pc ≤ 12) : Calls Tryz.prog 13 #[r.v] w fun e w' => e = .returned (.bool true) ∧ Below w.heap.size w w' := by
 have e1 : decide ((5 : Int) ≤ r.pc) = true := decide_eq_true hp.1
 have e2 : decide (r.pc ≤ 12) = true := decide_eq_true hp.2
 obtain ⟨p1, p2⟩ := hp
 have Hd := Lib.hid hd
 clear hd
 go_enter Tryz.func13, Tryz.ntmps13
 go_upto_region 1 with fail
 refine one_row w _ _ ?_
 intro W hR hB
 have HB := Lib.hid hB
 have q7 : W.cell? ⟨w.heap.size, 7, none⟩ = some (.int .i64 r.pc) := by rw [row_cell hR]; rfl
 have q21 : W.cell? ⟨w.heap.size, 21, none⟩ = some (.bool false) := by rw [row_cell hR, ← Hd.out]; rfl
 have z := lt_of_heap hR
 clear hR hB
 go_wp2_with fail
 go_ret
 exact ⟨rfl, HB.out⟩

set_option maxRecDepth 100000 in
set_option maxHeartbeats 2000000 in
theorem rIs_no (r : Rn) (w : World) (hd : r.done = false) (hp : r.pc = 0) : Calls Tryz.prog 13 #[r.v] w fun e w' => e = .returned (.bool false) ∧ Below w.heap.size w w' := by
 have Hd := Lib.hid hd
 have Hp := Lib.hid hp
 clear hd
 go_enter Tryz.func13, Tryz.ntmps13
 go_upto_region 1 with fail
 refine one_row w _ _ ?_
 intro W hR hB
 have HB := Lib.hid hB
 have q7 : W.cell? ⟨w.heap.size, 7, none⟩ = some (.int .i64 0) := by rw [row_cell hR, ← Hp.out]; rfl
 have q21 : W.cell? ⟨w.heap.size, 21, none⟩ = some (.bool false) := by rw [row_cell hR, ← Hd.out]; rfl
 have z := lt_of_heap hR
 clear hR hB hp
 go_wp2_with fail
 go_ret
 exact ⟨rfl, HB.out⟩

set_option maxRecDepth 100000 in
set_option maxHeartbeats 2000000 in
theorem rat_any (R : Rn) (x : Int) (w : World) :
  Calls Tryz.prog 41 #[R.v, .int .i64 x] w fun e w' => e = .returned ({ R with pc := x } : Rn).v ∧ Below w.heap.size w w' := by
 go_enter Tryz.func41, Tryz.ntmps41
 go_upto_region 1 with fail
 refine two_rows' w _ _ _ _ ?_
 intro W h2 h3 hb
 have H2 := Lib.hid h2
 have H3 := Lib.hid h3
 have HB := Lib.hid hb
 have f7 : W.frozen? ⟨w.heap.size, 7, none⟩ = false := row_frozen h2 7
 have c7 : W.cell? ⟨w.heap.size, 7, none⟩ = some (.int .i64 R.pc) := by rw [row_cell h2]; rfl
 have z2 := lt_of_heap h2
 clear h2 h3 hb
 go_upto_region 2 with fail
 clear f7 c7 z2
 refine set_oneR W w.heap.size 7 (.int .i64 x) _ _ H2.out ?_
 intro W2 h2 hk
 rw [ret_pc16] at h2
 replace H2 := Lib.hid h2
 replace H3 := Lib.hid (hk.row H3.out (by simp))
 replace HB := Lib.hid (show Below w.heap.size w W2 from Keep.under HB.out hk (by have := HB.out.size; omega) (fun j hj => by simp at hj; omega))
 clear h2 hk
 go_wp2_with (first | refine wpList_load_row rfl 43 (.tmp 2) rfl w.heap.size rfl 43 ({ R with pc := x } : Rn).arr (0, 0) _ H2.out undRun rfl infoRun ?_ | refine wpList_store_row rfl 43 (.tmp 4) (.tmp 7) rfl (w.heap.size + 1) ({ R with pc := x } : Rn).arr rfl rfl 43 ZRun H3.out infoRun rfl (Rn.one _) ?_)
 refine bodyPost_ret (results_cell_row (fn := Tryz.f41) rfl _ _ (w.heap.size + 1) 43 ({ R with pc := x } : Rn).arr (0, 0) _ rfl (setRow_heap W2 _ _ _ _ (0, 0) H3.out) undRun rfl infoRun) rfl ?_
 exact ⟨rfl, below_setRow HB.out (by omega) _⟩

set_option maxRecDepth 100000 in
set_option maxHeartbeats 2000000 in
theorem rstale_any (X q d : Nat) (s t i h : Int) (ws : List Int) (k : Nat) (c : Ctl) (sc ep at_ : Int) (bo : Bool) (w : World) (H : RAll w X q d s t i h ws) (hc : Right c) (hk : ws[k]? = some (word c)) (ha : (k : Int) = 8 * sc) (hs : 0 ≤ sc ∧ sc ≤ 7) (hb : bo = true ↔ c.ep ≠ ep) :
  Calls Tryz.prog 39 #[.pointer (some ⟨X, 0, none⟩), .agg #[.int .i64 sc, .int .i64 ep, .int .i64 at_]] w fun e w' => e = .returned (.bool bo) ∧ Below w.heap.size w w' := by
 have HC := fun w' (H' : RAll w' X q d s t i h ws) => Lib.hid (rallCtl_any X q d s t i h ws k sc c w' H' hc hk ha hs)
 have HX := Lib.hid H
 have Hbo := Lib.hid hb
 obtain ⟨c1, c2, c3, c4⟩ := c
 clear H hc hk ha hs hb
 go_enter Tryz.func39, Tryz.ntmps39
 go_upto_region 1 with fail
 refine one_row w _ _ ?_
 intro W hR hB
 have HR := Lib.hid hR
 have HB := Lib.hid hB
 replace HX := Lib.hid (HX.out.below hB)
 clear hR hB
 by_cases he : c4 = ep
 ·obtain rfl : bo = false := by cases bo with | false => rfl | true => exact absurd he (Hbo.out.1 rfl)
  have e1 : (c4 == ep) = true := by simpa using he
  have e2 : decide (c4 = ep) = true := decide_eq_true he
  have e3 : (c4 != ep) = false := by simp [he]
  clear Hbo he
  refine wp_region_held_drew (S := fun W' => W'.heap[w.heap.size]? = some (.cells #[.int .i64 sc, .int .i64 ep, .int .i64 at_] 70 (0, 0))) (by kernel_rfl) (show W.drew.heap[w.heap.size]? = _ from HR.out) ?_
  intro hS
  have hX0 := HX.out.drew
  have hB0 : Below w.heap.size w W.drew := below_drewN HB.out 1
  generalize W.drew = y0 at hS hX0 hB0 ⊢
  clear HX HR HB
  refine tk (i := 0) (v := ?v0x19) (some 5) rfl rfl (Or.inl ⟨by kernel_rfl, ?h0x19⟩) ?r0x19
  case h0x19 => (intro w' hSw; obtain ⟨f0, f1, f2, _, _, _⟩ := box3 hSw; have zf := lt_of_heap hSw; go_simp; first | done | (with_reducible rfl))
  try simp only [Act.put, List.setIfInBounds_toArray, List.set_cons_succ, List.set_cons_zero]
  refine tk (i := 1) (v := ?v1x20) (some 6) rfl rfl (Or.inl ⟨by kernel_rfl, ?h1x20⟩) ?r1x20
  case h1x20 => (intro w' hSw; obtain ⟨f0, f1, f2, _, _, _⟩ := box3 hSw; have zf := lt_of_heap hSw; go_simp; first | done | (with_reducible rfl))
  try simp only [Act.put, List.setIfInBounds_toArray, List.set_cons_succ, List.set_cons_zero]
  refine tk (i := 2) (v := ?v2x21) (some 7) rfl rfl (Or.inl ⟨by kernel_rfl, ?h2x21⟩) ?r2x21
  case h2x21 => (intro w' hSw; obtain ⟨f0, f1, f2, _, _, _⟩ := box3 hSw; have zf := lt_of_heap hSw; go_simp; first | done | (with_reducible rfl))
  try simp only [Act.put, List.setIfInBounds_toArray, List.set_cons_succ, List.set_cons_zero]
  refine tk (i := 5) (v := ?v5x22) (some 10) rfl rfl (Or.inl ⟨by kernel_rfl, ?h5x22⟩) ?r5x22
  case h5x22 => (intro w' hSw; obtain ⟨f0, f1, f2, _, _, _⟩ := box3 hSw; have zf := lt_of_heap hSw; go_simp; first | done | (with_reducible rfl))
  try simp only [Act.put, List.setIfInBounds_toArray, List.set_cons_succ, List.set_cons_zero]
  refine tk (i := 6) (v := ?v6x23) (some 11) rfl rfl (Or.inl ⟨by kernel_rfl, ?h6x23⟩) ?r6x23
  case h6x23 => (intro w' hSw; obtain ⟨f0, f1, f2, _, _, _⟩ := box3 hSw; have zf := lt_of_heap hSw; go_simp; first | done | (with_reducible rfl))
  try simp only [Act.put, List.setIfInBounds_toArray, List.set_cons_succ, List.set_cons_zero]
  refine wpAnyH_ready (rs := [3]) (by kernel_rfl) (by simp) ?_
  refine AllReadyH.cons rfl (fun K hK => ?_) AllReadyH.nil
  go_simp
  refine (HC _ hX0).out.mono ?_
  rintro e' y1 ⟨rfl, hb⟩
  go_simp
  replace hB0 := below_only hB0 hb
  refine hK.out _ _ (row_below hS hb) (fun hS => ?_)
  clear hK K
  try simp only [Act.put, List.setIfInBounds_toArray, List.set_cons_succ, List.set_cons_zero]
  refine tk (i := 4) (v := ?v4x24) (some 9) rfl rfl (Or.inl ⟨by kernel_rfl, ?h4x24⟩) ?r4x24
  case h4x24 => (intro w' hSw; obtain ⟨f0, f1, f2, _, _, _⟩ := box3 hSw; have zf := lt_of_heap hSw; go_simp; first | done | (with_reducible rfl))
  try simp only [Act.put, List.setIfInBounds_toArray, List.set_cons_succ, List.set_cons_zero]
  refine tk (i := 7) (v := ?v7x25) (some 12) rfl rfl (Or.inl ⟨by kernel_rfl, ?h7x25⟩) ?r7x25
  case h7x25 => (intro w' hSw; obtain ⟨f0, f1, f2, _, _, _⟩ := box3 hSw; have zf := lt_of_heap hSw; go_simp; first | done | (with_reducible rfl))
  try simp only [Act.put, List.setIfInBounds_toArray, List.set_cons_succ, List.set_cons_zero]
  refine tk (i := 8) (v := ?v8x26) (some 4) rfl rfl (Or.inl ⟨by kernel_rfl, ?h8x26⟩) ?r8x26
  case h8x26 => (intro w' hSw; obtain ⟨f0, f1, f2, _, _, _⟩ := box3 hSw; have zf := lt_of_heap hSw; go_simp; first | done | (with_reducible rfl))
  try simp only [Act.put, List.setIfInBounds_toArray, List.set_cons_succ, List.set_cons_zero]
  refine wpAnyH_done (by kernel_rfl) ?_ _
  go_wp2_with fail
  go_ret
  exact ⟨rfl, hB0⟩
 ·obtain rfl : bo = true := Hbo.out.2 he
  have e1 : (c4 == ep) = false := by simpa using he
  have e2 : decide (c4 = ep) = false := decide_eq_false he
  have e3 : (c4 != ep) = true := by simp [he]
  clear Hbo he
  refine wp_region_held_drew (S := fun W' => W'.heap[w.heap.size]? = some (.cells #[.int .i64 sc, .int .i64 ep, .int .i64 at_] 70 (0, 0))) (by kernel_rfl) (show W.drew.heap[w.heap.size]? = _ from HR.out) ?_
  intro hS
  have hX0 := HX.out.drew
  have hB0 : Below w.heap.size w W.drew := below_drewN HB.out 1
  generalize W.drew = y0 at hS hX0 hB0 ⊢
  clear HX HR HB
  refine tk (i := 0) (v := ?v0x27) (some 5) rfl rfl (Or.inl ⟨by kernel_rfl, ?h0x27⟩) ?r0x27
  case h0x27 => (intro w' hSw; obtain ⟨f0, f1, f2, _, _, _⟩ := box3 hSw; have zf := lt_of_heap hSw; go_simp; first | done | (with_reducible rfl))
  try simp only [Act.put, List.setIfInBounds_toArray, List.set_cons_succ, List.set_cons_zero]
  refine tk (i := 1) (v := ?v1x28) (some 6) rfl rfl (Or.inl ⟨by kernel_rfl, ?h1x28⟩) ?r1x28
  case h1x28 => (intro w' hSw; obtain ⟨f0, f1, f2, _, _, _⟩ := box3 hSw; have zf := lt_of_heap hSw; go_simp; first | done | (with_reducible rfl))
  try simp only [Act.put, List.setIfInBounds_toArray, List.set_cons_succ, List.set_cons_zero]
  refine tk (i := 2) (v := ?v2x29) (some 7) rfl rfl (Or.inl ⟨by kernel_rfl, ?h2x29⟩) ?r2x29
  case h2x29 => (intro w' hSw; obtain ⟨f0, f1, f2, _, _, _⟩ := box3 hSw; have zf := lt_of_heap hSw; go_simp; first | done | (with_reducible rfl))
  try simp only [Act.put, List.setIfInBounds_toArray, List.set_cons_succ, List.set_cons_zero]
  refine tk (i := 5) (v := ?v5x30) (some 10) rfl rfl (Or.inl ⟨by kernel_rfl, ?h5x30⟩) ?r5x30
  case h5x30 => (intro w' hSw; obtain ⟨f0, f1, f2, _, _, _⟩ := box3 hSw; have zf := lt_of_heap hSw; go_simp; first | done | (with_reducible rfl))
  try simp only [Act.put, List.setIfInBounds_toArray, List.set_cons_succ, List.set_cons_zero]
  refine tk (i := 6) (v := ?v6x31) (some 11) rfl rfl (Or.inl ⟨by kernel_rfl, ?h6x31⟩) ?r6x31
  case h6x31 => (intro w' hSw; obtain ⟨f0, f1, f2, _, _, _⟩ := box3 hSw; have zf := lt_of_heap hSw; go_simp; first | done | (with_reducible rfl))
  try simp only [Act.put, List.setIfInBounds_toArray, List.set_cons_succ, List.set_cons_zero]
  refine wpAnyH_ready (rs := [3]) (by kernel_rfl) (by simp) ?_
  refine AllReadyH.cons rfl (fun K hK => ?_) AllReadyH.nil
  go_simp
  refine (HC _ hX0).out.mono ?_
  rintro e' y1 ⟨rfl, hb⟩
  go_simp
  replace hB0 := below_only hB0 hb
  refine hK.out _ _ (row_below hS hb) (fun hS => ?_)
  clear hK K
  try simp only [Act.put, List.setIfInBounds_toArray, List.set_cons_succ, List.set_cons_zero]
  refine tk (i := 4) (v := ?v4x32) (some 9) rfl rfl (Or.inl ⟨by kernel_rfl, ?h4x32⟩) ?r4x32
  case h4x32 => (intro w' hSw; obtain ⟨f0, f1, f2, _, _, _⟩ := box3 hSw; have zf := lt_of_heap hSw; go_simp; first | done | (with_reducible rfl))
  try simp only [Act.put, List.setIfInBounds_toArray, List.set_cons_succ, List.set_cons_zero]
  refine tk (i := 7) (v := ?v7x33) (some 12) rfl rfl (Or.inl ⟨by kernel_rfl, ?h7x33⟩) ?r7x33
  case h7x33 => (intro w' hSw; obtain ⟨f0, f1, f2, _, _, _⟩ := box3 hSw; have zf := lt_of_heap hSw; go_simp; first | done | (with_reducible rfl))
  try simp only [Act.put, List.setIfInBounds_toArray, List.set_cons_succ, List.set_cons_zero]
  refine tk (i := 8) (v := ?v8x34) (some 4) rfl rfl (Or.inl ⟨by kernel_rfl, ?h8x34⟩) ?r8x34
  case h8x34 => (intro w' hSw; obtain ⟨f0, f1, f2, _, _, _⟩ := box3 hSw; have zf := lt_of_heap hSw; go_simp; first | done | (with_reducible rfl))
  try simp only [Act.put, List.setIfInBounds_toArray, List.set_cons_succ, List.set_cons_zero]
  refine wpAnyH_done (by kernel_rfl) ?_ _
  go_wp2_with fail
  go_ret
  exact ⟨rfl, hB0⟩
end Go.Proofs.YtnimaajnlkbdaaaGreat

namespace Go.Proofs.YtnimaajnlkbdaaaGreat
open Go.RowKit
set_option linter.unusedVariables false
set_option linter.unusedSimpArgs false

theorem rall_lt {w : World} {X q d : Nat} {s t i h : Int} {ws : List Int} (H : RAll w X q d s t i h ws) : X < w.heap.size ∧ q < w.heap.size ∧ d < w.heap.size :=
 ⟨by obtain ⟨gp, h⟩ := H.box; exact lt_of_heap h, lt_of_heap H.arn.box, lt_of_heap H.arn.row⟩
set_option maxRecDepth 100000 in
set_option maxHeartbeats 4000000 in
theorem rhead_ok (X q d : Nat) (s t i h : Int) (ws : List Int) (k : Nat) (sc ep at_ : Int) (w : World) (H : RAll w X q d s t i h ws) (ha : at_ = 8 * (k : Int)) (sz sl tg : Int) (hH : HeadOk sz sl tg sc ep) (h1 : ws[k]? = some (head1 sz sl tg)) (h2 : ws[k + 1]? = some (head2 sc ep)) :
  Calls Tryz.prog 86 #[.pointer (some ⟨X, 0, none⟩), .agg #[.int .i64 sc, .int .i64 ep, .int .i64 at_]] w fun e w' => e = .returned (.tuple #[.agg (hdCells sz sl tg false sc ep), .bool true]) ∧ Below w.heap.size w w' := by
 have HC := fun w' (H' : RAll w' X q d s t i h ws) => Lib.hid (rthingAt_any q d ws k at_ sz sl tg sc ep w' H'.arn hH h1 h2 ha)
 have HX := Lib.hid H
 clear H ha h1 h2 hH
 go_enter Tryz.func86, Tryz.ntmps86
 go_upto_region 1 with fail
 refine two_rows' w _ _ _ _ ?_
 intro W hR hZ hB
 have HR := Lib.hid hR
 have HZ := Lib.hid hZ
 have HB := Lib.hid hB
 replace HX := Lib.hid (HX.out.below hB)
 clear hR hZ hB
 try simp only [Act.put]
 go_cut [6, 7] from 6 to 17 (fun v6 v7 wx => ∃ gZ, v6 = .pointer (some ⟨gZ, 0, none⟩) ∧ v7 = .int .i64 0 ∧ W.heap.size ≤ gZ ∧ wx.heap[gZ]? = some (.cells (hdCells sz sl tg false sc ep) 148 (0, 0)) ∧ Below W.heap.size W wx)
 case first =>
  refine wp_region_held_drew (S := fun W' => RAll W' X q d s t i h ws ∧ W'.heap[w.heap.size]? = some (.cells #[.int .i64 sc, .int .i64 ep, .int .i64 at_] 70 (0, 0))) (by kernel_rfl) (show RAll W.drew X q d s t i h ws ∧ W.drew.heap[w.heap.size]? = _ from ⟨HX.out.drew, HR.out⟩) ?_
  intro hS
  have hB0 : Below W.heap.size W W.drew := by go_grown
  generalize W.drew = y0 at hS hB0 ⊢
  refine tk (i := 0) (v := ?v0x19) (some 9) rfl rfl (Or.inl ⟨by kernel_rfl, ?h0x19⟩) ?r0x19
  case h0x19 => (intro w' hSw; have x5 := hSw.1.cell; have zx := (rall_lt hSw.1).1; obtain ⟨f0, f1, f2, _, _, _⟩ := box3 hSw.2; have zf := lt_of_heap hSw.2; go_simp; first | done | (with_reducible rfl))
  try simp only [Act.put, List.setIfInBounds_toArray, List.set_cons_succ, List.set_cons_zero]
  refine tk (i := 1) (v := ?v1x20) (some 10) rfl rfl (Or.inl ⟨by kernel_rfl, ?h1x20⟩) ?r1x20
  case h1x20 => (intro w' hSw; have x5 := hSw.1.cell; have zx := (rall_lt hSw.1).1; obtain ⟨f0, f1, f2, _, _, _⟩ := box3 hSw.2; have zf := lt_of_heap hSw.2; go_simp; first | done | (with_reducible rfl))
  try simp only [Act.put, List.setIfInBounds_toArray, List.set_cons_succ, List.set_cons_zero]
  refine tk (i := 2) (v := ?v2x21) (some 11) rfl rfl (Or.inl ⟨by kernel_rfl, ?h2x21⟩) ?r2x21
  case h2x21 => (intro w' hSw; have x5 := hSw.1.cell; have zx := (rall_lt hSw.1).1; obtain ⟨f0, f1, f2, _, _, _⟩ := box3 hSw.2; have zf := lt_of_heap hSw.2; go_simp; first | done | (with_reducible rfl))
  try simp only [Act.put, List.setIfInBounds_toArray, List.set_cons_succ, List.set_cons_zero]
  refine tk (i := 3) (v := ?v3x22) (some 12) rfl rfl (Or.inl ⟨by kernel_rfl, ?h3x22⟩) ?r3x22
  case h3x22 => (intro w' hSw; have x5 := hSw.1.cell; have zx := (rall_lt hSw.1).1; obtain ⟨f0, f1, f2, _, _, _⟩ := box3 hSw.2; have zf := lt_of_heap hSw.2; go_simp; first | done | (with_reducible rfl))
  try simp only [Act.put, List.setIfInBounds_toArray, List.set_cons_succ, List.set_cons_zero]
  refine tk (i := 4) (v := ?v4x23) (some 13) rfl rfl (Or.inl ⟨by kernel_rfl, ?h4x23⟩) ?r4x23
  case h4x23 => (intro w' hSw; have x5 := hSw.1.cell; have zx := (rall_lt hSw.1).1; obtain ⟨f0, f1, f2, _, _, _⟩ := box3 hSw.2; have zf := lt_of_heap hSw.2; go_simp; first | done | (with_reducible rfl))
  try simp only [Act.put, List.setIfInBounds_toArray, List.set_cons_succ, List.set_cons_zero]
  refine tk (i := 5) (v := ?v5x24) (some 14) rfl rfl (Or.inl ⟨by kernel_rfl, ?h5x24⟩) ?r5x24
  case h5x24 => (intro w' hSw; have x5 := hSw.1.cell; have zx := (rall_lt hSw.1).1; obtain ⟨f0, f1, f2, _, _, _⟩ := box3 hSw.2; have zf := lt_of_heap hSw.2; go_simp; first | done | (with_reducible rfl))
  try simp only [Act.put, List.setIfInBounds_toArray, List.set_cons_succ, List.set_cons_zero]
  refine wpAnyH_ready (rs := [6, 10]) (by kernel_rfl) (by simp) ?_
  refine AllReadyH.cons rfl (fun K hK => ?_) (AllReadyH.cons rfl (fun K hK => ?_) AllReadyH.nil)
  ·skip
   go_simp
   refine (HC _ hS.1).out.mono ?_
   rintro e' yE ⟨rfl, hb⟩
   go_simp
   replace hB0 := below_only hB0 hb
   refine hK.out _ _ (⟨hS.1.below hb, row_below hS.2 hb⟩) (fun hS => ?_)
   clear hK K
   try simp only [Act.put, List.setIfInBounds_toArray, List.set_cons_succ, List.set_cons_zero]
   refine tk (i := 7) (v := ?v7x25) (some 8) rfl rfl (Or.inl ⟨by kernel_rfl, ?h7x25⟩) ?r7x25
   case h7x25 => (intro w' hSw; have x5 := hSw.1.cell; have zx := (rall_lt hSw.1).1; obtain ⟨f0, f1, f2, _, _, _⟩ := box3 hSw.2; have zf := lt_of_heap hSw.2; go_simp; first | done | (with_reducible rfl))
   try simp only [Act.put, List.setIfInBounds_toArray, List.set_cons_succ, List.set_cons_zero]
   refine tk (i := 8) (v := ?v8x26) (some 16) rfl rfl (Or.inl ⟨by kernel_rfl, ?h8x26⟩) ?r8x26
   case h8x26 => (intro w' hSw; have x5 := hSw.1.cell; have zx := (rall_lt hSw.1).1; obtain ⟨f0, f1, f2, _, _, _⟩ := box3 hSw.2; have zf := lt_of_heap hSw.2; go_simp; first | done | (with_reducible rfl))
   try simp only [Act.put, List.setIfInBounds_toArray, List.set_cons_succ, List.set_cons_zero]
   refine tk (i := 9) (v := ?v9x27) (some 17) rfl rfl (Or.inl ⟨by kernel_rfl, ?h9x27⟩) ?r9x27
   case h9x27 => (intro w' hSw; have x5 := hSw.1.cell; have zx := (rall_lt hSw.1).1; obtain ⟨f0, f1, f2, _, _, _⟩ := box3 hSw.2; have zf := lt_of_heap hSw.2; go_simp; first | done | (with_reducible rfl))
   try simp only [Act.put, List.setIfInBounds_toArray, List.set_cons_succ, List.set_cons_zero]
   refine wpAnyH_ready (rs := [10]) (by kernel_rfl) (by simp) ?_
   refine AllReadyH.cons rfl (fun K hK => ?_) AllReadyH.nil
   go_simp
   refine k_alloc (fun yZ hZ2 hb => ?_)
   have hgZ : W.heap.size ≤ yE.heap.size := hB0.size
   replace hB0 := below_only hB0 hb
   obtain ⟨gZ, HgZ⟩ : ∃ x, x = yE.heap.size := ⟨_, rfl⟩
   have hS1 := hS.1.below hb
   have hS2 := row_below hS.2 hb
   have hgg : w.heap.size ≠ gZ ∧ X ≠ gZ ∧ q ≠ gZ ∧ d ≠ gZ := by have := rall_lt hS.1; have := lt_of_heap hS.2; omega
   rw [← HgZ] at hZ2 hgZ ⊢
   clear HgZ hb
   refine hK.out _ _ (⟨hS1, hS2⟩) (fun hS => ?_)
   clear hK K
   try simp only [Act.put, List.setIfInBounds_toArray, List.set_cons_succ, List.set_cons_zero]
   clear hS1 hS2
   refine wpAnyH_ready (rs := [11]) (by kernel_rfl) (by simp) ?_
   refine AllReadyH.cons rfl (fun K hK => ?_) AllReadyH.nil
   refine step_store_row none rfl rfl 148 (.tmp 6) (.tmp 16) rfl gZ (hdCells sz sl tg false sc ep) rfl rfl 148 (hdCells 0 0 0 false 0 0) hZ2 infoHd rfl (hd_one _ _ _ _ _ _) ?_
   have hks := (Keep.refl [gZ] yZ).setRow (g := gZ) (.inl (by simp)) (hdCells sz sl tg false sc ep)
   refine hK.out _ _ (⟨hS.1.kept hks (by simpa using hgg.2.1) (by simpa using hgg.2.2.1) (by simpa using hgg.2.2.2), hks.row hS.2 (by simpa using hgg.1)⟩) (fun hS => ?_)
   clear hK K
   try simp only [Act.put, List.setIfInBounds_toArray, List.set_cons_succ, List.set_cons_zero]
   refine tk (i := 12) (v := ?v12x28) (some 7) rfl rfl (Or.inl ⟨by kernel_rfl, ?h12x28⟩) ?r12x28
   case h12x28 => (intro w' hSw; have x5 := hSw.1.cell; have zx := (rall_lt hSw.1).1; obtain ⟨f0, f1, f2, _, _, _⟩ := box3 hSw.2; have zf := lt_of_heap hSw.2; go_simp; first | done | (with_reducible rfl))
   try simp only [Act.put, List.setIfInBounds_toArray, List.set_cons_succ, List.set_cons_zero]
   refine wpAnyH_done (by kernel_rfl) ?_ _
   go_wp2_with fail
   go_meet
   exact ⟨gZ, rfl, rfl, hgZ, setRow_heap _ _ _ _ _ _ hZ2, below_setRow hB0 hgZ _⟩
  ·skip
   go_simp
   refine k_alloc (fun yZ hZ2 hb => ?_)
   have hgZ : W.heap.size ≤ y0.heap.size := hB0.size
   replace hB0 := below_only hB0 hb
   obtain ⟨gZ, HgZ⟩ : ∃ x, x = y0.heap.size := ⟨_, rfl⟩
   have hS1 := hS.1.below hb
   have hS2 := row_below hS.2 hb
   have hgg : w.heap.size ≠ gZ ∧ X ≠ gZ ∧ q ≠ gZ ∧ d ≠ gZ := by have := rall_lt hS.1; have := lt_of_heap hS.2; omega
   rw [← HgZ] at hZ2 hgZ ⊢
   clear HgZ hb
   refine hK.out _ _ (⟨hS1, hS2⟩) (fun hS => ?_)
   clear hK K
   try simp only [Act.put, List.setIfInBounds_toArray, List.set_cons_succ, List.set_cons_zero]
   clear hS1 hS2
   refine wpAnyH_ready (rs := [6]) (by kernel_rfl) (by simp) ?_
   refine AllReadyH.cons rfl (fun K hK => ?_) AllReadyH.nil
   go_simp
   refine (HC _ hS.1).out.mono ?_
   rintro e' yE ⟨rfl, hb⟩
   go_simp
   replace hB0 := below_only hB0 hb
   replace hZ2 := row_below hZ2 hb
   refine hK.out _ _ (⟨hS.1.below hb, row_below hS.2 hb⟩) (fun hS => ?_)
   clear hK K
   try simp only [Act.put, List.setIfInBounds_toArray, List.set_cons_succ, List.set_cons_zero]
   refine tk (i := 7) (v := ?v7x29) (some 8) rfl rfl (Or.inl ⟨by kernel_rfl, ?h7x29⟩) ?r7x29
   case h7x29 => (intro w' hSw; have x5 := hSw.1.cell; have zx := (rall_lt hSw.1).1; obtain ⟨f0, f1, f2, _, _, _⟩ := box3 hSw.2; have zf := lt_of_heap hSw.2; go_simp; first | done | (with_reducible rfl))
   try simp only [Act.put, List.setIfInBounds_toArray, List.set_cons_succ, List.set_cons_zero]
   refine tk (i := 8) (v := ?v8x30) (some 16) rfl rfl (Or.inl ⟨by kernel_rfl, ?h8x30⟩) ?r8x30
   case h8x30 => (intro w' hSw; have x5 := hSw.1.cell; have zx := (rall_lt hSw.1).1; obtain ⟨f0, f1, f2, _, _, _⟩ := box3 hSw.2; have zf := lt_of_heap hSw.2; go_simp; first | done | (with_reducible rfl))
   try simp only [Act.put, List.setIfInBounds_toArray, List.set_cons_succ, List.set_cons_zero]
   refine tk (i := 9) (v := ?v9x31) (some 17) rfl rfl (Or.inl ⟨by kernel_rfl, ?h9x31⟩) ?r9x31
   case h9x31 => (intro w' hSw; have x5 := hSw.1.cell; have zx := (rall_lt hSw.1).1; obtain ⟨f0, f1, f2, _, _, _⟩ := box3 hSw.2; have zf := lt_of_heap hSw.2; go_simp; first | done | (with_reducible rfl))
   try simp only [Act.put, List.setIfInBounds_toArray, List.set_cons_succ, List.set_cons_zero]
   refine wpAnyH_ready (rs := [11]) (by kernel_rfl) (by simp) ?_
   refine AllReadyH.cons rfl (fun K hK => ?_) AllReadyH.nil
   refine step_store_row none rfl rfl 148 (.tmp 6) (.tmp 16) rfl gZ (hdCells sz sl tg false sc ep) rfl rfl 148 (hdCells 0 0 0 false 0 0) hZ2 infoHd rfl (hd_one _ _ _ _ _ _) ?_
   have hks := (Keep.refl [gZ] yE).setRow (g := gZ) (.inl (by simp)) (hdCells sz sl tg false sc ep)
   refine hK.out _ _ (⟨hS.1.kept hks (by simpa using hgg.2.1) (by simpa using hgg.2.2.1) (by simpa using hgg.2.2.2), hks.row hS.2 (by simpa using hgg.1)⟩) (fun hS => ?_)
   clear hK K
   try simp only [Act.put, List.setIfInBounds_toArray, List.set_cons_succ, List.set_cons_zero]
   refine tk (i := 12) (v := ?v12x32) (some 7) rfl rfl (Or.inl ⟨by kernel_rfl, ?h12x32⟩) ?r12x32
   case h12x32 => (intro w' hSw; have x5 := hSw.1.cell; have zx := (rall_lt hSw.1).1; obtain ⟨f0, f1, f2, _, _, _⟩ := box3 hSw.2; have zf := lt_of_heap hSw.2; go_simp; first | done | (with_reducible rfl))
   try simp only [Act.put, List.setIfInBounds_toArray, List.set_cons_succ, List.set_cons_zero]
   refine wpAnyH_done (by kernel_rfl) ?_ _
   go_wp2_with fail
   go_meet
   exact ⟨gZ, rfl, rfl, hgZ, setRow_heap _ _ _ _ _ _ hZ2, below_setRow hB0 hgZ _⟩
 case rest =>
  obtain ⟨gZ, rfl, rfl, hgZ, hR, hb⟩ := hcut
  obtain ⟨w5, hwx⟩ : ∃ x, x = wc := ⟨_, rfl⟩
  subst hwx
  have hgl := lt_of_heap HZ.out
  have HR5 := Lib.hid (row_below HR.out hb)
  have HZ5 := Lib.hid (row_below HZ.out hb)
  have HB5 := Lib.hid (below_only HB.out hb)
  have HD := Lib.hid hR
  have MZ : Hid (w.heap.size + 1 ≠ gZ) := Lib.hid (by omega)
  clear hb hR hgZ hgl HX HR HZ HB
  go_upto_region 2 with fail
  try simp only [Act.put]
  refine wp_region_held_drew (S := fun W' => W'.heap[gZ]? = some (.cells (hdCells sz sl tg false sc ep) 148 (0, 0)) ∧ W'.heap[w.heap.size]? = some (.cells #[.int .i64 sc, .int .i64 ep, .int .i64 at_] 70 (0, 0))) (by kernel_rfl) (show w5.drew.heap[gZ]? = _ ∧ w5.drew.heap[w.heap.size]? = _ from ⟨HD.out, HR5.out⟩) ?_
  intro hS
  have hZ0 : w5.drew.heap[w.heap.size + 1]? = _ := HZ5.out
  have hB0 : Below w.heap.size w w5.drew := below_drewN HB5.out 1
  have hne := MZ.out
  generalize w5.drew = y0 at hS hZ0 hB0 ⊢
  clear HD HR5 HZ5 HB5
  refine tk (i := 0) (v := .agg (hdCells sz sl tg false sc ep)) (some 18) rfl rfl (yieldsIf_load_row (by kernel_rfl) 148 (.tmp 6) rfl gZ rfl (hdCells sz sl tg false sc ep) (fun W' hW' => hW'.1) undHd rfl infoHd) ?_
  try simp only [Act.put, List.setIfInBounds_toArray, List.set_cons_succ, List.set_cons_zero]
  refine tk (i := 1) (v := ?v1x33) (some 19) rfl rfl (Or.inl ⟨by kernel_rfl, ?h1x33⟩) ?r1x33
  case h1x33 => (intro w' hSw; obtain ⟨x0, x1, x2, x3, x4, x5⟩ := box6 hSw.1; obtain ⟨f0, f1, f2, _, _, _⟩ := box3 hSw.2; have zf := lt_of_heap hSw.2; have zz := lt_of_heap hSw.1; go_simp; first | done | (with_reducible rfl))
  try simp only [Act.put, List.setIfInBounds_toArray, List.set_cons_succ, List.set_cons_zero]
  refine tk (i := 2) (v := ?v2x34) (some 20) rfl rfl (Or.inl ⟨by kernel_rfl, ?h2x34⟩) ?r2x34
  case h2x34 => (intro w' hSw; obtain ⟨x0, x1, x2, x3, x4, x5⟩ := box6 hSw.1; obtain ⟨f0, f1, f2, _, _, _⟩ := box3 hSw.2; have zf := lt_of_heap hSw.2; have zz := lt_of_heap hSw.1; go_simp; first | done | (with_reducible rfl))
  try simp only [Act.put, List.setIfInBounds_toArray, List.set_cons_succ, List.set_cons_zero]
  refine tk (i := 3) (v := ?v3x35) (some 21) rfl rfl (Or.inl ⟨by kernel_rfl, ?h3x35⟩) ?r3x35
  case h3x35 => (intro w' hSw; obtain ⟨x0, x1, x2, x3, x4, x5⟩ := box6 hSw.1; obtain ⟨f0, f1, f2, _, _, _⟩ := box3 hSw.2; have zf := lt_of_heap hSw.2; have zz := lt_of_heap hSw.1; go_simp; first | done | (with_reducible rfl))
  try simp only [Act.put, List.setIfInBounds_toArray, List.set_cons_succ, List.set_cons_zero]
  refine tk (i := 4) (v := ?v4x36) (some 22) rfl rfl (Or.inl ⟨by kernel_rfl, ?h4x36⟩) ?r4x36
  case h4x36 => (intro w' hSw; obtain ⟨x0, x1, x2, x3, x4, x5⟩ := box6 hSw.1; obtain ⟨f0, f1, f2, _, _, _⟩ := box3 hSw.2; have zf := lt_of_heap hSw.2; have zz := lt_of_heap hSw.1; go_simp; first | done | (with_reducible rfl))
  try simp only [Act.put, List.setIfInBounds_toArray, List.set_cons_succ, List.set_cons_zero]
  refine tk (i := 5) (v := ?v5x37) (some 23) rfl rfl (Or.inl ⟨by kernel_rfl, ?h5x37⟩) ?r5x37
  case h5x37 => (intro w' hSw; obtain ⟨x0, x1, x2, x3, x4, x5⟩ := box6 hSw.1; obtain ⟨f0, f1, f2, _, _, _⟩ := box3 hSw.2; have zf := lt_of_heap hSw.2; have zz := lt_of_heap hSw.1; go_simp; first | done | (with_reducible rfl))
  try simp only [Act.put, List.setIfInBounds_toArray, List.set_cons_succ, List.set_cons_zero]
  refine tk (i := 6) (v := ?v6x38) (some 24) rfl rfl (Or.inl ⟨by kernel_rfl, ?h6x38⟩) ?r6x38
  case h6x38 => (intro w' hSw; obtain ⟨x0, x1, x2, x3, x4, x5⟩ := box6 hSw.1; obtain ⟨f0, f1, f2, _, _, _⟩ := box3 hSw.2; have zf := lt_of_heap hSw.2; have zz := lt_of_heap hSw.1; go_simp; first | done | (with_reducible rfl))
  try simp only [Act.put, List.setIfInBounds_toArray, List.set_cons_succ, List.set_cons_zero]
  refine tk (i := 7) (v := ?v7x39) (some 25) rfl rfl (Or.inl ⟨by kernel_rfl, ?h7x39⟩) ?r7x39
  case h7x39 => (intro w' hSw; obtain ⟨x0, x1, x2, x3, x4, x5⟩ := box6 hSw.1; obtain ⟨f0, f1, f2, _, _, _⟩ := box3 hSw.2; have zf := lt_of_heap hSw.2; have zz := lt_of_heap hSw.1; go_simp; first | done | (with_reducible rfl))
  try simp only [Act.put, List.setIfInBounds_toArray, List.set_cons_succ, List.set_cons_zero]
  refine tk (i := 8) (v := ?v8x40) (some 26) rfl rfl (Or.inl ⟨by kernel_rfl, ?h8x40⟩) ?r8x40
  case h8x40 => (intro w' hSw; obtain ⟨x0, x1, x2, x3, x4, x5⟩ := box6 hSw.1; obtain ⟨f0, f1, f2, _, _, _⟩ := box3 hSw.2; have zf := lt_of_heap hSw.2; have zz := lt_of_heap hSw.1; go_simp; first | done | (with_reducible rfl))
  try simp only [Act.put, List.setIfInBounds_toArray, List.set_cons_succ, List.set_cons_zero]
  refine tk (i := 9) (v := ?v9x41) (some 27) rfl rfl (Or.inl ⟨by kernel_rfl, ?h9x41⟩) ?r9x41
  case h9x41 => (intro w' hSw; obtain ⟨x0, x1, x2, x3, x4, x5⟩ := box6 hSw.1; obtain ⟨f0, f1, f2, _, _, _⟩ := box3 hSw.2; have zf := lt_of_heap hSw.2; have zz := lt_of_heap hSw.1; go_simp; first | done | (with_reducible rfl))
  try simp only [Act.put, List.setIfInBounds_toArray, List.set_cons_succ, List.set_cons_zero]
  refine tk (i := 10) (v := ?v10x42) (some 28) rfl rfl (Or.inl ⟨by kernel_rfl, ?h10x42⟩) ?r10x42
  case h10x42 => (intro w' hSw; obtain ⟨x0, x1, x2, x3, x4, x5⟩ := box6 hSw.1; obtain ⟨f0, f1, f2, _, _, _⟩ := box3 hSw.2; have zf := lt_of_heap hSw.2; have zz := lt_of_heap hSw.1; go_simp; first | done | (with_reducible rfl))
  try simp only [Act.put, List.setIfInBounds_toArray, List.set_cons_succ, List.set_cons_zero]
  refine tk (i := 11) (v := ?v11x43) (some 29) rfl rfl (Or.inl ⟨by kernel_rfl, ?h11x43⟩) ?r11x43
  case h11x43 => (intro w' hSw; obtain ⟨x0, x1, x2, x3, x4, x5⟩ := box6 hSw.1; obtain ⟨f0, f1, f2, _, _, _⟩ := box3 hSw.2; have zf := lt_of_heap hSw.2; have zz := lt_of_heap hSw.1; go_simp; first | done | (with_reducible rfl))
  try simp only [Act.put, List.setIfInBounds_toArray, List.set_cons_succ, List.set_cons_zero]
  refine tk (i := 12) (v := ?v12x44) (some 30) rfl rfl (Or.inl ⟨by kernel_rfl, ?h12x44⟩) ?r12x44
  case h12x44 => (intro w' hSw; obtain ⟨x0, x1, x2, x3, x4, x5⟩ := box6 hSw.1; obtain ⟨f0, f1, f2, _, _, _⟩ := box3 hSw.2; have zf := lt_of_heap hSw.2; have zz := lt_of_heap hSw.1; go_simp; first | done | (with_reducible rfl))
  try simp only [Act.put, List.setIfInBounds_toArray, List.set_cons_succ, List.set_cons_zero]
  refine tk (i := 13) (v := ?v13x45) (some 31) rfl rfl (Or.inl ⟨by kernel_rfl, ?h13x45⟩) ?r13x45
  case h13x45 => (intro w' hSw; obtain ⟨x0, x1, x2, x3, x4, x5⟩ := box6 hSw.1; obtain ⟨f0, f1, f2, _, _, _⟩ := box3 hSw.2; have zf := lt_of_heap hSw.2; have zz := lt_of_heap hSw.1; go_simp; first | done | (with_reducible rfl))
  try simp only [Act.put, List.setIfInBounds_toArray, List.set_cons_succ, List.set_cons_zero]
  refine tk (i := 14) (v := ?v14x46) (some 32) rfl rfl (Or.inl ⟨by kernel_rfl, ?h14x46⟩) ?r14x46
  case h14x46 => (intro w' hSw; obtain ⟨x0, x1, x2, x3, x4, x5⟩ := box6 hSw.1; obtain ⟨f0, f1, f2, _, _, _⟩ := box3 hSw.2; have zf := lt_of_heap hSw.2; have zz := lt_of_heap hSw.1; go_simp; first | done | (with_reducible rfl))
  try simp only [Act.put, List.setIfInBounds_toArray, List.set_cons_succ, List.set_cons_zero]
  refine tk (i := 15) (v := ?v15x47) (some 33) rfl rfl (Or.inl ⟨by kernel_rfl, ?h15x47⟩) ?r15x47
  case h15x47 => (intro w' hSw; obtain ⟨x0, x1, x2, x3, x4, x5⟩ := box6 hSw.1; obtain ⟨f0, f1, f2, _, _, _⟩ := box3 hSw.2; have zf := lt_of_heap hSw.2; have zz := lt_of_heap hSw.1; go_simp; first | done | (with_reducible rfl))
  try simp only [Act.put, List.setIfInBounds_toArray, List.set_cons_succ, List.set_cons_zero]
  refine tk (i := 16) (v := ?v16x48) (some 34) rfl rfl (Or.inl ⟨by kernel_rfl, ?h16x48⟩) ?r16x48
  case h16x48 => (intro w' hSw; obtain ⟨x0, x1, x2, x3, x4, x5⟩ := box6 hSw.1; obtain ⟨f0, f1, f2, _, _, _⟩ := box3 hSw.2; have zf := lt_of_heap hSw.2; have zz := lt_of_heap hSw.1; go_simp; first | done | (with_reducible rfl))
  try simp only [Act.put, List.setIfInBounds_toArray, List.set_cons_succ, List.set_cons_zero]
  refine wpAnyH_ready (rs := [17]) (by kernel_rfl) (by simp) ?_
  refine AllReadyH.cons rfl (fun K hK => ?_) AllReadyH.nil
  refine step_store_row none rfl rfl 148 (.tmp 4) (.tmp 18) rfl (w.heap.size + 1) (hdCells sz sl tg false sc ep) rfl rfl 148 (hdCells 0 0 0 false 0 0) hZ0 infoHd rfl (hd_one _ _ _ _ _ _) ?_
  refine hK.out _ _ (⟨(setRow_other _ _ _ _ hne.symm).trans hS.1, (setRow_other _ _ _ _ (by omega)).trans hS.2⟩) (fun hS => ?_)
  clear hK K
  try simp only [Act.put, List.setIfInBounds_toArray, List.set_cons_succ, List.set_cons_zero]
  refine tk (i := 18) (v := ?v18x49) (some 5) rfl rfl (Or.inl ⟨by kernel_rfl, ?h18x49⟩) ?r18x49
  case h18x49 => (intro w' hSw; obtain ⟨x0, x1, x2, x3, x4, x5⟩ := box6 hSw.1; obtain ⟨f0, f1, f2, _, _, _⟩ := box3 hSw.2; have zf := lt_of_heap hSw.2; have zz := lt_of_heap hSw.1; go_simp; first | done | (with_reducible rfl))
  try simp only [Act.put, List.setIfInBounds_toArray, List.set_cons_succ, List.set_cons_zero]
  refine wpAnyH_done (by kernel_rfl) ?_ _
  go_wp2_with fail
  refine bodyPost_ret (results_cell_row_tmp (fn := Tryz.f86) rfl _ _ (w.heap.size + 1) 148 (hdCells sz sl tg false sc ep) (0, 0) _ rfl (setRow_heap y0 _ _ _ _ (0, 0) hZ0) undHd rfl infoHd) rfl ?_
  exact ⟨rfl, below_setRow hB0 (by omega) _⟩
set_option maxRecDepth 100000 in
set_option maxHeartbeats 4000000 in
theorem rhead_bad (X q d : Nat) (s t i h : Int) (ws : List Int) (k : Nat) (sc ep at_ : Int) (w : World) (H : RAll w X q d s t i h ws) (ha : at_ = 8 * (k : Int)) (y : Int) (h1 : ws[k]? = some 1281) (h2 : ws[k + 1]? = some y) :
  Calls Tryz.prog 86 #[.pointer (some ⟨X, 0, none⟩), .agg #[.int .i64 sc, .int .i64 ep, .int .i64 at_]] w fun e w' => e = .returned (.tuple #[.agg (hdCells 0 0 0 false 0 0), .bool false]) ∧ Below w.heap.size w w' := by
 have HC := fun w' (H' : RAll w' X q d s t i h ws) => Lib.hid (rthingAt_bad q d ws k at_ y w' H'.arn h1 h2 ha)
 have HX := Lib.hid H
 clear H ha h1 h2
 go_enter Tryz.func86, Tryz.ntmps86
 go_upto_region 1 with fail
 refine two_rows' w _ _ _ _ ?_
 intro W hR hZ hB
 have HR := Lib.hid hR
 have HZ := Lib.hid hZ
 have HB := Lib.hid hB
 replace HX := Lib.hid (HX.out.below hB)
 clear hR hZ hB
 try simp only [Act.put]
 go_cut [6, 7] from 6 to 17 (fun v6 v7 wx => ∃ gZ, v6 = .pointer (some ⟨gZ, 0, none⟩) ∧ v7 = .int .i64 18 ∧ W.heap.size ≤ gZ ∧ wx.heap[gZ]? = some (.cells (hdCells 0 0 0 false 0 0) 148 (0, 0)) ∧ Below W.heap.size W wx)
 case first =>
  refine wp_region_held_drew (S := fun W' => RAll W' X q d s t i h ws ∧ W'.heap[w.heap.size]? = some (.cells #[.int .i64 sc, .int .i64 ep, .int .i64 at_] 70 (0, 0))) (by kernel_rfl) (show RAll W.drew X q d s t i h ws ∧ W.drew.heap[w.heap.size]? = _ from ⟨HX.out.drew, HR.out⟩) ?_
  intro hS
  have hB0 : Below W.heap.size W W.drew := by go_grown
  generalize W.drew = y0 at hS hB0 ⊢
  refine tk (i := 0) (v := ?v0x50) (some 9) rfl rfl (Or.inl ⟨by kernel_rfl, ?h0x50⟩) ?r0x50
  case h0x50 => (intro w' hSw; have x5 := hSw.1.cell; have zx := (rall_lt hSw.1).1; obtain ⟨f0, f1, f2, _, _, _⟩ := box3 hSw.2; have zf := lt_of_heap hSw.2; go_simp; first | done | (with_reducible rfl))
  try simp only [Act.put, List.setIfInBounds_toArray, List.set_cons_succ, List.set_cons_zero]
  refine tk (i := 1) (v := ?v1x51) (some 10) rfl rfl (Or.inl ⟨by kernel_rfl, ?h1x51⟩) ?r1x51
  case h1x51 => (intro w' hSw; have x5 := hSw.1.cell; have zx := (rall_lt hSw.1).1; obtain ⟨f0, f1, f2, _, _, _⟩ := box3 hSw.2; have zf := lt_of_heap hSw.2; go_simp; first | done | (with_reducible rfl))
  try simp only [Act.put, List.setIfInBounds_toArray, List.set_cons_succ, List.set_cons_zero]
  refine tk (i := 2) (v := ?v2x52) (some 11) rfl rfl (Or.inl ⟨by kernel_rfl, ?h2x52⟩) ?r2x52
  case h2x52 => (intro w' hSw; have x5 := hSw.1.cell; have zx := (rall_lt hSw.1).1; obtain ⟨f0, f1, f2, _, _, _⟩ := box3 hSw.2; have zf := lt_of_heap hSw.2; go_simp; first | done | (with_reducible rfl))
  try simp only [Act.put, List.setIfInBounds_toArray, List.set_cons_succ, List.set_cons_zero]
  refine tk (i := 3) (v := ?v3x53) (some 12) rfl rfl (Or.inl ⟨by kernel_rfl, ?h3x53⟩) ?r3x53
  case h3x53 => (intro w' hSw; have x5 := hSw.1.cell; have zx := (rall_lt hSw.1).1; obtain ⟨f0, f1, f2, _, _, _⟩ := box3 hSw.2; have zf := lt_of_heap hSw.2; go_simp; first | done | (with_reducible rfl))
  try simp only [Act.put, List.setIfInBounds_toArray, List.set_cons_succ, List.set_cons_zero]
  refine tk (i := 4) (v := ?v4x54) (some 13) rfl rfl (Or.inl ⟨by kernel_rfl, ?h4x54⟩) ?r4x54
  case h4x54 => (intro w' hSw; have x5 := hSw.1.cell; have zx := (rall_lt hSw.1).1; obtain ⟨f0, f1, f2, _, _, _⟩ := box3 hSw.2; have zf := lt_of_heap hSw.2; go_simp; first | done | (with_reducible rfl))
  try simp only [Act.put, List.setIfInBounds_toArray, List.set_cons_succ, List.set_cons_zero]
  refine tk (i := 5) (v := ?v5x55) (some 14) rfl rfl (Or.inl ⟨by kernel_rfl, ?h5x55⟩) ?r5x55
  case h5x55 => (intro w' hSw; have x5 := hSw.1.cell; have zx := (rall_lt hSw.1).1; obtain ⟨f0, f1, f2, _, _, _⟩ := box3 hSw.2; have zf := lt_of_heap hSw.2; go_simp; first | done | (with_reducible rfl))
  try simp only [Act.put, List.setIfInBounds_toArray, List.set_cons_succ, List.set_cons_zero]
  refine wpAnyH_ready (rs := [6, 10]) (by kernel_rfl) (by simp) ?_
  refine AllReadyH.cons rfl (fun K hK => ?_) (AllReadyH.cons rfl (fun K hK => ?_) AllReadyH.nil)
  ·skip
   go_simp
   refine (HC _ hS.1).out.mono ?_
   rintro e' yE ⟨rfl, hb⟩
   go_simp
   replace hB0 := below_only hB0 hb
   refine hK.out _ _ (⟨hS.1.below hb, row_below hS.2 hb⟩) (fun hS => ?_)
   clear hK K
   try simp only [Act.put, List.setIfInBounds_toArray, List.set_cons_succ, List.set_cons_zero]
   refine tk (i := 7) (v := ?v7x56) (some 8) rfl rfl (Or.inl ⟨by kernel_rfl, ?h7x56⟩) ?r7x56
   case h7x56 => (intro w' hSw; have x5 := hSw.1.cell; have zx := (rall_lt hSw.1).1; obtain ⟨f0, f1, f2, _, _, _⟩ := box3 hSw.2; have zf := lt_of_heap hSw.2; go_simp; first | done | (with_reducible rfl))
   try simp only [Act.put, List.setIfInBounds_toArray, List.set_cons_succ, List.set_cons_zero]
   refine tk (i := 8) (v := ?v8x57) (some 16) rfl rfl (Or.inl ⟨by kernel_rfl, ?h8x57⟩) ?r8x57
   case h8x57 => (intro w' hSw; have x5 := hSw.1.cell; have zx := (rall_lt hSw.1).1; obtain ⟨f0, f1, f2, _, _, _⟩ := box3 hSw.2; have zf := lt_of_heap hSw.2; go_simp; first | done | (with_reducible rfl))
   try simp only [Act.put, List.setIfInBounds_toArray, List.set_cons_succ, List.set_cons_zero]
   refine tk (i := 9) (v := ?v9x58) (some 17) rfl rfl (Or.inl ⟨by kernel_rfl, ?h9x58⟩) ?r9x58
   case h9x58 => (intro w' hSw; have x5 := hSw.1.cell; have zx := (rall_lt hSw.1).1; obtain ⟨f0, f1, f2, _, _, _⟩ := box3 hSw.2; have zf := lt_of_heap hSw.2; go_simp; first | done | (with_reducible rfl))
   try simp only [Act.put, List.setIfInBounds_toArray, List.set_cons_succ, List.set_cons_zero]
   refine wpAnyH_ready (rs := [10]) (by kernel_rfl) (by simp) ?_
   refine AllReadyH.cons rfl (fun K hK => ?_) AllReadyH.nil
   go_simp
   refine k_alloc (fun yZ hZ2 hb => ?_)
   have hgZ : W.heap.size ≤ yE.heap.size := hB0.size
   replace hB0 := below_only hB0 hb
   obtain ⟨gZ, HgZ⟩ : ∃ x, x = yE.heap.size := ⟨_, rfl⟩
   have hS1 := hS.1.below hb
   have hS2 := row_below hS.2 hb
   have hgg : w.heap.size ≠ gZ ∧ X ≠ gZ ∧ q ≠ gZ ∧ d ≠ gZ := by have := rall_lt hS.1; have := lt_of_heap hS.2; omega
   rw [← HgZ] at hZ2 hgZ ⊢
   clear HgZ hb
   refine hK.out _ _ (⟨hS1, hS2⟩) (fun hS => ?_)
   clear hK K
   try simp only [Act.put, List.setIfInBounds_toArray, List.set_cons_succ, List.set_cons_zero]
   clear hS1 hS2
   refine wpAnyH_ready (rs := [11]) (by kernel_rfl) (by simp) ?_
   refine AllReadyH.cons rfl (fun K hK => ?_) AllReadyH.nil
   refine step_store_row none rfl rfl 148 (.tmp 6) (.tmp 16) rfl gZ (hdCells 0 0 0 false 0 0) rfl rfl 148 (hdCells 0 0 0 false 0 0) hZ2 infoHd rfl (hd_one _ _ _ _ _ _) ?_
   have hks := (Keep.refl [gZ] yZ).setRow (g := gZ) (.inl (by simp)) (hdCells 0 0 0 false 0 0)
   refine hK.out _ _ (⟨hS.1.kept hks (by simpa using hgg.2.1) (by simpa using hgg.2.2.1) (by simpa using hgg.2.2.2), hks.row hS.2 (by simpa using hgg.1)⟩) (fun hS => ?_)
   clear hK K
   try simp only [Act.put, List.setIfInBounds_toArray, List.set_cons_succ, List.set_cons_zero]
   refine tk (i := 12) (v := ?v12x59) (some 7) rfl rfl (Or.inl ⟨by kernel_rfl, ?h12x59⟩) ?r12x59
   case h12x59 => (intro w' hSw; have x5 := hSw.1.cell; have zx := (rall_lt hSw.1).1; obtain ⟨f0, f1, f2, _, _, _⟩ := box3 hSw.2; have zf := lt_of_heap hSw.2; go_simp; first | done | (with_reducible rfl))
   try simp only [Act.put, List.setIfInBounds_toArray, List.set_cons_succ, List.set_cons_zero]
   refine wpAnyH_done (by kernel_rfl) ?_ _
   go_wp2_with fail
   go_meet
   exact ⟨gZ, rfl, rfl, hgZ, setRow_heap _ _ _ _ _ _ hZ2, below_setRow hB0 hgZ _⟩
  ·skip
   go_simp
   refine k_alloc (fun yZ hZ2 hb => ?_)
   have hgZ : W.heap.size ≤ y0.heap.size := hB0.size
   replace hB0 := below_only hB0 hb
   obtain ⟨gZ, HgZ⟩ : ∃ x, x = y0.heap.size := ⟨_, rfl⟩
   have hS1 := hS.1.below hb
   have hS2 := row_below hS.2 hb
   have hgg : w.heap.size ≠ gZ ∧ X ≠ gZ ∧ q ≠ gZ ∧ d ≠ gZ := by have := rall_lt hS.1; have := lt_of_heap hS.2; omega
   rw [← HgZ] at hZ2 hgZ ⊢
   clear HgZ hb
   refine hK.out _ _ (⟨hS1, hS2⟩) (fun hS => ?_)
   clear hK K
   try simp only [Act.put, List.setIfInBounds_toArray, List.set_cons_succ, List.set_cons_zero]
   clear hS1 hS2
   refine wpAnyH_ready (rs := [6]) (by kernel_rfl) (by simp) ?_
   refine AllReadyH.cons rfl (fun K hK => ?_) AllReadyH.nil
   go_simp
   refine (HC _ hS.1).out.mono ?_
   rintro e' yE ⟨rfl, hb⟩
   go_simp
   replace hB0 := below_only hB0 hb
   replace hZ2 := row_below hZ2 hb
   refine hK.out _ _ (⟨hS.1.below hb, row_below hS.2 hb⟩) (fun hS => ?_)
   clear hK K
   try simp only [Act.put, List.setIfInBounds_toArray, List.set_cons_succ, List.set_cons_zero]
   refine tk (i := 7) (v := ?v7x60) (some 8) rfl rfl (Or.inl ⟨by kernel_rfl, ?h7x60⟩) ?r7x60
   case h7x60 => (intro w' hSw; have x5 := hSw.1.cell; have zx := (rall_lt hSw.1).1; obtain ⟨f0, f1, f2, _, _, _⟩ := box3 hSw.2; have zf := lt_of_heap hSw.2; go_simp; first | done | (with_reducible rfl))
   try simp only [Act.put, List.setIfInBounds_toArray, List.set_cons_succ, List.set_cons_zero]
   refine tk (i := 8) (v := ?v8x61) (some 16) rfl rfl (Or.inl ⟨by kernel_rfl, ?h8x61⟩) ?r8x61
   case h8x61 => (intro w' hSw; have x5 := hSw.1.cell; have zx := (rall_lt hSw.1).1; obtain ⟨f0, f1, f2, _, _, _⟩ := box3 hSw.2; have zf := lt_of_heap hSw.2; go_simp; first | done | (with_reducible rfl))
   try simp only [Act.put, List.setIfInBounds_toArray, List.set_cons_succ, List.set_cons_zero]
   refine tk (i := 9) (v := ?v9x62) (some 17) rfl rfl (Or.inl ⟨by kernel_rfl, ?h9x62⟩) ?r9x62
   case h9x62 => (intro w' hSw; have x5 := hSw.1.cell; have zx := (rall_lt hSw.1).1; obtain ⟨f0, f1, f2, _, _, _⟩ := box3 hSw.2; have zf := lt_of_heap hSw.2; go_simp; first | done | (with_reducible rfl))
   try simp only [Act.put, List.setIfInBounds_toArray, List.set_cons_succ, List.set_cons_zero]
   refine wpAnyH_ready (rs := [11]) (by kernel_rfl) (by simp) ?_
   refine AllReadyH.cons rfl (fun K hK => ?_) AllReadyH.nil
   refine step_store_row none rfl rfl 148 (.tmp 6) (.tmp 16) rfl gZ (hdCells 0 0 0 false 0 0) rfl rfl 148 (hdCells 0 0 0 false 0 0) hZ2 infoHd rfl (hd_one _ _ _ _ _ _) ?_
   have hks := (Keep.refl [gZ] yE).setRow (g := gZ) (.inl (by simp)) (hdCells 0 0 0 false 0 0)
   refine hK.out _ _ (⟨hS.1.kept hks (by simpa using hgg.2.1) (by simpa using hgg.2.2.1) (by simpa using hgg.2.2.2), hks.row hS.2 (by simpa using hgg.1)⟩) (fun hS => ?_)
   clear hK K
   try simp only [Act.put, List.setIfInBounds_toArray, List.set_cons_succ, List.set_cons_zero]
   refine tk (i := 12) (v := ?v12x63) (some 7) rfl rfl (Or.inl ⟨by kernel_rfl, ?h12x63⟩) ?r12x63
   case h12x63 => (intro w' hSw; have x5 := hSw.1.cell; have zx := (rall_lt hSw.1).1; obtain ⟨f0, f1, f2, _, _, _⟩ := box3 hSw.2; have zf := lt_of_heap hSw.2; go_simp; first | done | (with_reducible rfl))
   try simp only [Act.put, List.setIfInBounds_toArray, List.set_cons_succ, List.set_cons_zero]
   refine wpAnyH_done (by kernel_rfl) ?_ _
   go_wp2_with fail
   go_meet
   exact ⟨gZ, rfl, rfl, hgZ, setRow_heap _ _ _ _ _ _ hZ2, below_setRow hB0 hgZ _⟩
 case rest =>
  obtain ⟨gZ, rfl, rfl, hgZ, hR, hb⟩ := hcut
  obtain ⟨w5, hwx⟩ : ∃ x, x = wc := ⟨_, rfl⟩
  subst hwx
  have hgl := lt_of_heap HZ.out
  have HR5 := Lib.hid (row_below HR.out hb)
  have HZ5 := Lib.hid (row_below HZ.out hb)
  have HB5 := Lib.hid (below_only HB.out hb)
  have HD := Lib.hid hR
  have MZ : Hid (w.heap.size + 1 ≠ gZ) := Lib.hid (by omega)
  clear hb hR hgZ hgl HX HR HZ HB
  go_upto_region 2 with fail
  try simp only [Act.put]
  refine wp_region_held_drew (S := fun W' => W'.heap[gZ]? = some (.cells (hdCells 0 0 0 false 0 0) 148 (0, 0)) ∧ W'.heap[w.heap.size]? = some (.cells #[.int .i64 sc, .int .i64 ep, .int .i64 at_] 70 (0, 0))) (by kernel_rfl) (show w5.drew.heap[gZ]? = _ ∧ w5.drew.heap[w.heap.size]? = _ from ⟨HD.out, HR5.out⟩) ?_
  intro hS
  have hZ0 : w5.drew.heap[w.heap.size + 1]? = _ := HZ5.out
  have hB0 : Below w.heap.size w w5.drew := below_drewN HB5.out 1
  have hne := MZ.out
  generalize w5.drew = y0 at hS hZ0 hB0 ⊢
  clear HD HR5 HZ5 HB5
  refine tk (i := 0) (v := .agg (hdCells 0 0 0 false 0 0)) (some 18) rfl rfl (yieldsIf_load_row (by kernel_rfl) 148 (.tmp 6) rfl gZ rfl (hdCells 0 0 0 false 0 0) (fun W' hW' => hW'.1) undHd rfl infoHd) ?_
  try simp only [Act.put, List.setIfInBounds_toArray, List.set_cons_succ, List.set_cons_zero]
  refine tk (i := 1) (v := ?v1x64) (some 19) rfl rfl (Or.inl ⟨by kernel_rfl, ?h1x64⟩) ?r1x64
  case h1x64 => (intro w' hSw; obtain ⟨x0, x1, x2, x3, x4, x5⟩ := box6 hSw.1; obtain ⟨f0, f1, f2, _, _, _⟩ := box3 hSw.2; have zf := lt_of_heap hSw.2; have zz := lt_of_heap hSw.1; go_simp; first | done | (with_reducible rfl))
  try simp only [Act.put, List.setIfInBounds_toArray, List.set_cons_succ, List.set_cons_zero]
  refine tk (i := 2) (v := ?v2x65) (some 20) rfl rfl (Or.inl ⟨by kernel_rfl, ?h2x65⟩) ?r2x65
  case h2x65 => (intro w' hSw; obtain ⟨x0, x1, x2, x3, x4, x5⟩ := box6 hSw.1; obtain ⟨f0, f1, f2, _, _, _⟩ := box3 hSw.2; have zf := lt_of_heap hSw.2; have zz := lt_of_heap hSw.1; go_simp; first | done | (with_reducible rfl))
  try simp only [Act.put, List.setIfInBounds_toArray, List.set_cons_succ, List.set_cons_zero]
  refine tk (i := 3) (v := ?v3x66) (some 21) rfl rfl (Or.inl ⟨by kernel_rfl, ?h3x66⟩) ?r3x66
  case h3x66 => (intro w' hSw; obtain ⟨x0, x1, x2, x3, x4, x5⟩ := box6 hSw.1; obtain ⟨f0, f1, f2, _, _, _⟩ := box3 hSw.2; have zf := lt_of_heap hSw.2; have zz := lt_of_heap hSw.1; go_simp; first | done | (with_reducible rfl))
  try simp only [Act.put, List.setIfInBounds_toArray, List.set_cons_succ, List.set_cons_zero]
  refine tk (i := 4) (v := undef) (some 22) rfl rfl (Or.inr ⟨by kernel_rfl, rfl⟩) ?_
  try simp only [Act.put, List.setIfInBounds_toArray, List.set_cons_succ, List.set_cons_zero]
  refine tk (i := 5) (v := undef) (some 23) rfl rfl (Or.inr ⟨by kernel_rfl, rfl⟩) ?_
  try simp only [Act.put, List.setIfInBounds_toArray, List.set_cons_succ, List.set_cons_zero]
  refine tk (i := 6) (v := undef) (some 24) rfl rfl (Or.inr ⟨by kernel_rfl, rfl⟩) ?_
  try simp only [Act.put, List.setIfInBounds_toArray, List.set_cons_succ, List.set_cons_zero]
  refine tk (i := 7) (v := undef) (some 25) rfl rfl (Or.inr ⟨by kernel_rfl, rfl⟩) ?_
  try simp only [Act.put, List.setIfInBounds_toArray, List.set_cons_succ, List.set_cons_zero]
  refine tk (i := 8) (v := undef) (some 26) rfl rfl (Or.inr ⟨by kernel_rfl, rfl⟩) ?_
  try simp only [Act.put, List.setIfInBounds_toArray, List.set_cons_succ, List.set_cons_zero]
  refine tk (i := 9) (v := ?v9x67) (some 27) rfl rfl (Or.inl ⟨by kernel_rfl, ?h9x67⟩) ?r9x67
  case h9x67 => (intro w' hSw; obtain ⟨x0, x1, x2, x3, x4, x5⟩ := box6 hSw.1; obtain ⟨f0, f1, f2, _, _, _⟩ := box3 hSw.2; have zf := lt_of_heap hSw.2; have zz := lt_of_heap hSw.1; go_simp; first | done | (with_reducible rfl))
  try simp only [Act.put, List.setIfInBounds_toArray, List.set_cons_succ, List.set_cons_zero]
  refine tk (i := 10) (v := ?v10x68) (some 28) rfl rfl (Or.inl ⟨by kernel_rfl, ?h10x68⟩) ?r10x68
  case h10x68 => (intro w' hSw; obtain ⟨x0, x1, x2, x3, x4, x5⟩ := box6 hSw.1; obtain ⟨f0, f1, f2, _, _, _⟩ := box3 hSw.2; have zf := lt_of_heap hSw.2; have zz := lt_of_heap hSw.1; go_simp; first | done | (with_reducible rfl))
  try simp only [Act.put, List.setIfInBounds_toArray, List.set_cons_succ, List.set_cons_zero]
  refine tk (i := 11) (v := undef) (some 29) rfl rfl (Or.inr ⟨by kernel_rfl, rfl⟩) ?_
  try simp only [Act.put, List.setIfInBounds_toArray, List.set_cons_succ, List.set_cons_zero]
  refine tk (i := 12) (v := undef) (some 30) rfl rfl (Or.inr ⟨by kernel_rfl, rfl⟩) ?_
  try simp only [Act.put, List.setIfInBounds_toArray, List.set_cons_succ, List.set_cons_zero]
  refine tk (i := 13) (v := undef) (some 31) rfl rfl (Or.inr ⟨by kernel_rfl, rfl⟩) ?_
  try simp only [Act.put, List.setIfInBounds_toArray, List.set_cons_succ, List.set_cons_zero]
  refine tk (i := 14) (v := undef) (some 32) rfl rfl (Or.inr ⟨by kernel_rfl, rfl⟩) ?_
  try simp only [Act.put, List.setIfInBounds_toArray, List.set_cons_succ, List.set_cons_zero]
  refine tk (i := 15) (v := undef) (some 33) rfl rfl (Or.inr ⟨by kernel_rfl, rfl⟩) ?_
  try simp only [Act.put, List.setIfInBounds_toArray, List.set_cons_succ, List.set_cons_zero]
  refine tk (i := 16) (v := ?v16x69) (some 34) rfl rfl (Or.inl ⟨by kernel_rfl, ?h16x69⟩) ?r16x69
  case h16x69 => (intro w' hSw; obtain ⟨x0, x1, x2, x3, x4, x5⟩ := box6 hSw.1; obtain ⟨f0, f1, f2, _, _, _⟩ := box3 hSw.2; have zf := lt_of_heap hSw.2; have zz := lt_of_heap hSw.1; go_simp; first | done | (with_reducible rfl))
  try simp only [Act.put, List.setIfInBounds_toArray, List.set_cons_succ, List.set_cons_zero]
  refine wpAnyH_ready (rs := [17]) (by kernel_rfl) (by simp) ?_
  refine AllReadyH.cons rfl (fun K hK => ?_) AllReadyH.nil
  refine step_store_row none rfl rfl 148 (.tmp 4) (.tmp 18) rfl (w.heap.size + 1) (hdCells 0 0 0 false 0 0) rfl rfl 148 (hdCells 0 0 0 false 0 0) hZ0 infoHd rfl (hd_one _ _ _ _ _ _) ?_
  refine hK.out _ _ (⟨(setRow_other _ _ _ _ hne.symm).trans hS.1, (setRow_other _ _ _ _ (by omega)).trans hS.2⟩) (fun hS => ?_)
  clear hK K
  try simp only [Act.put, List.setIfInBounds_toArray, List.set_cons_succ, List.set_cons_zero]
  refine tk (i := 18) (v := ?v18x70) (some 5) rfl rfl (Or.inl ⟨by kernel_rfl, ?h18x70⟩) ?r18x70
  case h18x70 => (intro w' hSw; obtain ⟨x0, x1, x2, x3, x4, x5⟩ := box6 hSw.1; obtain ⟨f0, f1, f2, _, _, _⟩ := box3 hSw.2; have zf := lt_of_heap hSw.2; have zz := lt_of_heap hSw.1; go_simp; first | done | (with_reducible rfl))
  try simp only [Act.put, List.setIfInBounds_toArray, List.set_cons_succ, List.set_cons_zero]
  refine wpAnyH_done (by kernel_rfl) ?_ _
  go_wp2_with fail
  refine bodyPost_ret (results_cell_row_tmp (fn := Tryz.f86) rfl _ _ (w.heap.size + 1) 148 (hdCells 0 0 0 false 0 0) (0, 0) _ rfl (setRow_heap y0 _ _ _ _ (0, 0) hZ0) undHd rfl infoHd) rfl ?_
  exact ⟨rfl, below_setRow hB0 (by omega) _⟩
end Go.Proofs.YtnimaajnlkbdaaaGreat

namespace Go.Proofs.YtnimaajnlkbdaaaGreat
open Go.RowKit
set_option linter.unusedVariables false
set_option linter.unusedSimpArgs false

theorem infoRef3 : (Tryz.prog.info? 70).map (·.size) = some 3 := by kernel_rfl
theorem rtell16 (r : Rn) (code n : Int) (w : World) (hs : r.said = noS) :
  Calls Tryz.prog 40 #[r.v, .int .i64 code, .int .i64 n] w fun e w' => e = .returned (toldR r code n noS).v ∧ Below w.heap.size w w' := by
 have h := rtell_any r code n w
 rw [hs] at h
 exact h
theorem ret_at16 (R : Rn) (x : Int) : R.arr.setIfInBounds 14 (.int .i64 x) = ({ R with at_ := x } : Rn).arr := by simp
set_option maxRecDepth 100000 in
set_option maxHeartbeats 4000000 in
theorem rhand_bad (X q d : Nat) (s t i h : Int) (ws : List Int) (k : Nat) (r : Rn) (sc ep at_ : Int) (w : World) (H : RAll w X q d s t i h ws) (hs : r.said = noS) (ha : at_ = 8 * (k : Int)) (y : Int) (h1 : ws[k]? = some 1281) (h2 : ws[k + 1]? = some y) :
  Calls Tryz.prog 42 #[.pointer (some ⟨X, 0, none⟩), r.v, .agg #[.int .i64 sc, .int .i64 ep, .int .i64 at_]] w fun e w' => e = .returned (toldR r 18 0 noS).v ∧ Below w.heap.size w w' := by
 have HC := fun w' (H' : RAll w' X q d s t i h ws) => Lib.hid (rhead_bad X q d s t i h ws k sc ep at_ w' H' ha y h1 h2)
 have HX := Lib.hid H
 have HXl := Lib.hid (rall_lt H)
 have HSd := Lib.hid hs
 clear H hs ha h1 h2
 go_enter Tryz.func42, Tryz.ntmps42
 go_upto_region 1 with fail
 refine three_rows w _ _ _ _ _ _ ?_
 intro w1 h1 h2 h3 hb
 have HR := Lib.hid h1
 have HF := Lib.hid h2
 have HZ := Lib.hid h3
 have HB := Lib.hid hb
 replace HX := Lib.hid (HX.out.below hb)
 clear h1 h2 h3 hb
 obtain ⟨f0, f1, f2, _, _, _⟩ := box3 HF.out
 have zf := lt_of_heap HF.out
 go_wp2_with fail
 clear f0 f1 f2 zf
 refine (HC _ HX.out).out.mono ?_
 rintro e' w2 ⟨rfl, hb⟩
 replace HR := Lib.hid (row_below HR.out hb)
 replace HF := Lib.hid (row_below HF.out hb)
 replace HZ := Lib.hid (row_below HZ.out hb)
 replace HB := Lib.hid (below_only HB.out hb)
 replace HX := Lib.hid (HX.out.below hb)
 clear hb HC
 go_upto_region 2 with fail
 refine one_row w2 _ _ ?_
 intro w3 hr hb
 replace HR := Lib.hid (row_below HR.out hb)
 replace HF := Lib.hid (row_below HF.out hb)
 replace HZ := Lib.hid (row_below HZ.out hb)
 replace HB := Lib.hid (below_only HB.out hb)
 replace HX := Lib.hid (HX.out.below hb)
 obtain ⟨gh, hgh⟩ : ∃ x, x = w2.heap.size := ⟨_, rfl⟩
 rw [← hgh] at hr ⊢
 have HD := Lib.hid hr
 clear hgh hr hb
 go_wp2_with (refine wpList_load_row rfl 43 (.tmp 4) rfl w.heap.size rfl 43 r.arr (0, 0) _ HR.out undRun rfl infoRun ?_)
 refine (rtell_any r 18 0 _).mono ?_
 rintro e' w4 ⟨rfl, hb⟩
 rw [HSd.out]
 replace HR := Lib.hid (row_below HR.out hb)
 replace HF := Lib.hid (row_below HF.out hb)
 replace HZ := Lib.hid (row_below HZ.out hb)
 replace HB := Lib.hid (below_only HB.out hb)
 replace HX := Lib.hid (HX.out.below hb)
 clear hb
 go_wp2_with (refine wpList_store_row rfl 43 (.tmp 6) (.tmp 20) rfl (w.heap.size + 1 + 1) (toldR r 18 0 noS).arr rfl rfl 43 ZRun HZ.out infoRun rfl (Rn.one _) ?_)
 refine bodyPost_ret (results_cell_row (fn := Tryz.f42) rfl _ _ (w.heap.size + 1 + 1) 43 (toldR r 18 0 noS).arr (0, 0) _ rfl (setRow_heap w4 _ _ _ _ (0, 0) HZ.out) undRun rfl infoRun) rfl ?_
 exact ⟨rfl, below_setRow HB.out (by omega) _⟩

set_option maxRecDepth 100000 in
set_option maxHeartbeats 4000000 in
theorem rhand_slot (X q d : Nat) (s t i h : Int) (ws : List Int) (k : Nat) (r : Rn) (sc ep at_ : Int) (w : World) (H : RAll w X q d s t i h ws) (hs : r.said = noS) (ha : at_ = 8 * (k : Int)) (sz sl tg : Int) (hH : HeadOk sz sl tg sc ep) (h1 : ws[k]? = some (head1 sz sl tg)) (h2 : ws[k + 1]? = some (head2 sc ep)) (hBn : ¬ (0 ≤ r.c.b ∧ r.c.b < sl)) :
  Calls Tryz.prog 42 #[.pointer (some ⟨X, 0, none⟩), r.v, .agg #[.int .i64 sc, .int .i64 ep, .int .i64 at_]] w fun e w' => e = .returned (toldR r 21 0 noS).v ∧ Below w.heap.size w w' := by
 have HC := fun w' (H' : RAll w' X q d s t i h ws) => Lib.hid (rhead_ok X q d s t i h ws k sc ep at_ w' H' ha sz sl tg hH h1 h2)
 have HX := Lib.hid H
 have HXl := Lib.hid (rall_lt H)
 have HSd := Lib.hid hs
 have HBn := Lib.hid hBn
 clear hBn hH
 clear H hs ha h1 h2
 go_enter Tryz.func42, Tryz.ntmps42
 go_upto_region 1 with fail
 refine three_rows w _ _ _ _ _ _ ?_
 intro w1 h1 h2 h3 hb
 have HR := Lib.hid h1
 have HF := Lib.hid h2
 have HZ := Lib.hid h3
 have HB := Lib.hid hb
 replace HX := Lib.hid (HX.out.below hb)
 clear h1 h2 h3 hb
 obtain ⟨f0, f1, f2, _, _, _⟩ := box3 HF.out
 have zf := lt_of_heap HF.out
 go_wp2_with fail
 clear f0 f1 f2 zf
 refine (HC _ HX.out).out.mono ?_
 rintro e' w2 ⟨rfl, hb⟩
 replace HR := Lib.hid (row_below HR.out hb)
 replace HF := Lib.hid (row_below HF.out hb)
 replace HZ := Lib.hid (row_below HZ.out hb)
 replace HB := Lib.hid (below_only HB.out hb)
 replace HX := Lib.hid (HX.out.below hb)
 clear hb HC
 go_upto_region 2 with fail
 refine one_row w2 _ _ ?_
 intro w3 hr hb
 replace HR := Lib.hid (row_below HR.out hb)
 replace HF := Lib.hid (row_below HF.out hb)
 replace HZ := Lib.hid (row_below HZ.out hb)
 replace HB := Lib.hid (below_only HB.out hb)
 replace HX := Lib.hid (HX.out.below hb)
 obtain ⟨gh, hgh⟩ : ∃ x, x = w2.heap.size := ⟨_, rfl⟩
 rw [← hgh] at hr ⊢
 have HD := Lib.hid hr
 clear hgh hr hb
 obtain ⟨x0, x1, x2, x3, x4, x5⟩ := box6 HD.out
 have zd := lt_of_heap HD.out
 have b10 : w3.cell? ⟨w.heap.size, 5, none⟩ = some (.int .i64 r.c.b) := by rw [row_cell HR.out]; rfl
 have zr := lt_of_heap HR.out
 by_cases hb0 : r.c.b < 0
 ·have b1 : decide (r.c.b < 0) = true := decide_eq_true hb0
  go_wp2_with (refine wpList_load_row rfl 43 (.tmp 4) rfl w.heap.size rfl 43 r.arr (0, 0) _ HR.out undRun rfl infoRun ?_)
  refine (rtell_any r 21 0 _).mono ?_
  rintro e' w4 ⟨rfl, hb⟩
  rw [HSd.out]
  replace HR := Lib.hid (row_below HR.out hb)
  replace HF := Lib.hid (row_below HF.out hb)
  replace HZ := Lib.hid (row_below HZ.out hb)
  replace HB := Lib.hid (below_only HB.out hb)
  replace HX := Lib.hid (HX.out.below hb)
  clear hb
  go_wp2_with (refine wpList_store_row rfl 43 (.tmp 6) (.tmp 34) rfl (w.heap.size + 1 + 1) (toldR r 21 0 noS).arr rfl rfl 43 ZRun HZ.out infoRun rfl (Rn.one _) ?_)
  refine bodyPost_ret (results_cell_row (fn := Tryz.f42) rfl _ _ (w.heap.size + 1 + 1) 43 (toldR r 21 0 noS).arr (0, 0) _ rfl (setRow_heap w4 _ _ _ _ (0, 0) HZ.out) undRun rfl infoRun) rfl ?_
  exact ⟨rfl, below_setRow HB.out (by omega) _⟩
 ·have b1 : decide (r.c.b < 0) = false := decide_eq_false hb0
  have b2 : decide (sl ≤ r.c.b) = true := decide_eq_true (by have := HBn.out; omega)
  have b3 : sl ≤ r.c.b := by have := HBn.out; omega
  go_wp2_with (refine wpList_load_row rfl 43 (.tmp 4) rfl w.heap.size rfl 43 r.arr (0, 0) _ HR.out undRun rfl infoRun ?_)
  refine (rtell_any r 21 0 _).mono ?_
  rintro e' w4 ⟨rfl, hb⟩
  rw [HSd.out]
  replace HR := Lib.hid (row_below HR.out hb)
  replace HF := Lib.hid (row_below HF.out hb)
  replace HZ := Lib.hid (row_below HZ.out hb)
  replace HB := Lib.hid (below_only HB.out hb)
  replace HX := Lib.hid (HX.out.below hb)
  clear hb
  go_wp2_with (refine wpList_store_row rfl 43 (.tmp 6) (.tmp 34) rfl (w.heap.size + 1 + 1) (toldR r 21 0 noS).arr rfl rfl 43 ZRun HZ.out infoRun rfl (Rn.one _) ?_)
  refine bodyPost_ret (results_cell_row (fn := Tryz.f42) rfl _ _ (w.heap.size + 1 + 1) 43 (toldR r 21 0 noS).arr (0, 0) _ rfl (setRow_heap w4 _ _ _ _ (0, 0) HZ.out) undRun rfl infoRun) rfl ?_
  exact ⟨rfl, below_setRow HB.out (by omega) _⟩

set_option maxRecDepth 100000 in
set_option maxHeartbeats 4000000 in
theorem rhand_ok (X q d : Nat) (s t i h : Int) (ws : List Int) (k : Nat) (r : Rn) (sc ep at_ : Int) (w : World) (H : RAll w X q d s t i h ws) (hs : r.said = noS) (ha : at_ = 8 * (k : Int)) (sz sl tg : Int) (hH : HeadOk sz sl tg sc ep) (h1 : ws[k]? = some (head1 sz sl tg)) (h2 : ws[k + 1]? = some (head2 sc ep)) (hBb : 0 ≤ r.c.b ∧ r.c.b < sl) (hk8 : 8 * (k : Int) ≤ 65536) (l : List Ent) (hl : l.length ≤ 1048576) (hn : r.chain.n = l.length) (hE : Ents w r.chain.a l) (hv0 : 0 ≤ r.val ∧ r.val ≤ 18446744073709551615) :
  Calls Tryz.prog 42 #[.pointer (some ⟨X, 0, none⟩), r.v, .agg #[.int .i64 sc, .int .i64 ep, .int .i64 at_]] w fun e w' => e = .returned (if r.c.op = 8 then ({ r with at_ := at_ + 16 + 8 * r.c.b, pc := 9 } : Rn) else if r.val = 0 then { r with at_ := at_ + 16 + 8 * r.c.b, pc := 10 } else if (checkR s l r.val).2 = 0 then { r with at_ := at_ + 16 + 8 * r.c.b, pc := 7 } else toldR { r with at_ := at_ + 16 + 8 * r.c.b } (checkR s l r.val).2 0 noS).v ∧ Below w.heap.size w w' := by
 have HC := fun w' (H' : RAll w' X q d s t i h ws) => Lib.hid (rhead_ok X q d s t i h ws k sc ep at_ w' H' ha sz sl tg hH h1 h2)
 have HX := Lib.hid H
 have HXl := Lib.hid (rall_lt H)
 have HSd := Lib.hid hs
 have HCk : ∀ w', Ents w' r.chain.a l → Hid (Calls Tryz.prog 87 #[.agg #[.int .i64 s, .int .i64 t, .int .i64 i, .int .i64 h], .slice r.chain.a r.chain.n r.chain.c, .int .u64 r.val] w' fun e w'' => e = .returned (.tuple #[.agg #[.int .i64 (checkR s l r.val).1.1, .int .i64 (checkR s l r.val).1.2.1, .int .i64 (checkR s l r.val).1.2.2], .int .i64 (checkR s l r.val).2]) ∧ Below w'.heap.size w' w'') := by
  intro w' hE'
  rw [hn]
  exact Lib.hid (rcheck_any ⟨s, t, i, h⟩ r.chain.a r.chain.c l r.val w' hl hE' hv0.1 hv0.2)
 obtain ⟨ck, Hck⟩ : ∃ x, x = checkR s l r.val := ⟨_, rfl⟩
 simp only [← Hck] at HCk ⊢
 obtain ⟨⟨ck1, ck2, ck3⟩, ckc⟩ := ck
 try dsimp only at HCk ⊢
 have HE := Lib.hid hE
 have HG : Hid (∀ a, 0 < l.length → r.chain.a = some a → a.block ≠ w.heap.size) := Lib.hid (fun a h0 h2 e3 => by
  obtain ⟨bb, off, q1, q2, _⟩ := hE.at_ h0
  rw [h2] at q1
  injection q1 with q1
  rw [q1] at e3
  simp at e3
  omega)
 obtain ⟨A, HA⟩ : ∃ A, Hid (at_ + 16 + 8 * r.c.b = A) := ⟨_, Lib.hid rfl⟩
 have HBd : Hid (0 ≤ r.c.b ∧ r.c.b < sl ∧ sl ≤ 6 ∧ 0 ≤ at_ ∧ at_ ≤ 65536) := Lib.hid (by have := hH.hsl; omega)
 rw [HA.out]
 obtain ⟨Z, HZq⟩ : ∃ Z : Rn, Hid ((if r.c.op = 8 then ({ r with at_ := A, pc := 9 } : Rn) else if r.val = 0 then { r with at_ := A, pc := 10 } else if ckc = 0 then { r with at_ := A, pc := 7 } else toldR { r with at_ := A } ckc 0 noS) = Z) := ⟨_, Lib.hid rfl⟩
 rw [HZq.out]
 clear hBb hk8 hl hn hE hv0 Hck hH
 clear H hs ha h1 h2
 go_enter Tryz.func42, Tryz.ntmps42
 go_upto_region 1 with fail
 refine three_rows w _ _ _ _ _ _ ?_
 intro w1 h1 h2 h3 hb
 have HR := Lib.hid h1
 have HF := Lib.hid h2
 have HZ := Lib.hid h3
 have HB := Lib.hid hb
 replace HX := Lib.hid (HX.out.below hb)
 replace HE := Lib.hid (Ents.below HE.out hb)
 clear h1 h2 h3 hb
 obtain ⟨f0, f1, f2, _, _, _⟩ := box3 HF.out
 have zf := lt_of_heap HF.out
 go_wp2_with fail
 clear f0 f1 f2 zf
 refine (HC _ HX.out).out.mono ?_
 rintro e' w2 ⟨rfl, hb⟩
 replace HR := Lib.hid (row_below HR.out hb)
 replace HF := Lib.hid (row_below HF.out hb)
 replace HZ := Lib.hid (row_below HZ.out hb)
 replace HB := Lib.hid (below_only HB.out hb)
 replace HX := Lib.hid (HX.out.below hb)
 replace HE := Lib.hid (Ents.below HE.out hb)
 clear hb HC
 go_upto_region 2 with fail
 refine one_row w2 _ _ ?_
 intro w3 hr hb
 replace HR := Lib.hid (row_below HR.out hb)
 replace HF := Lib.hid (row_below HF.out hb)
 replace HZ := Lib.hid (row_below HZ.out hb)
 replace HB := Lib.hid (below_only HB.out hb)
 replace HX := Lib.hid (HX.out.below hb)
 replace HE := Lib.hid (Ents.below HE.out hb)
 obtain ⟨gh, hgh⟩ : ∃ x, x = w2.heap.size := ⟨_, rfl⟩
 rw [← hgh] at hr ⊢
 have HD := Lib.hid hr
 clear hgh hr hb
 obtain ⟨x0, x1, x2, x3, x4, x5⟩ := box6 HD.out
 have zd := lt_of_heap HD.out
 have b10 : w3.cell? ⟨w.heap.size, 5, none⟩ = some (.int .i64 r.c.b) := by rw [row_cell HR.out]; rfl
 have zr := lt_of_heap HR.out
 have b1 : decide (r.c.b < 0) = false := decide_eq_false (by have := HBd.out; omega)
 have b2 : decide (sl ≤ r.c.b) = false := decide_eq_false (by have := HBd.out; omega)
 go_upto_region 6 with fail
 clear x0 x1 x2 x3 x4 x5 zd b1 b2
 obtain ⟨f0, f1, f2, _, _, _⟩ := box3 HF.out
 have zf := lt_of_heap HF.out
 have hw1 : IntKind.i64.wrap (at_ + 16) = at_ + 16 := IntWalk.i64_in _ (by have := HBd.out; omega)
 have hw2 : IntKind.i64.wrap (8 * r.c.b) = 8 * r.c.b := IntWalk.i64_in _ (by have := HBd.out; omega)
 have hw3 : IntKind.i64.wrap (at_ + 16 + 8 * r.c.b) = A := by rw [← HA.out]; exact IntWalk.i64_in _ (by have := HBd.out; omega)
 have f14 : w3.frozen? ⟨w.heap.size, 14, none⟩ = false := row_frozen HR.out 14
 have c14 : w3.cell? ⟨w.heap.size, 14, none⟩ = some (.int .i64 r.at_) := by rw [row_cell HR.out]; rfl
 go_upto_region 7 with fail
 clear f0 f1 f2 zf hw1 hw2 hw3 f14 c14 b10 zr
 refine set_oneR w3 w.heap.size 14 (.int .i64 A) _ _ HR.out ?_
 intro w4 hr hk
 rw [ret_at16] at hr
 replace HZ := Lib.hid (hk.row HZ.out (by simp only [List.mem_singleton]; omega))
 replace HF := Lib.hid (hk.row HF.out (by simp))
 replace HX := Lib.hid (HX.out.kept hk (by have := HXl.out; simp; omega) (by have := HXl.out; simp; omega) (by have := HXl.out; simp; omega))
 replace HE := Lib.hid (ents_kept HE.out hk (fun a h0 h2 => by simpa using HG.out a h0 h2))
 replace HB := Lib.hid (show Below w.heap.size w w4 from Keep.under HB.out hk (by have := HB.out.size; omega) (fun j hj => by simp at hj; omega))
 replace HR := Lib.hid hr
 clear hr hk HD HXl HG
 have q0 : w4.cell? ⟨w.heap.size, 0, none⟩ = some (.int .u8 r.c.op) := by rw [row_cell HR.out]; rfl
 have q10 : w4.cell? ⟨w.heap.size, 10, none⟩ = some (.int .u64 r.val) := by rw [row_cell HR.out]; rfl
 have zr := lt_of_heap HR.out
 by_cases ho : r.c.op = 8
 ·have e1 : Hid (Z = { r with at_ := A, pc := 9 }) := Lib.hid (by rw [← HZq.out, if_pos ho])
  rw [ho] at q0
  clear ho
  go_wp2_with (refine wpList_load_row rfl 43 (.tmp 4) rfl w.heap.size rfl 43 ({ r with at_ := A } : Rn).arr (0, 0) _ HR.out undRun rfl infoRun ?_)
  refine (rat_any ({ r with at_ := A } : Rn) 9 _).mono ?_
  rintro e' w6 ⟨rfl, hb⟩
  replace HR := Lib.hid (row_below HR.out hb)
  replace HF := Lib.hid (row_below HF.out hb)
  replace HZ := Lib.hid (row_below HZ.out hb)
  replace HB := Lib.hid (below_only HB.out hb)
  replace HX := Lib.hid (HX.out.below hb)
  clear hb
  go_wp2_with (refine wpList_store_row rfl 43 (.tmp 6) (.tmp 49) rfl (w.heap.size + 1 + 1) ({ ({ r with at_ := A } : Rn) with pc := 9 } : Rn).arr rfl rfl 43 ZRun HZ.out infoRun rfl (Rn.one _) ?_)
  refine bodyPost_ret (results_cell_row (fn := Tryz.f42) rfl _ _ (w.heap.size + 1 + 1) 43 ({ ({ r with at_ := A } : Rn) with pc := 9 } : Rn).arr (0, 0) _ rfl (setRow_heap w6 _ _ _ _ (0, 0) HZ.out) undRun rfl infoRun) rfl ?_
  exact ⟨by rw [e1.out], below_setRow HB.out (by omega) _⟩
 ·have ho2 : (r.c.op == 8) = false := by simpa using ho
  have ho3 : decide (r.c.op = 8) = false := decide_eq_false ho
  have Ho := Lib.hid ho
  clear ho
  by_cases hv : r.val = 0
  ·have e1 : Hid (Z = { r with at_ := A, pc := 10 }) := Lib.hid (by rw [← HZq.out, if_neg Ho.out, if_pos hv])
   rw [hv] at q10
   clear hv
   go_wp2_with (refine wpList_load_row rfl 43 (.tmp 4) rfl w.heap.size rfl 43 ({ r with at_ := A } : Rn).arr (0, 0) _ HR.out undRun rfl infoRun ?_)
   refine (rat_any ({ r with at_ := A } : Rn) 10 _).mono ?_
   rintro e' w6 ⟨rfl, hb⟩
   replace HR := Lib.hid (row_below HR.out hb)
   replace HF := Lib.hid (row_below HF.out hb)
   replace HZ := Lib.hid (row_below HZ.out hb)
   replace HB := Lib.hid (below_only HB.out hb)
   replace HX := Lib.hid (HX.out.below hb)
   clear hb
   go_wp2_with (refine wpList_store_row rfl 43 (.tmp 6) (.tmp 54) rfl (w.heap.size + 1 + 1) ({ ({ r with at_ := A } : Rn) with pc := 10 } : Rn).arr rfl rfl 43 ZRun HZ.out infoRun rfl (Rn.one _) ?_)
   refine bodyPost_ret (results_cell_row (fn := Tryz.f42) rfl _ _ (w.heap.size + 1 + 1) 43 ({ ({ r with at_ := A } : Rn) with pc := 10 } : Rn).arr (0, 0) _ rfl (setRow_heap w6 _ _ _ _ (0, 0) HZ.out) undRun rfl infoRun) rfl ?_
   exact ⟨by rw [e1.out], below_setRow HB.out (by omega) _⟩
  ·have hv2 : (r.val == 0) = false := by simpa using hv
   have hv3 : decide (r.val = 0) = false := decide_eq_false hv
   have Hv := Lib.hid hv
   clear hv
   go_upto_region 11 with fail
   clear q0 q10 zr ho2 ho3 hv2 hv3
   try simp only [Act.put]
   go_cut [9, 10] from 9 to 66 (fun v9 v10 wx => v10 = .int .i64 ckc ∧ Below w4.heap.size w4 wx)
   case first =>
    refine wp_region_held_drew (S := fun W' => RAll W' X q d s t i h ws ∧ W'.heap[w.heap.size]? = some (.cells ({ r with at_ := A } : Rn).arr 43 (0, 0))) (by kernel_rfl) (show RAll w4.drew X q d s t i h ws ∧ w4.drew.heap[w.heap.size]? = _ from ⟨HX.out.drew, HR.out⟩) ?_
    intro hS
    have hB0 : Below w4.heap.size w4 w4.drew := by go_grown
    have hE0 : Ents w4.drew r.chain.a l := Ents.below HE.out (Below.drew (Below.refl _ _))
    generalize w4.drew = y0 at hS hB0 hE0 ⊢
    refine tk (i := 0) (v := ?v0x19) (some 56) rfl rfl (Or.inl ⟨by kernel_rfl, ?h0x19⟩) ?r0x19
    case h0x19 => (intro w' hSw; obtain ⟨s1, s2⟩ := hSw; obtain ⟨gp, hbx⟩ := s1.box; obtain ⟨p0, p1, p2, p3, _, _, _⟩ := box7 hbx; have zx := lt_of_heap hbx; have c10 : w'.cell? ⟨w.heap.size, 10, none⟩ = some (.int .u64 r.val) := (by rw [row_cell s2]; rfl); have c11 : w'.cell? ⟨w.heap.size, 11, none⟩ = some r.chain.v := (by rw [row_cell s2]; rfl); have zr := lt_of_heap s2; go_simp; first | done | (with_reducible rfl))
    try simp only [Act.put, List.setIfInBounds_toArray, List.set_cons_succ, List.set_cons_zero]
    refine tk (i := 1) (v := ?v1x20) (some 57) rfl rfl (Or.inl ⟨by kernel_rfl, ?h1x20⟩) ?r1x20
    case h1x20 => (intro w' hSw; obtain ⟨s1, s2⟩ := hSw; obtain ⟨gp, hbx⟩ := s1.box; obtain ⟨p0, p1, p2, p3, _, _, _⟩ := box7 hbx; have zx := lt_of_heap hbx; have c10 : w'.cell? ⟨w.heap.size, 10, none⟩ = some (.int .u64 r.val) := (by rw [row_cell s2]; rfl); have c11 : w'.cell? ⟨w.heap.size, 11, none⟩ = some r.chain.v := (by rw [row_cell s2]; rfl); have zr := lt_of_heap s2; go_simp; first | done | (with_reducible rfl))
    try simp only [Act.put, List.setIfInBounds_toArray, List.set_cons_succ, List.set_cons_zero]
    refine tk (i := 2) (v := ?v2x21) (some 58) rfl rfl (Or.inl ⟨by kernel_rfl, ?h2x21⟩) ?r2x21
    case h2x21 => (intro w' hSw; obtain ⟨s1, s2⟩ := hSw; obtain ⟨gp, hbx⟩ := s1.box; obtain ⟨p0, p1, p2, p3, _, _, _⟩ := box7 hbx; have zx := lt_of_heap hbx; have c10 : w'.cell? ⟨w.heap.size, 10, none⟩ = some (.int .u64 r.val) := (by rw [row_cell s2]; rfl); have c11 : w'.cell? ⟨w.heap.size, 11, none⟩ = some r.chain.v := (by rw [row_cell s2]; rfl); have zr := lt_of_heap s2; go_simp; first | done | (with_reducible rfl))
    try simp only [Act.put, List.setIfInBounds_toArray, List.set_cons_succ, List.set_cons_zero]
    refine tk (i := 3) (v := ?v3x22) (some 59) rfl rfl (Or.inl ⟨by kernel_rfl, ?h3x22⟩) ?r3x22
    case h3x22 => (intro w' hSw; obtain ⟨s1, s2⟩ := hSw; obtain ⟨gp, hbx⟩ := s1.box; obtain ⟨p0, p1, p2, p3, _, _, _⟩ := box7 hbx; have zx := lt_of_heap hbx; have c10 : w'.cell? ⟨w.heap.size, 10, none⟩ = some (.int .u64 r.val) := (by rw [row_cell s2]; rfl); have c11 : w'.cell? ⟨w.heap.size, 11, none⟩ = some r.chain.v := (by rw [row_cell s2]; rfl); have zr := lt_of_heap s2; go_simp; first | done | (with_reducible rfl))
    try simp only [Act.put, List.setIfInBounds_toArray, List.set_cons_succ, List.set_cons_zero]
    refine tk (i := 4) (v := ?v4x23) (some 60) rfl rfl (Or.inl ⟨by kernel_rfl, ?h4x23⟩) ?r4x23
    case h4x23 => (intro w' hSw; obtain ⟨s1, s2⟩ := hSw; obtain ⟨gp, hbx⟩ := s1.box; obtain ⟨p0, p1, p2, p3, _, _, _⟩ := box7 hbx; have zx := lt_of_heap hbx; have c10 : w'.cell? ⟨w.heap.size, 10, none⟩ = some (.int .u64 r.val) := (by rw [row_cell s2]; rfl); have c11 : w'.cell? ⟨w.heap.size, 11, none⟩ = some r.chain.v := (by rw [row_cell s2]; rfl); have zr := lt_of_heap s2; go_simp; first | done | (with_reducible rfl))
    try simp only [Act.put, List.setIfInBounds_toArray, List.set_cons_succ, List.set_cons_zero]
    refine tk (i := 5) (v := ?v5x24) (some 61) rfl rfl (Or.inl ⟨by kernel_rfl, ?h5x24⟩) ?r5x24
    case h5x24 => (intro w' hSw; obtain ⟨s1, s2⟩ := hSw; obtain ⟨gp, hbx⟩ := s1.box; obtain ⟨p0, p1, p2, p3, _, _, _⟩ := box7 hbx; have zx := lt_of_heap hbx; have c10 : w'.cell? ⟨w.heap.size, 10, none⟩ = some (.int .u64 r.val) := (by rw [row_cell s2]; rfl); have c11 : w'.cell? ⟨w.heap.size, 11, none⟩ = some r.chain.v := (by rw [row_cell s2]; rfl); have zr := lt_of_heap s2; go_simp; first | done | (with_reducible rfl))
    try simp only [Act.put, List.setIfInBounds_toArray, List.set_cons_succ, List.set_cons_zero]
    refine tk (i := 6) (v := ?v6x25) (some 62) rfl rfl (Or.inl ⟨by kernel_rfl, ?h6x25⟩) ?r6x25
    case h6x25 => (intro w' hSw; obtain ⟨s1, s2⟩ := hSw; obtain ⟨gp, hbx⟩ := s1.box; obtain ⟨p0, p1, p2, p3, _, _, _⟩ := box7 hbx; have zx := lt_of_heap hbx; have c10 : w'.cell? ⟨w.heap.size, 10, none⟩ = some (.int .u64 r.val) := (by rw [row_cell s2]; rfl); have c11 : w'.cell? ⟨w.heap.size, 11, none⟩ = some r.chain.v := (by rw [row_cell s2]; rfl); have zr := lt_of_heap s2; go_simp; first | done | (with_reducible rfl))
    try simp only [Act.put, List.setIfInBounds_toArray, List.set_cons_succ, List.set_cons_zero]
    refine tk (i := 7) (v := ?v7x26) (some 63) rfl rfl (Or.inl ⟨by kernel_rfl, ?h7x26⟩) ?r7x26
    case h7x26 => (intro w' hSw; obtain ⟨s1, s2⟩ := hSw; obtain ⟨gp, hbx⟩ := s1.box; obtain ⟨p0, p1, p2, p3, _, _, _⟩ := box7 hbx; have zx := lt_of_heap hbx; have c10 : w'.cell? ⟨w.heap.size, 10, none⟩ = some (.int .u64 r.val) := (by rw [row_cell s2]; rfl); have c11 : w'.cell? ⟨w.heap.size, 11, none⟩ = some r.chain.v := (by rw [row_cell s2]; rfl); have zr := lt_of_heap s2; go_simp; first | done | (with_reducible rfl))
    try simp only [Act.put, List.setIfInBounds_toArray, List.set_cons_succ, List.set_cons_zero]
    refine wpAnyH_ready (rs := [8, 12]) (by kernel_rfl) (by simp) ?_
    refine AllReadyH.cons rfl (fun K hK => ?_) (AllReadyH.cons rfl (fun K hK => ?_) AllReadyH.nil)
    ·skip
     go_simp
     refine (HCk _ hE0).out.mono ?_
     rintro e' yC ⟨rfl, hb⟩
     go_simp
     replace hB0 := below_only hB0 hb
     replace hE0 := Ents.below hE0 hb
     refine hK.out _ _ (⟨hS.1.below hb, row_below hS.2 hb⟩) (fun hS => ?_)
     clear hK K
     try simp only [Act.put, List.setIfInBounds_toArray, List.set_cons_succ, List.set_cons_zero]
     refine tk (i := 9) (v := ?v9x27) (some 55) rfl rfl (Or.inl ⟨by kernel_rfl, ?h9x27⟩) ?r9x27
     case h9x27 => (intro w' hSw; obtain ⟨s1, s2⟩ := hSw; obtain ⟨gp, hbx⟩ := s1.box; obtain ⟨p0, p1, p2, p3, _, _, _⟩ := box7 hbx; have zx := lt_of_heap hbx; have c10 : w'.cell? ⟨w.heap.size, 10, none⟩ = some (.int .u64 r.val) := (by rw [row_cell s2]; rfl); have c11 : w'.cell? ⟨w.heap.size, 11, none⟩ = some r.chain.v := (by rw [row_cell s2]; rfl); have zr := lt_of_heap s2; go_simp; first | done | (with_reducible rfl))
     try simp only [Act.put, List.setIfInBounds_toArray, List.set_cons_succ, List.set_cons_zero]
     refine tk (i := 10) (v := ?v10x28) (some 65) rfl rfl (Or.inl ⟨by kernel_rfl, ?h10x28⟩) ?r10x28
     case h10x28 => (intro w' hSw; obtain ⟨s1, s2⟩ := hSw; obtain ⟨gp, hbx⟩ := s1.box; obtain ⟨p0, p1, p2, p3, _, _, _⟩ := box7 hbx; have zx := lt_of_heap hbx; have c10 : w'.cell? ⟨w.heap.size, 10, none⟩ = some (.int .u64 r.val) := (by rw [row_cell s2]; rfl); have c11 : w'.cell? ⟨w.heap.size, 11, none⟩ = some r.chain.v := (by rw [row_cell s2]; rfl); have zr := lt_of_heap s2; go_simp; first | done | (with_reducible rfl))
     try simp only [Act.put, List.setIfInBounds_toArray, List.set_cons_succ, List.set_cons_zero]
     refine tk (i := 11) (v := ?v11x29) (some 66) rfl rfl (Or.inl ⟨by kernel_rfl, ?h11x29⟩) ?r11x29
     case h11x29 => (intro w' hSw; obtain ⟨s1, s2⟩ := hSw; obtain ⟨gp, hbx⟩ := s1.box; obtain ⟨p0, p1, p2, p3, _, _, _⟩ := box7 hbx; have zx := lt_of_heap hbx; have c10 : w'.cell? ⟨w.heap.size, 10, none⟩ = some (.int .u64 r.val) := (by rw [row_cell s2]; rfl); have c11 : w'.cell? ⟨w.heap.size, 11, none⟩ = some r.chain.v := (by rw [row_cell s2]; rfl); have zr := lt_of_heap s2; go_simp; first | done | (with_reducible rfl))
     try simp only [Act.put, List.setIfInBounds_toArray, List.set_cons_succ, List.set_cons_zero]
     refine wpAnyH_ready (rs := [12]) (by kernel_rfl) (by simp) ?_
     refine AllReadyH.cons rfl (fun K hK => ?_) AllReadyH.nil
     go_simp
     refine k_alloc (fun yZ hZ hb => ?_)
     have hgZ : w4.heap.size ≤ yC.heap.size := hB0.size
     replace hB0 := below_only hB0 hb
     replace hE0 := Ents.below hE0 hb
     obtain ⟨gZ, HgZ⟩ : ∃ x, x = yC.heap.size := ⟨_, rfl⟩
     have hS1 := hS.1.below hb
     have hS2 := row_below hS.2 hb
     have hgg : w.heap.size ≠ gZ ∧ X ≠ gZ ∧ q ≠ gZ ∧ d ≠ gZ := by have := rall_lt hS.1; have := lt_of_heap hS.2; omega
     rw [← HgZ] at hZ hgZ ⊢
     clear HgZ hb
     refine hK.out _ _ (⟨hS1, hS2⟩) (fun hS => ?_)
     clear hK K
     try simp only [Act.put, List.setIfInBounds_toArray, List.set_cons_succ, List.set_cons_zero]
     clear hS1 hS2
     refine wpAnyH_ready (rs := [13]) (by kernel_rfl) (by simp) ?_
     refine AllReadyH.cons rfl (fun K hK => ?_) AllReadyH.nil
     refine step_store_row none rfl rfl 70 (.tmp 9) (.tmp 65) rfl gZ #[.int .i64 ck1, .int .i64 ck2, .int .i64 ck3] rfl rfl 70 #[.int .i64 0, .int .i64 0, .int .i64 0] hZ infoRef3 rfl (by simp [Value.oneCell']) ?_
     have hks := (Keep.refl [gZ] yZ).setRow (g := gZ) (.inl (by simp)) #[.int .i64 ck1, .int .i64 ck2, .int .i64 ck3]
     refine hK.out _ _ (⟨hS.1.kept hks (by simpa using hgg.2.1) (by simpa using hgg.2.2.1) (by simpa using hgg.2.2.2), hks.row hS.2 (by simpa using hgg.1)⟩) (fun hS => ?_)
     clear hK K
     try simp only [Act.put, List.setIfInBounds_toArray, List.set_cons_succ, List.set_cons_zero]
     refine tk (i := 14) (v := ?v14x30) (some 10) rfl rfl (Or.inl ⟨by kernel_rfl, ?h14x30⟩) ?r14x30
     case h14x30 => (intro w' hSw; obtain ⟨s1, s2⟩ := hSw; obtain ⟨gp, hbx⟩ := s1.box; obtain ⟨p0, p1, p2, p3, _, _, _⟩ := box7 hbx; have zx := lt_of_heap hbx; have c10 : w'.cell? ⟨w.heap.size, 10, none⟩ = some (.int .u64 r.val) := (by rw [row_cell s2]; rfl); have c11 : w'.cell? ⟨w.heap.size, 11, none⟩ = some r.chain.v := (by rw [row_cell s2]; rfl); have zr := lt_of_heap s2; go_simp; first | done | (with_reducible rfl))
     try simp only [Act.put, List.setIfInBounds_toArray, List.set_cons_succ, List.set_cons_zero]
     refine wpAnyH_done (by kernel_rfl) ?_ _
     go_wp2_with fail
     go_meet
     exact ⟨rfl, below_setRow hB0 hgZ _⟩
    ·skip
     go_simp
     refine k_alloc (fun yZ hZ hb => ?_)
     have hgZ : w4.heap.size ≤ y0.heap.size := hB0.size
     replace hB0 := below_only hB0 hb
     replace hE0 := Ents.below hE0 hb
     obtain ⟨gZ, HgZ⟩ : ∃ x, x = y0.heap.size := ⟨_, rfl⟩
     have hS1 := hS.1.below hb
     have hS2 := row_below hS.2 hb
     have hgg : w.heap.size ≠ gZ ∧ X ≠ gZ ∧ q ≠ gZ ∧ d ≠ gZ := by have := rall_lt hS.1; have := lt_of_heap hS.2; omega
     rw [← HgZ] at hZ hgZ ⊢
     clear HgZ hb
     refine hK.out _ _ (⟨hS1, hS2⟩) (fun hS => ?_)
     clear hK K
     try simp only [Act.put, List.setIfInBounds_toArray, List.set_cons_succ, List.set_cons_zero]
     clear hS1 hS2
     refine wpAnyH_ready (rs := [8]) (by kernel_rfl) (by simp) ?_
     refine AllReadyH.cons rfl (fun K hK => ?_) AllReadyH.nil
     go_simp
     refine (HCk _ hE0).out.mono ?_
     rintro e' yC ⟨rfl, hb⟩
     go_simp
     replace hB0 := below_only hB0 hb
     replace hE0 := Ents.below hE0 hb
     replace hZ := row_below hZ hb
     refine hK.out _ _ (⟨hS.1.below hb, row_below hS.2 hb⟩) (fun hS => ?_)
     clear hK K
     try simp only [Act.put, List.setIfInBounds_toArray, List.set_cons_succ, List.set_cons_zero]
     refine tk (i := 9) (v := ?v9x31) (some 55) rfl rfl (Or.inl ⟨by kernel_rfl, ?h9x31⟩) ?r9x31
     case h9x31 => (intro w' hSw; obtain ⟨s1, s2⟩ := hSw; obtain ⟨gp, hbx⟩ := s1.box; obtain ⟨p0, p1, p2, p3, _, _, _⟩ := box7 hbx; have zx := lt_of_heap hbx; have c10 : w'.cell? ⟨w.heap.size, 10, none⟩ = some (.int .u64 r.val) := (by rw [row_cell s2]; rfl); have c11 : w'.cell? ⟨w.heap.size, 11, none⟩ = some r.chain.v := (by rw [row_cell s2]; rfl); have zr := lt_of_heap s2; go_simp; first | done | (with_reducible rfl))
     try simp only [Act.put, List.setIfInBounds_toArray, List.set_cons_succ, List.set_cons_zero]
     refine tk (i := 10) (v := ?v10x32) (some 65) rfl rfl (Or.inl ⟨by kernel_rfl, ?h10x32⟩) ?r10x32
     case h10x32 => (intro w' hSw; obtain ⟨s1, s2⟩ := hSw; obtain ⟨gp, hbx⟩ := s1.box; obtain ⟨p0, p1, p2, p3, _, _, _⟩ := box7 hbx; have zx := lt_of_heap hbx; have c10 : w'.cell? ⟨w.heap.size, 10, none⟩ = some (.int .u64 r.val) := (by rw [row_cell s2]; rfl); have c11 : w'.cell? ⟨w.heap.size, 11, none⟩ = some r.chain.v := (by rw [row_cell s2]; rfl); have zr := lt_of_heap s2; go_simp; first | done | (with_reducible rfl))
     try simp only [Act.put, List.setIfInBounds_toArray, List.set_cons_succ, List.set_cons_zero]
     refine tk (i := 11) (v := ?v11x33) (some 66) rfl rfl (Or.inl ⟨by kernel_rfl, ?h11x33⟩) ?r11x33
     case h11x33 => (intro w' hSw; obtain ⟨s1, s2⟩ := hSw; obtain ⟨gp, hbx⟩ := s1.box; obtain ⟨p0, p1, p2, p3, _, _, _⟩ := box7 hbx; have zx := lt_of_heap hbx; have c10 : w'.cell? ⟨w.heap.size, 10, none⟩ = some (.int .u64 r.val) := (by rw [row_cell s2]; rfl); have c11 : w'.cell? ⟨w.heap.size, 11, none⟩ = some r.chain.v := (by rw [row_cell s2]; rfl); have zr := lt_of_heap s2; go_simp; first | done | (with_reducible rfl))
     try simp only [Act.put, List.setIfInBounds_toArray, List.set_cons_succ, List.set_cons_zero]
     refine wpAnyH_ready (rs := [13]) (by kernel_rfl) (by simp) ?_
     refine AllReadyH.cons rfl (fun K hK => ?_) AllReadyH.nil
     refine step_store_row none rfl rfl 70 (.tmp 9) (.tmp 65) rfl gZ #[.int .i64 ck1, .int .i64 ck2, .int .i64 ck3] rfl rfl 70 #[.int .i64 0, .int .i64 0, .int .i64 0] hZ infoRef3 rfl (by simp [Value.oneCell']) ?_
     have hks := (Keep.refl [gZ] yC).setRow (g := gZ) (.inl (by simp)) #[.int .i64 ck1, .int .i64 ck2, .int .i64 ck3]
     refine hK.out _ _ (⟨hS.1.kept hks (by simpa using hgg.2.1) (by simpa using hgg.2.2.1) (by simpa using hgg.2.2.2), hks.row hS.2 (by simpa using hgg.1)⟩) (fun hS => ?_)
     clear hK K
     try simp only [Act.put, List.setIfInBounds_toArray, List.set_cons_succ, List.set_cons_zero]
     refine tk (i := 14) (v := ?v14x34) (some 10) rfl rfl (Or.inl ⟨by kernel_rfl, ?h14x34⟩) ?r14x34
     case h14x34 => (intro w' hSw; obtain ⟨s1, s2⟩ := hSw; obtain ⟨gp, hbx⟩ := s1.box; obtain ⟨p0, p1, p2, p3, _, _, _⟩ := box7 hbx; have zx := lt_of_heap hbx; have c10 : w'.cell? ⟨w.heap.size, 10, none⟩ = some (.int .u64 r.val) := (by rw [row_cell s2]; rfl); have c11 : w'.cell? ⟨w.heap.size, 11, none⟩ = some r.chain.v := (by rw [row_cell s2]; rfl); have zr := lt_of_heap s2; go_simp; first | done | (with_reducible rfl))
     try simp only [Act.put, List.setIfInBounds_toArray, List.set_cons_succ, List.set_cons_zero]
     refine wpAnyH_done (by kernel_rfl) ?_ _
     go_wp2_with fail
     go_meet
     exact ⟨rfl, below_setRow hB0 hgZ _⟩
   case rest =>
    obtain ⟨rfl, hb⟩ := hcut
    obtain ⟨w5, hwx⟩ : ∃ x, x = wc := ⟨_, rfl⟩
    subst hwx
    replace HR := Lib.hid (row_below HR.out hb)
    replace HF := Lib.hid (row_below HF.out hb)
    replace HZ := Lib.hid (row_below HZ.out hb)
    replace HB := Lib.hid (below_only HB.out hb)
    replace HX := Lib.hid (HX.out.below hb)
    clear hb
    by_cases hc : ckc = 0
    ·have e1 : Hid (Z = { r with at_ := A, pc := 7 }) := Lib.hid (by rw [← HZq.out, if_neg Ho.out, if_neg Hv.out, if_pos hc])
     subst hc
     go_wp2_with (refine wpList_load_row rfl 43 (.tmp 4) rfl w.heap.size rfl 43 ({ r with at_ := A } : Rn).arr (0, 0) _ HR.out undRun rfl infoRun ?_)
     refine (rat_any ({ r with at_ := A } : Rn) 7 _).mono ?_
     rintro e' w6 ⟨rfl, hb⟩
     replace HR := Lib.hid (row_below HR.out hb)
     replace HF := Lib.hid (row_below HF.out hb)
     replace HZ := Lib.hid (row_below HZ.out hb)
     replace HB := Lib.hid (below_only HB.out hb)
     replace HX := Lib.hid (HX.out.below hb)
     clear hb
     go_wp2_with (refine wpList_store_row rfl 43 (.tmp 6) (.tmp 73) rfl (w.heap.size + 1 + 1) ({ ({ r with at_ := A } : Rn) with pc := 7 } : Rn).arr rfl rfl 43 ZRun HZ.out infoRun rfl (Rn.one _) ?_)
     refine bodyPost_ret (results_cell_row (fn := Tryz.f42) rfl _ _ (w.heap.size + 1 + 1) 43 ({ ({ r with at_ := A } : Rn) with pc := 7 } : Rn).arr (0, 0) _ rfl (setRow_heap w6 _ _ _ _ (0, 0) HZ.out) undRun rfl infoRun) rfl ?_
     exact ⟨by rw [e1.out], below_setRow HB.out (by omega) _⟩
    ·have e1 : Hid (Z = toldR { r with at_ := A } ckc 0 noS) := Lib.hid (by rw [← HZq.out, if_neg Ho.out, if_neg Hv.out, if_neg hc])
     have c1 : (ckc == 0) = false := by simpa using hc
     have c2 : decide (ckc = 0) = false := decide_eq_false hc
     have c3 : (ckc != 0) = true := by simp [hc]
     clear hc
     have HTl := fun (w' : World) => Lib.hid (rtell16 { r with at_ := A } ckc 0 w' HSd.out)
     go_wp2_with (refine wpList_load_row rfl 43 (.tmp 4) rfl w.heap.size rfl 43 ({ r with at_ := A } : Rn).arr (0, 0) _ HR.out undRun rfl infoRun ?_)
     refine (HTl _).out.mono ?_
     rintro e' w6 ⟨rfl, hb⟩

     replace HR := Lib.hid (row_below HR.out hb)
     replace HF := Lib.hid (row_below HF.out hb)
     replace HZ := Lib.hid (row_below HZ.out hb)
     replace HB := Lib.hid (below_only HB.out hb)
     replace HX := Lib.hid (HX.out.below hb)
     clear hb
     go_wp2_with (refine wpList_store_row rfl 43 (.tmp 6) (.tmp 71) rfl (w.heap.size + 1 + 1) (toldR ({ r with at_ := A } : Rn) ckc 0 noS).arr rfl rfl 43 ZRun HZ.out infoRun rfl (Rn.one _) ?_)
     refine bodyPost_ret (results_cell_row (fn := Tryz.f42) rfl _ _ (w.heap.size + 1 + 1) 43 (toldR ({ r with at_ := A } : Rn) ckc 0 noS).arr (0, 0) _ rfl (setRow_heap w6 _ _ _ _ (0, 0) HZ.out) undRun rfl infoRun) rfl ?_
     exact ⟨by rw [e1.out], below_setRow HB.out (by omega) _⟩

end Go.Proofs.YtnimaajnlkbdaaaGreat

namespace Go.Proofs.YtnimaajnlkbdaaaGreat
open Go.RowKit
set_option linter.unusedVariables false
set_option linter.unusedSimpArgs false

theorem four_rows16 {P : World → Prop} (w : World) (c0 c1 c2 c3 : Array Value) (t0 t1 t2 t3 : TypeId) (h : ∀ W, W.heap[w.heap.size]? = some (.cells c0 t0 (0, 0)) → W.heap[w.heap.size + 1]? = some (.cells c1 t1 (0, 0)) → W.heap[w.heap.size + 1 + 1]? = some (.cells c2 t2 (0, 0)) → W.heap[w.heap.size + 1 + 1 + 1]? = some (.cells c3 t3 (0, 0)) → Below w.heap.size w W → P W) :
  P ((((w.alloc (.cells c0 t0)).alloc (.cells c1 t1)).alloc (.cells c2 t2)).alloc (.cells c3 t3)) :=
 h _ (row_alloc (row_alloc (row_alloc (row_new _ _ _)))) (row_alloc (row_alloc (row_at (by simp)))) (row_alloc (row_at (by simp))) (row_at (by simp)) (by go_grown)
set_option maxRecDepth 100000 in
set_option maxHeartbeats 4000000 in
theorem rvalue_bad (X q d : Nat) (s t i h : Int) (ws : List Int) (k : Nat) (r : Rn) (sc ep at_ hsc hep hat : Int) (w : World) (H : RAll w X q d s t i h ws) (hs : r.said = noS) (ha : at_ = 8 * (k : Int)) (y : Int) (h1 : ws[k]? = some 1281) (h2 : ws[k + 1]? = some y) :
  Calls Tryz.prog 43 #[.pointer (some ⟨X, 0, none⟩), r.v, .agg #[.int .i64 hsc, .int .i64 hep, .int .i64 hat], .agg #[.int .i64 sc, .int .i64 ep, .int .i64 at_]] w fun e w' => e = .returned (toldR r 18 0 noS).v ∧ Below w.heap.size w w' := by
 have HC := fun w' (H' : RAll w' X q d s t i h ws) => Lib.hid (rhead_bad X q d s t i h ws k sc ep at_ w' H' ha y h1 h2)
 have HX := Lib.hid H
 have HSd := Lib.hid hs
 clear H hs ha h1 h2
 go_enter Tryz.func43, Tryz.ntmps43
 go_upto_region 1 with fail
 refine four_rows16 w _ _ _ _ _ _ _ _ ?_
 intro w1 h1 h2 h3 h4 hb
 have HR := Lib.hid h1
 have HF := Lib.hid h2
 have HV := Lib.hid h3
 have HZ := Lib.hid h4
 have HB := Lib.hid hb
 replace HX := Lib.hid (HX.out.below hb)
 clear h1 h2 h3 h4 hb
 obtain ⟨f0, f1, f2, _, _, _⟩ := box3 HV.out
 have zf := lt_of_heap HV.out
 go_wp2_with fail
 clear f0 f1 f2 zf
 refine (HC _ HX.out).out.mono ?_
 rintro e' w2 ⟨rfl, hb⟩
 replace HR := Lib.hid (row_below HR.out hb)
 replace HF := Lib.hid (row_below HF.out hb)
 replace HV := Lib.hid (row_below HV.out hb)
 replace HZ := Lib.hid (row_below HZ.out hb)
 replace HB := Lib.hid (below_only HB.out hb)
 replace HX := Lib.hid (HX.out.below hb)
 clear hb HC
 go_upto_region 2 with fail
 refine one_row w2 _ _ ?_
 intro w3 hr hb
 replace HR := Lib.hid (row_below HR.out hb)
 replace HF := Lib.hid (row_below HF.out hb)
 replace HV := Lib.hid (row_below HV.out hb)
 replace HZ := Lib.hid (row_below HZ.out hb)
 replace HB := Lib.hid (below_only HB.out hb)
 replace HX := Lib.hid (HX.out.below hb)
 clear hr hb
 go_wp2_with (refine wpList_load_row rfl 43 (.tmp 5) rfl w.heap.size rfl 43 r.arr (0, 0) _ HR.out undRun rfl infoRun ?_)
 refine (rtell16 r 18 0 _ HSd.out).mono ?_
 rintro e' w4 ⟨rfl, hb⟩
 replace HR := Lib.hid (row_below HR.out hb)
 replace HF := Lib.hid (row_below HF.out hb)
 replace HV := Lib.hid (row_below HV.out hb)
 replace HZ := Lib.hid (row_below HZ.out hb)
 replace HB := Lib.hid (below_only HB.out hb)
 replace HX := Lib.hid (HX.out.below hb)
 clear hb
 go_wp2_with (refine wpList_store_row rfl 43 (.tmp 8) (.tmp 23) rfl (w.heap.size + 1 + 1 + 1) (toldR r 18 0 noS).arr rfl rfl 43 ZRun HZ.out infoRun rfl (Rn.one _) ?_)
 refine bodyPost_ret (results_cell_row (fn := Tryz.f43) rfl _ _ (w.heap.size + 1 + 1 + 1) 43 (toldR r 18 0 noS).arr (0, 0) _ rfl (setRow_heap w4 _ _ _ _ (0, 0) HZ.out) undRun rfl infoRun) rfl ?_
 exact ⟨rfl, below_setRow HB.out (by omega) _⟩

set_option maxRecDepth 100000 in
set_option maxHeartbeats 4000000 in
theorem rvalue_store (X q d : Nat) (s t i h : Int) (ws : List Int) (k : Nat) (r : Rn) (sc ep at_ hsc hep hat : Int) (w : World) (H : RAll w X q d s t i h ws) (hs : r.said = noS) (ha : at_ = 8 * (k : Int)) (sz sl tg : Int) (hH : HeadOk sz sl tg sc ep) (h1 : ws[k]? = some (head1 sz sl tg)) (h2 : ws[k + 1]? = some (head2 sc ep)) (hop : r.c.op = 9) (l : List Ent) (hl : l.length ≤ 1048576) (hn : r.chain.n = l.length) (hkc : l.length ≤ r.chain.c) (hE : Ents w r.chain.a l) :
  Calls Tryz.prog 43 #[.pointer (some ⟨X, 0, none⟩), r.v, .agg #[.int .i64 hsc, .int .i64 hep, .int .i64 hat], .agg #[.int .i64 sc, .int .i64 ep, .int .i64 at_]] w fun e w' => e = .returned (if above l sc hsc = true then ({ r with pc := 10 } : Rn) else toldR r 22 0 noS).v ∧ Below w.heap.size w w' := by
 have HC := fun w' (H' : RAll w' X q d s t i h ws) => Lib.hid (rhead_ok X q d s t i h ws k sc ep at_ w' H' ha sz sl tg hH h1 h2)
 have HX := Lib.hid H
 have HSd := Lib.hid hs
 have HAb : ∀ w', Ents w' r.chain.a l → Hid (Calls Tryz.prog 88 #[.slice r.chain.a r.chain.n r.chain.c, .int .i64 sc, .int .i64 hsc] w' fun e w'' => e = .returned (.bool (above l sc hsc)) ∧ Below w'.heap.size w' w'') := by
  intro w' h'
  rw [hn]
  exact Lib.hid ((rabove_any r.chain.a r.chain.c l sc hsc w' (by omega) hkc h').mono (fun e w'' hh => ⟨hh.1, by rw [hh.2]; exact Below.refl _ _⟩))
 have HE := Lib.hid hE
 have Hop := Lib.hid hop
 obtain ⟨Z, HZq⟩ : ∃ Z : Rn, Hid ((if above l sc hsc = true then ({ r with pc := 10 } : Rn) else toldR r 22 0 noS) = Z) := ⟨_, Lib.hid rfl⟩
 rw [HZq.out]
 obtain ⟨ab, Hab⟩ : ∃ x, Hid (above l sc hsc = x) := ⟨_, Lib.hid rfl⟩
 rw [Hab.out] at HAb HZq
 clear hop hl hn hkc hE hH
 clear H hs ha h1 h2
 go_enter Tryz.func43, Tryz.ntmps43
 go_upto_region 1 with fail
 refine four_rows16 w _ _ _ _ _ _ _ _ ?_
 intro w1 h1 h2 h3 h4 hb
 have HR := Lib.hid h1
 have HF := Lib.hid h2
 have HV := Lib.hid h3
 have HZ := Lib.hid h4
 have HB := Lib.hid hb
 replace HX := Lib.hid (HX.out.below hb)
 replace HE := Lib.hid (Ents.below HE.out hb)
 clear h1 h2 h3 h4 hb
 obtain ⟨f0, f1, f2, _, _, _⟩ := box3 HV.out
 have zf := lt_of_heap HV.out
 go_wp2_with fail
 clear f0 f1 f2 zf
 refine (HC _ HX.out).out.mono ?_
 rintro e' w2 ⟨rfl, hb⟩
 replace HR := Lib.hid (row_below HR.out hb)
 replace HF := Lib.hid (row_below HF.out hb)
 replace HV := Lib.hid (row_below HV.out hb)
 replace HZ := Lib.hid (row_below HZ.out hb)
 replace HB := Lib.hid (below_only HB.out hb)
 replace HX := Lib.hid (HX.out.below hb)
 replace HE := Lib.hid (Ents.below HE.out hb)
 clear hb HC
 go_upto_region 2 with fail
 refine one_row w2 _ _ ?_
 intro w3 hr hb
 replace HR := Lib.hid (row_below HR.out hb)
 replace HF := Lib.hid (row_below HF.out hb)
 replace HV := Lib.hid (row_below HV.out hb)
 replace HZ := Lib.hid (row_below HZ.out hb)
 replace HB := Lib.hid (below_only HB.out hb)
 replace HX := Lib.hid (HX.out.below hb)
 replace HE := Lib.hid (Ents.below HE.out hb)
 clear hr hb
 obtain ⟨f0, f1, f2, _, _, _⟩ := box3 HF.out
 have zf := lt_of_heap HF.out
 obtain ⟨g0, g1, g2, _, _, _⟩ := box3 HV.out
 have zg := lt_of_heap HV.out
 have q0 : w3.cell? ⟨w.heap.size, 0, none⟩ = some (.int .u8 9) := by rw [row_cell HR.out, ← Hop.out]; rfl
 have q4 : w3.cell? ⟨w.heap.size, 4, none⟩ = some (.int .i64 r.c.a) := by rw [row_cell HR.out]; rfl
 have q11 : w3.cell? ⟨w.heap.size, 11, none⟩ = some r.chain.v := by rw [row_cell HR.out]; rfl
 have zr := lt_of_heap HR.out
 go_wp2_with fail
 refine (HAb _ HE.out).out.mono ?_
 rintro e' w4 ⟨rfl, hb⟩
 clear f0 f1 f2 zf g0 g1 g2 zg q0 q4 q11 zr
 replace HR := Lib.hid (row_below HR.out hb)
 replace HF := Lib.hid (row_below HF.out hb)
 replace HV := Lib.hid (row_below HV.out hb)
 replace HZ := Lib.hid (row_below HZ.out hb)
 replace HB := Lib.hid (below_only HB.out hb)
 replace HX := Lib.hid (HX.out.below hb)
 clear hb
 cases ab with
 | true =>
  have e1 : Hid (Z = { r with pc := 10 }) := Lib.hid (by rw [← HZq.out, if_pos rfl])
  go_wp2_with (refine wpList_load_row rfl 43 (.tmp 5) rfl w.heap.size rfl 43 r.arr (0, 0) _ HR.out undRun rfl infoRun ?_)
  refine (rat_any r 10 _).mono ?_
  rintro e' w5 ⟨rfl, hb⟩
  replace HR := Lib.hid (row_below HR.out hb)
  replace HF := Lib.hid (row_below HF.out hb)
  replace HV := Lib.hid (row_below HV.out hb)
  replace HZ := Lib.hid (row_below HZ.out hb)
  replace HB := Lib.hid (below_only HB.out hb)
  replace HX := Lib.hid (HX.out.below hb)
  clear hb
  go_wp2_with (refine wpList_store_row rfl 43 (.tmp 8) (.tmp 45) rfl (w.heap.size + 1 + 1 + 1) ({ r with pc := 10 } : Rn).arr rfl rfl 43 ZRun HZ.out infoRun rfl (Rn.one _) ?_)
  refine bodyPost_ret (results_cell_row (fn := Tryz.f43) rfl _ _ (w.heap.size + 1 + 1 + 1) 43 ({ r with pc := 10 } : Rn).arr (0, 0) _ rfl (setRow_heap w5 _ _ _ _ (0, 0) HZ.out) undRun rfl infoRun) rfl ?_
  exact ⟨by rw [e1.out], below_setRow HB.out (by omega) _⟩
 | false =>
  have e1 : Hid (Z = toldR r 22 0 noS) := Lib.hid (by rw [← HZq.out, if_neg (by decide)])
  go_wp2_with (refine wpList_load_row rfl 43 (.tmp 5) rfl w.heap.size rfl 43 r.arr (0, 0) _ HR.out undRun rfl infoRun ?_)
  refine (rtell16 r 22 0 _ HSd.out).mono ?_
  rintro e' w5 ⟨rfl, hb⟩
  replace HR := Lib.hid (row_below HR.out hb)
  replace HF := Lib.hid (row_below HF.out hb)
  replace HV := Lib.hid (row_below HV.out hb)
  replace HZ := Lib.hid (row_below HZ.out hb)
  replace HB := Lib.hid (below_only HB.out hb)
  replace HX := Lib.hid (HX.out.below hb)
  clear hb
  go_wp2_with (refine wpList_store_row rfl 43 (.tmp 8) (.tmp 42) rfl (w.heap.size + 1 + 1 + 1) (toldR r 22 0 noS).arr rfl rfl 43 ZRun HZ.out infoRun rfl (Rn.one _) ?_)
  refine bodyPost_ret (results_cell_row (fn := Tryz.f43) rfl _ _ (w.heap.size + 1 + 1 + 1) 43 (toldR r 22 0 noS).arr (0, 0) _ rfl (setRow_heap w5 _ _ _ _ (0, 0) HZ.out) undRun rfl infoRun) rfl ?_
  exact ⟨by rw [e1.out], below_setRow HB.out (by omega) _⟩

set_option maxRecDepth 100000 in
set_option maxHeartbeats 4000000 in
theorem rvalue_gate (X q d : Nat) (s t i h : Int) (ws : List Int) (k : Nat) (r : Rn) (sc ep at_ hsc hep hat : Int) (w : World) (H : RAll w X q d s t i h ws) (hs : r.said = noS) (ha : at_ = 8 * (k : Int)) (sz sl tg : Int) (hH : HeadOk sz sl tg sc ep) (h1 : ws[k]? = some (head1 sz sl tg)) (h2 : ws[k + 1]? = some (head2 sc ep)) (hop : r.c.op = 11) (l : List Ent) (hl : l.length ≤ 1048576) (hn : r.chain.n = l.length) (hkc : l.length ≤ r.chain.c) (hE : Ents w r.chain.a l) :
  Calls Tryz.prog 43 #[.pointer (some ⟨X, 0, none⟩), r.v, .agg #[.int .i64 hsc, .int .i64 hep, .int .i64 hat], .agg #[.int .i64 sc, .int .i64 ep, .int .i64 at_]] w fun e w' => e = .returned (if above l sc r.c.a = true then ({ r with pc := 12 } : Rn) else toldR r 22 0 noS).v ∧ Below w.heap.size w w' := by
 have HC := fun w' (H' : RAll w' X q d s t i h ws) => Lib.hid (rhead_ok X q d s t i h ws k sc ep at_ w' H' ha sz sl tg hH h1 h2)
 have HX := Lib.hid H
 have HSd := Lib.hid hs
 have HAb : ∀ w', Ents w' r.chain.a l → Hid (Calls Tryz.prog 88 #[.slice r.chain.a r.chain.n r.chain.c, .int .i64 sc, .int .i64 r.c.a] w' fun e w'' => e = .returned (.bool (above l sc r.c.a)) ∧ Below w'.heap.size w' w'') := by
  intro w' h'
  rw [hn]
  exact Lib.hid ((rabove_any r.chain.a r.chain.c l sc r.c.a w' (by omega) hkc h').mono (fun e w'' hh => ⟨hh.1, by rw [hh.2]; exact Below.refl _ _⟩))
 have HE := Lib.hid hE
 have Hop := Lib.hid hop
 obtain ⟨Z, HZq⟩ : ∃ Z : Rn, Hid ((if above l sc r.c.a = true then ({ r with pc := 12 } : Rn) else toldR r 22 0 noS) = Z) := ⟨_, Lib.hid rfl⟩
 rw [HZq.out]
 obtain ⟨ab, Hab⟩ : ∃ x, Hid (above l sc r.c.a = x) := ⟨_, Lib.hid rfl⟩
 rw [Hab.out] at HAb HZq
 clear hop hl hn hkc hE hH
 clear H hs ha h1 h2
 go_enter Tryz.func43, Tryz.ntmps43
 go_upto_region 1 with fail
 refine four_rows16 w _ _ _ _ _ _ _ _ ?_
 intro w1 h1 h2 h3 h4 hb
 have HR := Lib.hid h1
 have HF := Lib.hid h2
 have HV := Lib.hid h3
 have HZ := Lib.hid h4
 have HB := Lib.hid hb
 replace HX := Lib.hid (HX.out.below hb)
 replace HE := Lib.hid (Ents.below HE.out hb)
 clear h1 h2 h3 h4 hb
 obtain ⟨f0, f1, f2, _, _, _⟩ := box3 HV.out
 have zf := lt_of_heap HV.out
 go_wp2_with fail
 clear f0 f1 f2 zf
 refine (HC _ HX.out).out.mono ?_
 rintro e' w2 ⟨rfl, hb⟩
 replace HR := Lib.hid (row_below HR.out hb)
 replace HF := Lib.hid (row_below HF.out hb)
 replace HV := Lib.hid (row_below HV.out hb)
 replace HZ := Lib.hid (row_below HZ.out hb)
 replace HB := Lib.hid (below_only HB.out hb)
 replace HX := Lib.hid (HX.out.below hb)
 replace HE := Lib.hid (Ents.below HE.out hb)
 clear hb HC
 go_upto_region 2 with fail
 refine one_row w2 _ _ ?_
 intro w3 hr hb
 replace HR := Lib.hid (row_below HR.out hb)
 replace HF := Lib.hid (row_below HF.out hb)
 replace HV := Lib.hid (row_below HV.out hb)
 replace HZ := Lib.hid (row_below HZ.out hb)
 replace HB := Lib.hid (below_only HB.out hb)
 replace HX := Lib.hid (HX.out.below hb)
 replace HE := Lib.hid (Ents.below HE.out hb)
 clear hr hb
 obtain ⟨f0, f1, f2, _, _, _⟩ := box3 HF.out
 have zf := lt_of_heap HF.out
 obtain ⟨g0, g1, g2, _, _, _⟩ := box3 HV.out
 have zg := lt_of_heap HV.out
 have q0 : w3.cell? ⟨w.heap.size, 0, none⟩ = some (.int .u8 11) := by rw [row_cell HR.out, ← Hop.out]; rfl
 have q4 : w3.cell? ⟨w.heap.size, 4, none⟩ = some (.int .i64 r.c.a) := by rw [row_cell HR.out]; rfl
 have q11 : w3.cell? ⟨w.heap.size, 11, none⟩ = some r.chain.v := by rw [row_cell HR.out]; rfl
 have zr := lt_of_heap HR.out
 go_wp2_with fail
 refine (HAb _ HE.out).out.mono ?_
 rintro e' w4 ⟨rfl, hb⟩
 clear f0 f1 f2 zf g0 g1 g2 zg q0 q4 q11 zr
 replace HR := Lib.hid (row_below HR.out hb)
 replace HF := Lib.hid (row_below HF.out hb)
 replace HV := Lib.hid (row_below HV.out hb)
 replace HZ := Lib.hid (row_below HZ.out hb)
 replace HB := Lib.hid (below_only HB.out hb)
 replace HX := Lib.hid (HX.out.below hb)
 clear hb
 cases ab with
 | true =>
  have e1 : Hid (Z = { r with pc := 12 }) := Lib.hid (by rw [← HZq.out, if_pos rfl])
  go_wp2_with (refine wpList_load_row rfl 43 (.tmp 5) rfl w.heap.size rfl 43 r.arr (0, 0) _ HR.out undRun rfl infoRun ?_)
  refine (rat_any r 12 _).mono ?_
  rintro e' w5 ⟨rfl, hb⟩
  replace HR := Lib.hid (row_below HR.out hb)
  replace HF := Lib.hid (row_below HF.out hb)
  replace HV := Lib.hid (row_below HV.out hb)
  replace HZ := Lib.hid (row_below HZ.out hb)
  replace HB := Lib.hid (below_only HB.out hb)
  replace HX := Lib.hid (HX.out.below hb)
  clear hb
  go_wp2_with (refine wpList_store_row rfl 43 (.tmp 8) (.tmp 45) rfl (w.heap.size + 1 + 1 + 1) ({ r with pc := 12 } : Rn).arr rfl rfl 43 ZRun HZ.out infoRun rfl (Rn.one _) ?_)
  refine bodyPost_ret (results_cell_row (fn := Tryz.f43) rfl _ _ (w.heap.size + 1 + 1 + 1) 43 ({ r with pc := 12 } : Rn).arr (0, 0) _ rfl (setRow_heap w5 _ _ _ _ (0, 0) HZ.out) undRun rfl infoRun) rfl ?_
  exact ⟨by rw [e1.out], below_setRow HB.out (by omega) _⟩
 | false =>
  have e1 : Hid (Z = toldR r 22 0 noS) := Lib.hid (by rw [← HZq.out, if_neg (by decide)])
  go_wp2_with (refine wpList_load_row rfl 43 (.tmp 5) rfl w.heap.size rfl 43 r.arr (0, 0) _ HR.out undRun rfl infoRun ?_)
  refine (rtell16 r 22 0 _ HSd.out).mono ?_
  rintro e' w5 ⟨rfl, hb⟩
  replace HR := Lib.hid (row_below HR.out hb)
  replace HF := Lib.hid (row_below HF.out hb)
  replace HV := Lib.hid (row_below HV.out hb)
  replace HZ := Lib.hid (row_below HZ.out hb)
  replace HB := Lib.hid (below_only HB.out hb)
  replace HX := Lib.hid (HX.out.below hb)
  clear hb
  go_wp2_with (refine wpList_store_row rfl 43 (.tmp 8) (.tmp 42) rfl (w.heap.size + 1 + 1 + 1) (toldR r 22 0 noS).arr rfl rfl 43 ZRun HZ.out infoRun rfl (Rn.one _) ?_)
  refine bodyPost_ret (results_cell_row (fn := Tryz.f43) rfl _ _ (w.heap.size + 1 + 1 + 1) 43 (toldR r 22 0 noS).arr (0, 0) _ rfl (setRow_heap w5 _ _ _ _ (0, 0) HZ.out) undRun rfl infoRun) rfl ?_
  exact ⟨by rw [e1.out], below_setRow HB.out (by omega) _⟩

end Go.Proofs.YtnimaajnlkbdaaaGreat
