/- Layer 15: the walk of take.Step. (Printed by gen_taked.py.) -/
import Derived.Test.YtoadddfiibeenaaTakeP
import Derived.Test.YtoadddfiibeenaaTakeC
namespace Go.Proofs.Ytoadddfiibeenaa
open Go.RowKit
set_option linter.unusedVariables false
set_option linter.unusedSimpArgs false

abbrev stF (n : Nat) : Value := .func (.func n) #[] #[]
abbrev takM : Array MapEntry := #[⟨.int .i64 5, stF 32, 0⟩, ⟨.int .i64 2, stF 33, 1⟩, ⟨.int .i64 3, stF 34, 2⟩, ⟨.int .i64 4, stF 35, 3⟩]
abbrev takLit (p : Nat) (s t i h : Int) (r : Rn) : Array Value := #[.int .i64 s, .int .i64 t, .int .i64 i, .int .i64 h, .pointer (some ⟨p, 0, none⟩), .int .u8 r.c.op, .int .u8 r.c.r, .int .u8 r.c.h, .int .u8 r.c.v, .int .i64 r.c.a, .int .i64 r.c.b, .int .i64 r.c.c, .int .i64 r.pc, .int .i64 r.area, .int .u64 r.hand, .int .u64 r.val, r.chain.v, .int .u64 r.word, .int .u64 r.next, .int .i64 r.at_, .int .i64 r.top, r.list.v, .int .i64 r.op, r.said.v, .int .i64 r.n, .bool r.held, .bool r.done, .bool r.point, .int .i64 r.code, .int .i64 r.an, r.asaid.v]
theorem tak_lit (p : Nat) (s t i h : Int) (r : Rn) : takLit p s t i h r = preArr (takPre p s t i h) r.arr := by simp [preArr]
theorem builtZ : Try.prog.built 42 [] = some ZRun := by kernel_rfl
set_option maxRecDepth 100000 in
set_option maxHeartbeats 2000000 in
theorem takeStep_any (p b k : Nat) (s t i h : Int) (ws : List Int) (c : Ctl) (ba bu tp : Int) (r : Rn) (w : World) (H : PlanOk s t i h) (hA : Arn w p b ws) (hI : TkIn s ws k c ba bu tp r) (hd : r.done = false) :
    Calls Try.prog 12 #[.agg #[.int .i64 s, .int .i64 t, .int .i64 i, .int .i64 h], .pointer (some ⟨p, 0, none⟩), r.v] w fun e w' => e = .returned (.tuple #[(takeR c ba bu tp r).v, .int .i64 0]) ∧ Arn w' p b (takeW ws k tp r) ∧ Keep [b] w w' := by
  have HH := Lib.hid H
  have HA := Lib.hid hA
  have HI := Lib.hid hI
  clear hI
  have Hd := Lib.hid hd
  clear H hA hd
  go_enter Try.func12, Try.ntmps12
  go_upto_region 1 with fail
  refine three_rows w _ _ _ _ _ _ ?_
  intro W hP hR hZ hB
  have HP := Lib.hid hP
  have HR := Lib.hid hR
  have HZ := Lib.hid hZ
  have HB := Lib.hid hB
  clear hP hR hZ hB
  go_upto_region 2 with (first
    | refine wpList_makeMap rfl 99 rfl ?_
    | (refine wpList_insert rfl 99 _ _ _ rfl 3 97 Try.underlying99 Try.underlying3 W.heap.size 5 (stF 32) #[] 0 rfl rfl rfl (MapKept.heap_alloc W _).1 rfl ?_; intro w3 hM hG)
    | (refine wpList_insert rfl 99 _ _ _ rfl 3 97 Try.underlying99 Try.underlying3 W.heap.size 2 (stF 33) _ 1 rfl rfl rfl hM rfl ?_; intro w4 hM2 hG2)
    | (refine wpList_insert rfl 99 _ _ _ rfl 3 97 Try.underlying99 Try.underlying3 W.heap.size 3 (stF 34) _ 2 rfl rfl rfl hM2 rfl ?_; intro w5 hM3 hG3)
    | (refine wpList_insert rfl 99 _ _ _ rfl 3 97 Try.underlying99 Try.underlying3 W.heap.size 4 (stF 35) _ 3 rfl rfl rfl hM3 rfl ?_; intro w6 hM4 hG4))
  have HB24 := Lib.hid (below_grown_on (below_grown_on (below_grown_on (below_grown_new hG) (Nat.le_refl _) hG2) (Nat.le_refl _) hG3) (Nat.le_refl _) hG4)
  have HM : Hid (w6.heap[W.heap.size]? = some (.map takM 4)) := Lib.hid hM4
  clear hM hM2 hM3 hM4 hG hG2 hG3 hG4
  replace HP := Lib.hid (row_below HP.out HB24.out)
  replace HR := Lib.hid (row_below HR.out HB24.out)
  replace HZ := Lib.hid (row_below HZ.out HB24.out)
  have HB6 := Lib.hid (below_only HB.out HB24.out)
  obtain ⟨mb, Hmb⟩ : ∃ mb, mb = W.heap.size := ⟨_, rfl⟩
  rw [← Hmb] at HM ⊢
  clear HB HB24 Hmb
  have q7 : w6.cell? ⟨w.heap.size + 1, 7, none⟩ = some (.int .i64 r.pc) := by rw [row_cell HR.out]; rfl
  have q21 : w6.cell? ⟨w.heap.size + 1, 21, none⟩ = some (.bool false) := by rw [row_cell HR.out, ← Hd.out]; rfl
  rcases HI.out.pcs with hp | hp | hp | hp
  · skip
    rw [hp] at q7
    have Hp := Lib.hid hp
    clear hp
    obtain ⟨x0, x1, x2, x3, _⟩ := box4 HP.out
    go_upto_region 6 with (first | (refine wpList_lookup_now rfl 99 _ _ rfl 3 97 Try.underlying99 Try.underlying3 mb 5 takM 4 rfl rfl HM.out 0 (stF 32) rfl ?_) | refine wpList_load_row rfl 42 (.tmp 5) rfl (w.heap.size + 1) rfl 42 r.arr (0, 0) _ HR.out undRun rfl infoRun ?_)
    refine one_row w6 _ _ ?_
    intro w7 hC hb
    obtain ⟨g, Hg⟩ : ∃ g, g = w6.heap.size := ⟨_, rfl⟩
    rw [← Hg] at hC ⊢
    have HT : Hid (Tak w7 g p s t i h r) := Lib.hid (hC.trans (by rw [← tak_lit]))
    replace HZ := Lib.hid (row_below HZ.out hb)
    have HB7 := Lib.hid (below_only HB6.out hb)
    have Hgw : Hid (w.heap.size ≤ g) := Lib.hid (by rw [Hg]; exact HB6.out.size)
    have Hgb : Hid (g ≠ p ∧ g ≠ b ∧ g ≠ w.heap.size + 2) := Lib.hid (by
      have h1 := lt_of_heap (HA.out.below HB6.out).box
      have h2 := lt_of_heap (HA.out.below HB6.out).row
      have h3 := lt_of_heap (HP.out)
      have h4 := lt_of_heap HR.out
      refine ⟨by omega, by omega, ?_⟩
      intro e
      have h5 := HZ.out
      have h6 := HT.out
      unfold Tak at h6
      rw [e] at h6
      rw [show w.heap.size + 1 + 1 = w.heap.size + 2 from rfl] at h5
      rw [h6] at h5
      injection h5 with h5
      injection h5 with _ h5
      exact absurd h5 (by decide))
    clear hC hb Hg x0 x1 x2 x3 HP HR
    go_wp2_with fail
    have Hst : Hid (takeR c ba bu tp r = { r with next := c.ep, pc := 2 } ∧ takeW ws k tp r = ws) := Lib.hid ⟨by unfold takeR; rw [if_pos Hp.out], takeW_same (by rw [Hp.out]; decide)⟩
    refine (takCtl_any g p b s t i h ws (8 * k) c r _ HH.out HT.out (HA.out.below HB7.out) HI.out.blk.right HI.out.blk.ctl (by have := HI.out.area; omega) (by have := HI.out.area; have := HI.out.lt; omega)).mono ?_
    rintro e' w9 ⟨rfl, hC5, hK5⟩
    obtain ⟨R, HRq⟩ : ∃ R : Rn, Hid (R = { r with next := c.ep, pc := 2 }) := ⟨_, Lib.hid rfl⟩
    rw [← HRq.out] at Hst hC5
    have HT9 : Hid (Tak w9 g p s t i h R) := Lib.hid hC5
    have HA9 := Lib.hid ((HA.out.below HB7.out).kept hK5 (by simpa using fun e => Hgb.out.1 e.symm) (by simpa using fun e => Hgb.out.2.1 e.symm))
    replace HZ := Lib.hid (hK5.row HZ.out (by simpa using fun e => Hgb.out.2.2 e.symm))
    have HK9 := Lib.hid ((keep_below HB7.out [b]).then hK5 (fun i hi h => by simp at h; have := Hgw.out; omega))
    clear hC5 hK5 HRq
    clear q7 q21
    go_wp2_with (first | refine wpList_load_sub rfl 42 (.tmp 38) rfl g 5 rfl 102 (preArr (takPre p s t i h) R.arr) R.arr (0, 0) _ HT9.out (fun j v hv => by rw [pre_get (takPre p s t i h) _ (5 + j) j rfl]; exact hv) undRun rfl infoRun ?_ | refine wpList_store_row rfl 42 (.tmp 6) (.tmp 39) rfl (w.heap.size + 1 + 1) R.arr rfl rfl 42 ZRun HZ.out infoRun rfl (Rn.one _) ?_)
    refine bodyPost_ret (results_cell_row_tmp (fn := Try.f12) rfl _ _ (w.heap.size + 1 + 1) 42 R.arr (0, 0) _ rfl (setRow_heap w9 _ _ _ _ (0, 0) HZ.out) undRun rfl infoRun) rfl ?_
    have hKs := (Keep.refl [w.heap.size + 1 + 1] w9).setRow (g := w.heap.size + 1 + 1) (.inl (by simp)) R.arr
    have hlp := lt_of_heap HA.out.box
    have hlb := lt_of_heap HA.out.row
    rw [Hst.out.1, Hst.out.2]
    exact ⟨rfl, HA9.out.kept hKs (by simp; omega) (by simp; omega), HK9.out.then hKs (fun i hi h => by simp at h ⊢; omega)⟩
  · skip
    rw [hp] at q7
    have Hp := Lib.hid hp
    clear hp
    obtain ⟨x0, x1, x2, x3, _⟩ := box4 HP.out
    go_upto_region 6 with (first | (refine wpList_lookup_now rfl 99 _ _ rfl 3 97 Try.underlying99 Try.underlying3 mb 2 takM 4 rfl rfl HM.out 1 (stF 33) rfl ?_) | refine wpList_load_row rfl 42 (.tmp 5) rfl (w.heap.size + 1) rfl 42 r.arr (0, 0) _ HR.out undRun rfl infoRun ?_)
    refine one_row w6 _ _ ?_
    intro w7 hC hb
    obtain ⟨g, Hg⟩ : ∃ g, g = w6.heap.size := ⟨_, rfl⟩
    rw [← Hg] at hC ⊢
    have HT : Hid (Tak w7 g p s t i h r) := Lib.hid (hC.trans (by rw [← tak_lit]))
    replace HZ := Lib.hid (row_below HZ.out hb)
    have HB7 := Lib.hid (below_only HB6.out hb)
    have Hgw : Hid (w.heap.size ≤ g) := Lib.hid (by rw [Hg]; exact HB6.out.size)
    have Hgb : Hid (g ≠ p ∧ g ≠ b ∧ g ≠ w.heap.size + 2) := Lib.hid (by
      have h1 := lt_of_heap (HA.out.below HB6.out).box
      have h2 := lt_of_heap (HA.out.below HB6.out).row
      have h3 := lt_of_heap (HP.out)
      have h4 := lt_of_heap HR.out
      refine ⟨by omega, by omega, ?_⟩
      intro e
      have h5 := HZ.out
      have h6 := HT.out
      unfold Tak at h6
      rw [e] at h6
      rw [show w.heap.size + 1 + 1 = w.heap.size + 2 from rfl] at h5
      rw [h6] at h5
      injection h5 with h5
      injection h5 with _ h5
      exact absurd h5 (by decide))
    clear hC hb Hg x0 x1 x2 x3 HP HR
    go_wp2_with fail
    have Hst : Hid (takeR c ba bu tp r = { r with at_ := ba, pc := 3 } ∧ takeW ws k tp r = ws) := Lib.hid ⟨by unfold takeR; rw [if_neg (by rw [Hp.out]; decide), if_pos Hp.out], takeW_same (by rw [Hp.out]; decide)⟩
    refine (takBase_any g p b s t i h ws (8 * k + 1) ba r _ HH.out HT.out (HA.out.below HB7.out) HI.out.blk.ba (by have := HI.out.area; omega) (by have := HI.out.area; have := HI.out.lt; omega) HI.out.bd1).mono ?_
    rintro e' w9 ⟨rfl, hC5, hK5⟩
    obtain ⟨R, HRq⟩ : ∃ R : Rn, Hid (R = { r with at_ := ba, pc := 3 }) := ⟨_, Lib.hid rfl⟩
    rw [← HRq.out] at Hst hC5
    have HT9 : Hid (Tak w9 g p s t i h R) := Lib.hid hC5
    have HA9 := Lib.hid ((HA.out.below HB7.out).kept hK5 (by simpa using fun e => Hgb.out.1 e.symm) (by simpa using fun e => Hgb.out.2.1 e.symm))
    replace HZ := Lib.hid (hK5.row HZ.out (by simpa using fun e => Hgb.out.2.2 e.symm))
    have HK9 := Lib.hid ((keep_below HB7.out [b]).then hK5 (fun i hi h => by simp at h; have := Hgw.out; omega))
    clear hC5 hK5 HRq
    clear q7 q21
    go_wp2_with (first | refine wpList_load_sub rfl 42 (.tmp 38) rfl g 5 rfl 102 (preArr (takPre p s t i h) R.arr) R.arr (0, 0) _ HT9.out (fun j v hv => by rw [pre_get (takPre p s t i h) _ (5 + j) j rfl]; exact hv) undRun rfl infoRun ?_ | refine wpList_store_row rfl 42 (.tmp 6) (.tmp 39) rfl (w.heap.size + 1 + 1) R.arr rfl rfl 42 ZRun HZ.out infoRun rfl (Rn.one _) ?_)
    refine bodyPost_ret (results_cell_row_tmp (fn := Try.f12) rfl _ _ (w.heap.size + 1 + 1) 42 R.arr (0, 0) _ rfl (setRow_heap w9 _ _ _ _ (0, 0) HZ.out) undRun rfl infoRun) rfl ?_
    have hKs := (Keep.refl [w.heap.size + 1 + 1] w9).setRow (g := w.heap.size + 1 + 1) (.inl (by simp)) R.arr
    have hlp := lt_of_heap HA.out.box
    have hlb := lt_of_heap HA.out.row
    rw [Hst.out.1, Hst.out.2]
    exact ⟨rfl, HA9.out.kept hKs (by simp; omega) (by simp; omega), HK9.out.then hKs (fun i hi h => by simp at h ⊢; omega)⟩
  · skip
    rw [hp] at q7
    have Hp := Lib.hid hp
    clear hp
    obtain ⟨x0, x1, x2, x3, _⟩ := box4 HP.out
    go_upto_region 6 with (first | (refine wpList_lookup_now rfl 99 _ _ rfl 3 97 Try.underlying99 Try.underlying3 mb 3 takM 4 rfl rfl HM.out 2 (stF 34) rfl ?_) | refine wpList_load_row rfl 42 (.tmp 5) rfl (w.heap.size + 1) rfl 42 r.arr (0, 0) _ HR.out undRun rfl infoRun ?_)
    refine one_row w6 _ _ ?_
    intro w7 hC hb
    obtain ⟨g, Hg⟩ : ∃ g, g = w6.heap.size := ⟨_, rfl⟩
    rw [← Hg] at hC ⊢
    have HT : Hid (Tak w7 g p s t i h r) := Lib.hid (hC.trans (by rw [← tak_lit]))
    replace HZ := Lib.hid (row_below HZ.out hb)
    have HB7 := Lib.hid (below_only HB6.out hb)
    have Hgw : Hid (w.heap.size ≤ g) := Lib.hid (by rw [Hg]; exact HB6.out.size)
    have Hgb : Hid (g ≠ p ∧ g ≠ b ∧ g ≠ w.heap.size + 2) := Lib.hid (by
      have h1 := lt_of_heap (HA.out.below HB6.out).box
      have h2 := lt_of_heap (HA.out.below HB6.out).row
      have h3 := lt_of_heap (HP.out)
      have h4 := lt_of_heap HR.out
      refine ⟨by omega, by omega, ?_⟩
      intro e
      have h5 := HZ.out
      have h6 := HT.out
      unfold Tak at h6
      rw [e] at h6
      rw [show w.heap.size + 1 + 1 = w.heap.size + 2 from rfl] at h5
      rw [h6] at h5
      injection h5 with h5
      injection h5 with _ h5
      exact absurd h5 (by decide))
    clear hC hb Hg x0 x1 x2 x3 HP HR
    go_wp2_with fail
    have Hst : Hid (takeR c ba bu tp r = { r with word := bu, pc := 4 } ∧ takeW ws k tp r = ws) := Lib.hid ⟨by unfold takeR; rw [if_neg (by rw [Hp.out]; decide), if_neg (by rw [Hp.out]; decide), if_pos Hp.out], takeW_same (by rw [Hp.out]; decide)⟩
    refine (takBudget_any g p b s t i h ws (8 * k + 2) bu r _ HH.out HT.out (HA.out.below HB7.out) HI.out.blk.bu (by have := HI.out.area; omega) (by have := HI.out.area; have := HI.out.lt; omega) HI.out.bd2).mono ?_
    rintro e' w9 ⟨rfl, hC5, hK5⟩
    obtain ⟨R, HRq⟩ : ∃ R : Rn, Hid (R = { r with word := bu, pc := 4 }) := ⟨_, Lib.hid rfl⟩
    rw [← HRq.out] at Hst hC5
    have HT9 : Hid (Tak w9 g p s t i h R) := Lib.hid hC5
    have HA9 := Lib.hid ((HA.out.below HB7.out).kept hK5 (by simpa using fun e => Hgb.out.1 e.symm) (by simpa using fun e => Hgb.out.2.1 e.symm))
    replace HZ := Lib.hid (hK5.row HZ.out (by simpa using fun e => Hgb.out.2.2 e.symm))
    have HK9 := Lib.hid ((keep_below HB7.out [b]).then hK5 (fun i hi h => by simp at h; have := Hgw.out; omega))
    clear hC5 hK5 HRq
    clear q7 q21
    go_wp2_with (first | refine wpList_load_sub rfl 42 (.tmp 38) rfl g 5 rfl 102 (preArr (takPre p s t i h) R.arr) R.arr (0, 0) _ HT9.out (fun j v hv => by rw [pre_get (takPre p s t i h) _ (5 + j) j rfl]; exact hv) undRun rfl infoRun ?_ | refine wpList_store_row rfl 42 (.tmp 6) (.tmp 39) rfl (w.heap.size + 1 + 1) R.arr rfl rfl 42 ZRun HZ.out infoRun rfl (Rn.one _) ?_)
    refine bodyPost_ret (results_cell_row_tmp (fn := Try.f12) rfl _ _ (w.heap.size + 1 + 1) 42 R.arr (0, 0) _ rfl (setRow_heap w9 _ _ _ _ (0, 0) HZ.out) undRun rfl infoRun) rfl ?_
    have hKs := (Keep.refl [w.heap.size + 1 + 1] w9).setRow (g := w.heap.size + 1 + 1) (.inl (by simp)) R.arr
    have hlp := lt_of_heap HA.out.box
    have hlb := lt_of_heap HA.out.row
    rw [Hst.out.1, Hst.out.2]
    exact ⟨rfl, HA9.out.kept hKs (by simp; omega) (by simp; omega), HK9.out.then hKs (fun i hi h => by simp at h ⊢; omega)⟩
  · skip
    rw [hp] at q7
    have Hp := Lib.hid hp
    clear hp
    obtain ⟨x0, x1, x2, x3, _⟩ := box4 HP.out
    go_upto_region 6 with (first | (refine wpList_lookup_now rfl 99 _ _ rfl 3 97 Try.underlying99 Try.underlying3 mb 4 takM 4 rfl rfl HM.out 3 (stF 35) rfl ?_) | refine wpList_load_row rfl 42 (.tmp 5) rfl (w.heap.size + 1) rfl 42 r.arr (0, 0) _ HR.out undRun rfl infoRun ?_)
    refine one_row w6 _ _ ?_
    intro w7 hC hb
    obtain ⟨g, Hg⟩ : ∃ g, g = w6.heap.size := ⟨_, rfl⟩
    rw [← Hg] at hC ⊢
    have HT : Hid (Tak w7 g p s t i h r) := Lib.hid (hC.trans (by rw [← tak_lit]))
    replace HZ := Lib.hid (row_below HZ.out hb)
    have HB7 := Lib.hid (below_only HB6.out hb)
    have Hgw : Hid (w.heap.size ≤ g) := Lib.hid (by rw [Hg]; exact HB6.out.size)
    have Hgb : Hid (g ≠ p ∧ g ≠ b ∧ g ≠ w.heap.size + 2) := Lib.hid (by
      have h1 := lt_of_heap (HA.out.below HB6.out).box
      have h2 := lt_of_heap (HA.out.below HB6.out).row
      have h3 := lt_of_heap (HP.out)
      have h4 := lt_of_heap HR.out
      refine ⟨by omega, by omega, ?_⟩
      intro e
      have h5 := HZ.out
      have h6 := HT.out
      unfold Tak at h6
      rw [e] at h6
      rw [show w.heap.size + 1 + 1 = w.heap.size + 2 from rfl] at h5
      rw [h6] at h5
      injection h5 with h5
      injection h5 with _ h5
      exact absurd h5 (by decide))
    clear hC hb Hg x0 x1 x2 x3 HP HR
    go_wp2_with fail
    by_cases hf : tp + 8 * wordsN r.c.a r.c.b ≤ r.word
    · skip
      obtain ⟨K, z0, z1, k1, k2, k3, k4, k5, k6, k7, _⟩ := HI.out.place Hp.out hf
      have Hst : Hid (takeR c ba bu tp r = toldR r 0 (hdl r.area r.next (K : Int)) noS ∧ takeW ws k tp r = ((ws.set (8 * k + 3) (tp + 8 * wordsN r.c.a r.c.b)).set K (head1 (wordsN r.c.a r.c.b) r.c.a r.c.c)).set (K + 1) (head2 r.area r.next)) := Lib.hid ⟨by unfold takeR; rw [if_neg (by rw [Hp.out]; decide), if_neg (by rw [Hp.out]; decide), if_neg (by rw [Hp.out]; decide), if_pos hf, k7], by unfold takeW; rw [if_pos ⟨Hp.out, hf⟩, k6]⟩
      have HC := Lib.hid (takClaim_yes g p b s t i h ws (8 * k + 3) K z0 z1 tp r _ HH.out HT.out (HA.out.below HB7.out) HI.out.blk.tp (by have := HI.out.area; omega) (by have := HI.out.area; have := HI.out.lt; omega) HI.out.s8 ⟨HI.out.bd3, (HI.out.wd Hp.out).1⟩ (HI.out.wd Hp.out).2 (by have := HI.out.at4 Hp.out; have := HI.out.lt; omega) HI.out.ca HI.out.cb HI.out.cc (HI.out.nx Hp.out) HI.out.said ⟨Hgb.out.1, Hgb.out.2.1⟩ hf k1 k2 k3 k4 k5)
      clear hf k1 k2 k3 k4 k5 k6 k7
      refine HC.out.mono ?_
      rintro e' w9 ⟨rfl, hC5, hA5, hK5⟩
      obtain ⟨R, HRq⟩ : ∃ R : Rn, Hid (R = toldR r 0 (hdl r.area r.next (K : Int)) noS) := ⟨_, Lib.hid rfl⟩
      rw [← HRq.out] at Hst hC5
      have HT9 : Hid (Tak w9 g p s t i h R) := Lib.hid hC5
      clear HRq
      have HA9 := Lib.hid hA5
      have Hbz : Hid (b ≠ w.heap.size + 1 + 1) := Lib.hid (by have := lt_of_heap HA.out.row; omega)
      replace HZ := Lib.hid (hK5.row HZ.out (by simp; exact ⟨fun e => Hgb.out.2.2 e.symm, fun e => Hbz.out e.symm⟩))
      have HK9 := Lib.hid ((keep_below HB7.out [b]).then hK5 (fun i hi h => by simp at h ⊢; have := Hgw.out; omega))
      clear hC5 hK5 hA5
      clear q7 q21
      go_wp2_with (first | refine wpList_load_sub rfl 42 (.tmp 38) rfl g 5 rfl 102 (preArr (takPre p s t i h) R.arr) R.arr (0, 0) _ HT9.out (fun j v hv => by rw [pre_get (takPre p s t i h) _ (5 + j) j rfl]; exact hv) undRun rfl infoRun ?_ | refine wpList_store_row rfl 42 (.tmp 6) (.tmp 39) rfl (w.heap.size + 1 + 1) R.arr rfl rfl 42 ZRun HZ.out infoRun rfl (Rn.one _) ?_)
      refine bodyPost_ret (results_cell_row_tmp (fn := Try.f12) rfl _ _ (w.heap.size + 1 + 1) 42 R.arr (0, 0) _ rfl (setRow_heap w9 _ _ _ _ (0, 0) HZ.out) undRun rfl infoRun) rfl ?_
      have hKs := (Keep.refl [w.heap.size + 1 + 1] w9).setRow (g := w.heap.size + 1 + 1) (.inl (by simp)) R.arr
      have hlp := lt_of_heap HA.out.box
      have hlb := lt_of_heap HA.out.row
      rw [Hst.out.1, Hst.out.2]
      exact ⟨rfl, HA9.out.kept hKs (by simp; omega) (by simp; omega), HK9.out.then hKs (fun i hi h => by simp at h ⊢; omega)⟩
    · skip
      have Hst : Hid (takeR c ba bu tp r = toldR r 17 0 noS ∧ takeW ws k tp r = ws) := Lib.hid ⟨by unfold takeR; rw [if_neg (by rw [Hp.out]; decide), if_neg (by rw [Hp.out]; decide), if_neg (by rw [Hp.out]; decide), if_neg hf], by unfold takeW; rw [if_neg (fun e => hf e.2)]⟩
      refine (takClaim_no g p b s t i h ws (8 * k + 3) tp r _ HH.out HT.out (HA.out.below HB7.out) HI.out.blk.tp (by have := HI.out.area; omega) (by have := HI.out.area; have := HI.out.lt; omega) HI.out.s8 ⟨HI.out.bd3, (HI.out.wd Hp.out).1⟩ (HI.out.wd Hp.out).2 (by have := HI.out.at4 Hp.out; have := HI.out.lt; omega) HI.out.ca HI.out.cb HI.out.cc (HI.out.nx Hp.out) HI.out.said ⟨Hgb.out.1, Hgb.out.2.1⟩ (by omega)).mono ?_
      rintro e' w9 ⟨rfl, hC5, hK5⟩
      obtain ⟨R, HRq⟩ : ∃ R : Rn, Hid (R = (toldR r 17 0 noS)) := ⟨_, Lib.hid rfl⟩
      rw [← HRq.out] at Hst hC5
      have HT9 : Hid (Tak w9 g p s t i h R) := Lib.hid hC5
      have HA9 := Lib.hid ((HA.out.below HB7.out).kept hK5 (by simpa using fun e => Hgb.out.1 e.symm) (by simpa using fun e => Hgb.out.2.1 e.symm))
      replace HZ := Lib.hid (hK5.row HZ.out (by simpa using fun e => Hgb.out.2.2 e.symm))
      have HK9 := Lib.hid ((keep_below HB7.out [b]).then hK5 (fun i hi h => by simp at h; have := Hgw.out; omega))
      clear hC5 hK5 HRq
      clear q7 q21
      go_wp2_with (first | refine wpList_load_sub rfl 42 (.tmp 38) rfl g 5 rfl 102 (preArr (takPre p s t i h) R.arr) R.arr (0, 0) _ HT9.out (fun j v hv => by rw [pre_get (takPre p s t i h) _ (5 + j) j rfl]; exact hv) undRun rfl infoRun ?_ | refine wpList_store_row rfl 42 (.tmp 6) (.tmp 39) rfl (w.heap.size + 1 + 1) R.arr rfl rfl 42 ZRun HZ.out infoRun rfl (Rn.one _) ?_)
      refine bodyPost_ret (results_cell_row_tmp (fn := Try.f12) rfl _ _ (w.heap.size + 1 + 1) 42 R.arr (0, 0) _ rfl (setRow_heap w9 _ _ _ _ (0, 0) HZ.out) undRun rfl infoRun) rfl ?_
      have hKs := (Keep.refl [w.heap.size + 1 + 1] w9).setRow (g := w.heap.size + 1 + 1) (.inl (by simp)) R.arr
      have hlp := lt_of_heap HA.out.box
      have hlb := lt_of_heap HA.out.row
      rw [Hst.out.1, Hst.out.2]
      exact ⟨rfl, HA9.out.kept hKs (by simp; omega) (by simp; omega), HK9.out.then hKs (fun i hi h => by simp at h ⊢; omega)⟩

set_option maxRecDepth 100000 in
set_option maxHeartbeats 2000000 in
theorem takeStepDone_any (p b k : Nat) (s t i h : Int) (ws : List Int) (c : Ctl) (ba bu tp : Int) (r : Rn) (w : World) (H : PlanOk s t i h) (hA : Arn w p b ws) (hp : r.pc = 4) (hd : r.done = true) :
    Calls Try.prog 12 #[.agg #[.int .i64 s, .int .i64 t, .int .i64 i, .int .i64 h], .pointer (some ⟨p, 0, none⟩), r.v] w fun e w' => e = .returned (.tuple #[.agg ZRun, .int .i64 1]) ∧ Below w.heap.size w w' := by
  have HH := Lib.hid H
  have HA := Lib.hid hA
  have Hd := Lib.hid hd
  clear H hA hd
  go_enter Try.func12, Try.ntmps12
  go_upto_region 1 with fail
  refine three_rows w _ _ _ _ _ _ ?_
  intro W hP hR hZ hB
  have HP := Lib.hid hP
  have HR := Lib.hid hR
  have HZ := Lib.hid hZ
  have HB := Lib.hid hB
  clear hP hR hZ hB
  go_upto_region 2 with (first
    | refine wpList_makeMap rfl 99 rfl ?_
    | (refine wpList_insert rfl 99 _ _ _ rfl 3 97 Try.underlying99 Try.underlying3 W.heap.size 5 (stF 32) #[] 0 rfl rfl rfl (MapKept.heap_alloc W _).1 rfl ?_; intro w3 hM hG)
    | (refine wpList_insert rfl 99 _ _ _ rfl 3 97 Try.underlying99 Try.underlying3 W.heap.size 2 (stF 33) _ 1 rfl rfl rfl hM rfl ?_; intro w4 hM2 hG2)
    | (refine wpList_insert rfl 99 _ _ _ rfl 3 97 Try.underlying99 Try.underlying3 W.heap.size 3 (stF 34) _ 2 rfl rfl rfl hM2 rfl ?_; intro w5 hM3 hG3)
    | (refine wpList_insert rfl 99 _ _ _ rfl 3 97 Try.underlying99 Try.underlying3 W.heap.size 4 (stF 35) _ 3 rfl rfl rfl hM3 rfl ?_; intro w6 hM4 hG4))
  have HB24 := Lib.hid (below_grown_on (below_grown_on (below_grown_on (below_grown_new hG) (Nat.le_refl _) hG2) (Nat.le_refl _) hG3) (Nat.le_refl _) hG4)
  have HM : Hid (w6.heap[W.heap.size]? = some (.map takM 4)) := Lib.hid hM4
  clear hM hM2 hM3 hM4 hG hG2 hG3 hG4
  replace HP := Lib.hid (row_below HP.out HB24.out)
  replace HR := Lib.hid (row_below HR.out HB24.out)
  replace HZ := Lib.hid (row_below HZ.out HB24.out)
  have HB6 := Lib.hid (below_only HB.out HB24.out)
  obtain ⟨mb, Hmb⟩ : ∃ mb, mb = W.heap.size := ⟨_, rfl⟩
  rw [← Hmb] at HM ⊢
  clear HB HB24 Hmb
  have q7 : w6.cell? ⟨w.heap.size + 1, 7, none⟩ = some (.int .i64 r.pc) := by rw [row_cell HR.out]; rfl
  have q21 : w6.cell? ⟨w.heap.size + 1, 21, none⟩ = some (.bool true) := by rw [row_cell HR.out, ← Hd.out]; rfl
  rw [hp] at q7
  clear hp
  go_wp2_with (first | (refine wpList_lookup_now rfl 99 _ _ rfl 3 97 Try.underlying99 Try.underlying3 mb 4 takM 4 rfl rfl HM.out 3 (stF 35) rfl ?_) | refine wpList_build_to rfl 42 _ rfl ZRun (by simp only [List.map_toArray, List.map_nil]; exact builtZ) ?_ | refine wpList_store_row rfl 42 (.tmp 6) (.tmp 27) rfl (w.heap.size + 1 + 1) ZRun rfl rfl 42 ZRun HZ.out infoRun rfl (by kernel_rfl) ?_)
  refine bodyPost_ret (results_cell_row_tmp (fn := Try.f12) rfl _ _ (w.heap.size + 1 + 1) 42 ZRun (0, 0) _ rfl (setRow_heap w6 _ _ _ _ (0, 0) HZ.out) undRun rfl infoRun) rfl ?_
  exact ⟨rfl, below_setRow HB6.out (by omega) _⟩

end Go.Proofs.Ytoadddfiibeenaa
