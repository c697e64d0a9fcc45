/- The walk of begin's Of. -/
import Derived.Test.YtaneokplagdcfaaBeginF
import Derived.Test.YtaneokplagdcfaaTree
import Derived.Test.YtaneokplagdcfaaSame
namespace Go.Proofs.Ytaneokplagdcfaa
open Go.RowKit
set_option linter.unusedVariables false
/-- what a call's register has, as a begun call sees it -/
def regR (q0 q1 q2 q3 i : Int) : Int := if i = 0 then q0 else if i = 1 then q1 else if i = 2 then q2 else if i = 3 then q3 else 0
theorem regR_bd {q0 q1 q2 q3 i : Int} (h0 : 0 ≤ q0 ∧ q0 ≤ 18446744073709551615) (h1 : 0 ≤ q1 ∧ q1 ≤ 18446744073709551615) (h2 : 0 ≤ q2 ∧ q2 ≤ 18446744073709551615) (h3 : 0 ≤ q3 ∧ q3 ≤ 18446744073709551615) : 0 ≤ regR q0 q1 q2 q3 i ∧ regR q0 q1 q2 q3 i ≤ 18446744073709551615 := by
  unfold regR
  repeat' split
  all_goals first | assumption | omega
set_option maxRecDepth 100000 in
set_option maxHeartbeats 1000000 in
theorem reg_any (q0 q1 q2 q3 i : Int) (g R o : Nat) (cR : Nat) (w : World) (hc : 4 ≤ cR) (hi : 0 ≤ i ∧ i ≤ 255) (h : w.cell? ⟨g, 0, none⟩ = some (.slice (some ⟨R, o, none⟩) 4 cR))
    (e0 : w.cell? ⟨R, o, none⟩ = some (.int .u64 q0)) (e1 : w.cell? ⟨R, o + 1, none⟩ = some (.int .u64 q1)) (e2 : w.cell? ⟨R, o + 2, none⟩ = some (.int .u64 q2)) (e3 : w.cell? ⟨R, o + 3, none⟩ = some (.int .u64 q3)) :
    Calls Try.prog 23 #[.int .u8 i, .pointer (some ⟨g, 0, none⟩)] w fun r w' => r = .returned (.int .u64 (regR q0 q1 q2 q3 i)) ∧ w = w' := by
  obtain ⟨i0, i1⟩ := hi
  by_cases h4 : 4 ≤ i
  · have HR := Lib.hid (show regR q0 q1 q2 q3 i = 0 by unfold regR; rw [if_neg (by omega), if_neg (by omega), if_neg (by omega), if_neg (by omega)])
    rw [HR.out]
    have d1 : decide (i ≥ 4) = true := decide_eq_true h4
    have d2 : decide (4 ≤ i) = true := decide_eq_true h4
    clear h4
    go_enter Try.func23, Try.ntmps23
    go_wp2
    go_ret
    exact ⟨rfl, rfl⟩
  · obtain rfl | rfl | rfl | rfl : i = 0 ∨ i = 1 ∨ i = 2 ∨ i = 3 := by omega
    all_goals
      clear h4
      simp only [regR, Int.reduceEq, if_true, if_false]
      go_enter Try.func23, Try.ntmps23
      go_wp2
      go_ret
      exact ⟨rfl, rfl⟩

theorem four_rows {P : World → Prop} (w : World) (c0 c1 c2 c3 : Array Value) (t0 t1 t2 t3 : TypeId) (h : ∀ W, W.heap[w.heap.size]? = some (.cells c0 t0 (0, 0)) → W.heap[w.heap.size + 1]? = some (.cells c1 t1 (0, 0)) → W.heap[w.heap.size + 1 + 1]? = some (.cells c2 t2 (0, 0)) → W.heap[w.heap.size + 1 + 1 + 1]? = some (.cells c3 t3 (0, 0)) → Below w.heap.size w W → P W) :
    P ((((w.alloc (.cells c0 t0)).alloc (.cells c1 t1)).alloc (.cells c2 t2)).alloc (.cells c3 t3)) :=
  h _ (row_alloc (row_alloc (row_alloc (row_new _ _ _)))) (row_alloc (row_alloc (row_at (by simp)))) (row_alloc (row_at (by simp))) (row_at (by simp)) (by go_grown)
theorem one_row {P : World → Prop} (w : World) (c0 : Array Value) (t0 : TypeId) (h : ∀ W, W.heap[w.heap.size]? = some (.cells c0 t0 (0, 0)) → Below w.heap.size w W → P W) : P (w.alloc (.cells c0 t0)) :=
  h _ (row_new _ _ _) (by go_grown)
theorem box7 {w : World} {g : Nat} {a b c d e f x : Value} {t : TypeId} (h : w.heap[g]? = some (.cells #[a, b, c, d, e, f, x] t (0, 0))) :
    w.cell? ⟨g, 0, none⟩ = some a ∧ w.cell? ⟨g, 1, none⟩ = some b ∧ w.cell? ⟨g, 2, none⟩ = some c ∧ w.cell? ⟨g, 3, none⟩ = some d ∧ w.cell? ⟨g, 4, none⟩ = some e ∧ w.cell? ⟨g, 5, none⟩ = some f ∧ w.cell? ⟨g, 6, none⟩ = some x :=
  ⟨by rw [row_cell h]; rfl, by rw [row_cell h]; rfl, by rw [row_cell h]; rfl, by rw [row_cell h]; rfl, by rw [row_cell h]; rfl, by rw [row_cell h]; rfl, by rw [row_cell h]; rfl⟩

theorem box14 {w : World} {g : Nat} {a0 a1 a2 a3 a4 a5 a6 a7 a8 a9 a10 a11 a12 a13 : Value} {t : TypeId} (h : w.heap[g]? = some (.cells #[a0, a1, a2, a3, a4, a5, a6, a7, a8, a9, a10, a11, a12, a13] t (0, 0))) :
    w.cell? ⟨g, 0, none⟩ = some a0 ∧ w.cell? ⟨g, 1, none⟩ = some a1 ∧ w.cell? ⟨g, 2, none⟩ = some a2 ∧ w.cell? ⟨g, 3, none⟩ = some a3 ∧ w.cell? ⟨g, 4, none⟩ = some a4 ∧ w.cell? ⟨g, 5, none⟩ = some a5 ∧ w.cell? ⟨g, 6, none⟩ = some a6 ∧ w.cell? ⟨g, 7, none⟩ = some a7 ∧ w.cell? ⟨g, 8, none⟩ = some a8 ∧ w.cell? ⟨g, 9, none⟩ = some a9 ∧ w.cell? ⟨g, 10, none⟩ = some a10 ∧ w.cell? ⟨g, 11, none⟩ = some a11 ∧ w.cell? ⟨g, 12, none⟩ = some a12 ∧ w.cell? ⟨g, 13, none⟩ = some a13 :=
  ⟨by rw [row_cell h]; rfl, by rw [row_cell h]; rfl, by rw [row_cell h]; rfl, by rw [row_cell h]; rfl, by rw [row_cell h]; rfl, by rw [row_cell h]; rfl, by rw [row_cell h]; rfl, by rw [row_cell h]; rfl, by rw [row_cell h]; rfl, by rw [row_cell h]; rfl, by rw [row_cell h]; rfl, by rw [row_cell h]; rfl, by rw [row_cell h]; rfl, by rw [row_cell h]; rfl⟩

/-- a call that begins -/
def beginRn (n : Int) (l : List Ent) (c : Cal) (h v : Int) (ch : Sl) : Rn := ⟨c, if (beginS n l c h v).1 = 0 then (beginS n l c h v).2 else 0, area l, h, v, ch, 0, 0, 0, 0, noS, 0, noS, 0, false, false, false, (beginS n l c h v).1, 0, noS⟩
set_option maxRecDepth 100000 in
set_option maxHeartbeats 2000000 in
theorem of_any (P : Pln) (A : Option Addr) (k : Nat) (l : List Ent) (c : Cal) (q0 q1 q2 q3 : Int) (R o cR : Nat) (w : World) (hk : l.length ≤ k) (hl : l.length ≤ 1048576) (he : Ents w A l) (s0 : 1 ≤ P.s) (s1 : P.s ≤ 8) (hcal : CalOk c) (hcR : 4 ≤ cR)
    (b0 : 0 ≤ q0 ∧ q0 ≤ 18446744073709551615) (b1 : 0 ≤ q1 ∧ q1 ≤ 18446744073709551615) (b2 : 0 ≤ q2 ∧ q2 ≤ 18446744073709551615) (b3 : 0 ≤ q3 ∧ q3 ≤ 18446744073709551615)
    (e0 : w.cell? ⟨R, o, none⟩ = some (.int .u64 q0)) (e1 : w.cell? ⟨R, o + 1, none⟩ = some (.int .u64 q1)) (e2 : w.cell? ⟨R, o + 2, none⟩ = some (.int .u64 q2)) (e3 : w.cell? ⟨R, o + 3, none⟩ = some (.int .u64 q3)) :
    Calls Try.prog 10 #[P.val, .slice (some ⟨R, o, none⟩) 4 cR, .slice A l.length k, c.vl] w fun r w' => ∃ kc cA, r = .returned (beginRn P.s l c (regR q0 q1 q2 q3 c.h) (regR q0 q1 q2 q3 c.v) ⟨cA, l.length, kc⟩).v ∧ Ents w' cA l ∧ (∀ a, 0 < l.length → cA = some a → w.heap.size ≤ a.block) ∧ Below w.heap.size w w' := by
  have He := Lib.hid he
  have hR := lt_of_cell e0
  obtain ⟨hv, Hhv⟩ : ∃ x, Hid (regR q0 q1 q2 q3 c.h = x) := ⟨_, Lib.hid rfl⟩
  obtain ⟨vv, Hvv⟩ : ∃ x, Hid (regR q0 q1 q2 q3 c.v = x) := ⟨_, Lib.hid rfl⟩
  have HB := Lib.hid (And.intro b0 (And.intro b1 (And.intro b2 b3)))
  have HE := Lib.hid (And.intro e0 (And.intro e1 (And.intro e2 e3)))
  have Hcal := Lib.hid hcal
  clear he b0 b1 b2 b3 e0 e1 e2 e3 hcal
  go_enter Try.func10, Try.ntmps10
  go_upto_region 2 with fail
  refine four_rows w _ _ _ _ _ _ _ _ ?_
  intro W hR0 hR1 hR2 hR3 hB
  obtain ⟨p0, p1, p2, p3, _, _, _, _⟩ := box4 hR0
  obtain ⟨r0, _⟩ := box1 hR1
  obtain ⟨k0, k1, k2, k3, k4, k5, k6⟩ := box7 hR2
  have HR0 := Lib.hid hR0
  have HR1 := Lib.hid hR1
  have HR2 := Lib.hid hR2
  have HR3 := Lib.hid hR3
  have z0 := lt_of_heap hR0
  have z1 := lt_of_heap hR1
  have z2 := lt_of_heap hR2
  have z3 := lt_of_heap hR3
  have x0 := (hB.cell (p := ⟨R, o, none⟩) hR).trans HE.out.1
  have x1 := (hB.cell (p := ⟨R, o + 1, none⟩) hR).trans HE.out.2.1
  have x2 := (hB.cell (p := ⟨R, o + 2, none⟩) hR).trans HE.out.2.2.1
  have x3 := (hB.cell (p := ⟨R, o + 3, none⟩) hR).trans HE.out.2.2.2
  have HBW := Lib.hid hB
  clear hR0 hR1 hR2 hR3 hB
  go_cut [10] from 10 to 24 (fun v wx => v = .pointer (some ⟨W.heap.size, 0, none⟩) ∧ wx.heap[W.heap.size]? = some (.cells #[.int .i64 P.s, .int .i64 P.t, .int .i64 P.i, .int .i64 P.h, .slice A l.length k, .int .u8 c.op, .int .u8 c.r, .int .u8 c.h, .int .u8 c.v, .int .i64 c.a, .int .i64 c.b, .int .i64 c.c, .int .u64 hv, .int .u64 vv] 71 (0, 0)) ∧ Below W.heap.size W wx)
  case first =>
    go_region_held3 (Old W) ((go_split_ands; refine old_of ?_; first | (go_grown; done) | assumption)) (first | (go_at_call 23; refine (reg_any q0 q1 q2 q3 _ _ R o cR _ hcR (by first | exact Hcal.out.h | exact Hcal.out.v) (by first | exact r0 | exact cell_later (show Below W.heap.size W _ by go_grown) r0) (by first | exact x0 | exact cell_later (show Below W.heap.size W _ by go_grown) x0) (by first | exact x1 | exact cell_later (show Below W.heap.size W _ by go_grown) x1) (by first | exact x2 | exact cell_later (show Below W.heap.size W _ by go_grown) x2) (by first | exact x3 | exact cell_later (show Below W.heap.size W _ by go_grown) x3)).mono ?_; rintro r w1 ⟨rfl, rfl⟩; first | rw [Hhv.out] | rw [Hvv.out]))
    all_goals
      go_wp2_with fail
      go_meet
      exact ⟨rfl, row_new W _ _, by go_grown⟩
  case rest =>
    obtain ⟨rfl, hA, hbc⟩ := hcut
    obtain ⟨k0, k1, k2, k3, k4, k5, k6⟩ := box7 (row_below HR2.out hbc)
    have r3 := row_below HR3.out hbc
    have HR3c := Lib.hid r3
    have HA := Lib.hid hA
    have y0 := (row_cell hA 12 : _)
    have y1 := (row_cell hA 13 : _)
    simp only [List.getElem?_toArray, List.getElem?_cons_succ, List.getElem?_cons_zero] at y0 y1
    have z4 := lt_of_heap hA
    have z5 : w.heap.size + 1 + 1 < wc.heap.size := by omega
    have HBc := Lib.hid (HBW.out.trans (hbc.mono (by omega)))
    have HEc := Lib.hid (Cells.below He.out HBc.out)
    clear hA hbc r3 p0 p1 p2 p3 r0 x0 x1 x2 x3
    go_upto_region 3 with fail
    go_cut [11] from 11 to 34 (fun v wx => ∃ (g ca : Nat) (cA : Option Addr), v = .pointer (some ⟨g, 0, none⟩) ∧ wc.heap.size ≤ g ∧ wx.heap[g]? = some (.cells (Rn.arr ⟨c, 0, area l, hv, vv, ⟨cA, l.length, ca⟩, 0, 0, 0, 0, noS, 0, noS, 0, false, false, false, 0, 0, noS⟩) 39 (0, 0)) ∧ Ents wx cA l ∧ Below wc.heap.size wc wx ∧ ∀ a, 0 < l.length → cA = some a → a.block ≠ g ∧ wc.heap.size ≤ a.block)
    case first =>
      refine wp_region_held_drew (S := Old wc) (by kernel_rfl) (old_of (by go_grown)) ?_
      intro hS
      refine wpAnyH_take_at (i := 0) (v := ?v0x1) (some 25) rfl rfl (by kernel_rfl) (by kernel_rfl) (by kernel_rfl) (fun _ _ _ h => h) (Or.inl ⟨by kernel_rfl, ?h0x1⟩) (by assumption) ?r0x1
      case h0x1 => (intro w hSw; (try dsimp only at hSw); go_simp; first | done | (with_reducible rfl))
      try simp only [Act.put]
      try simp only [List.setIfInBounds_toArray]
      try simp only [List.set_cons_succ]
      try simp only [List.set_cons_zero]
      refine wpAnyH_take_at (i := 1) (v := ?v1x2) (some 26) rfl rfl (by kernel_rfl) (by kernel_rfl) (by kernel_rfl) (fun _ _ _ h => h) (Or.inl ⟨by kernel_rfl, ?h1x2⟩) (by assumption) ?r1x2
      case h1x2 => (intro w hSw; (try dsimp only at hSw); go_simp; first | done | (with_reducible rfl))
      try simp only [Act.put]
      try simp only [List.setIfInBounds_toArray]
      try simp only [List.set_cons_succ]
      try simp only [List.set_cons_zero]
      refine wpAnyH_take_at (i := 3) (v := ?v3x3) (some 28) rfl rfl (by kernel_rfl) (by kernel_rfl) (by kernel_rfl) (fun _ _ _ h => h) (Or.inl ⟨by kernel_rfl, ?h3x3⟩) (by assumption) ?r3x3
      case h3x3 => (intro w hSw; (try dsimp only at hSw); go_simp; first | done | (with_reducible rfl))
      try simp only [Act.put]
      try simp only [List.setIfInBounds_toArray]
      try simp only [List.set_cons_succ]
      try simp only [List.set_cons_zero]
      refine wpAnyH_take_at (i := 4) (v := ?v4x4) (some 29) rfl rfl (by kernel_rfl) (by kernel_rfl) (by kernel_rfl) (fun _ _ _ h => h) (Or.inl ⟨by kernel_rfl, ?h4x4⟩) (by assumption) ?r4x4
      case h4x4 => (intro w hSw; (try dsimp only at hSw); go_simp; first | done | (with_reducible rfl))
      try simp only [Act.put]
      try simp only [List.setIfInBounds_toArray]
      try simp only [List.set_cons_succ]
      try simp only [List.set_cons_zero]
      refine wpAnyH_take_at (i := 5) (v := ?v5x5) (some 30) rfl rfl (by kernel_rfl) (by kernel_rfl) (by kernel_rfl) (fun _ _ _ h => h) (Or.inl ⟨by kernel_rfl, ?h5x5⟩) (by assumption) ?r5x5
      case h5x5 => (intro w hSw; (try dsimp only at hSw); go_simp; first | done | (with_reducible rfl))
      try simp only [Act.put]
      try simp only [List.setIfInBounds_toArray]
      try simp only [List.set_cons_succ]
      try simp only [List.set_cons_zero]
      refine wpAnyH_take_at (i := 6) (v := ?v6x6) (some 31) rfl rfl (by kernel_rfl) (by kernel_rfl) (by kernel_rfl) (fun _ _ _ h => h) (Or.inl ⟨by kernel_rfl, ?h6x6⟩) (by assumption) ?r6x6
      case h6x6 => (intro w hSw; (try dsimp only at hSw); go_simp; first | done | (with_reducible rfl))
      try simp only [Act.put]
      try simp only [List.setIfInBounds_toArray]
      try simp only [List.set_cons_succ]
      try simp only [List.set_cons_zero]
      refine wpAnyH_take_at (i := 7) (v := ?v7x7) (some 32) rfl rfl (by kernel_rfl) (by kernel_rfl) (by kernel_rfl) (fun _ _ _ h => h) (Or.inl ⟨by kernel_rfl, ?h7x7⟩) (by assumption) ?r7x7
      case h7x7 => (intro w hSw; (try dsimp only at hSw); go_simp; first | done | (with_reducible rfl))
      try simp only [Act.put]
      try simp only [List.setIfInBounds_toArray]
      try simp only [List.set_cons_succ]
      try simp only [List.set_cons_zero]
      refine wpAnyH_ready (rs := [2, 10]) (by kernel_rfl) (by simp) ?_
      refine AllReadyH.cons rfl (fun K hK => ?_) (AllReadyH.cons rfl (fun K hK => ?_) AllReadyH.nil)
      · skip
        go_simp
        refine (area_any A k l _ (by omega) (Cells.below HEc.out (by first | exact hS.1 | (go_grown; done)))).mono ?_
        rintro r w1 ⟨rfl, rfl⟩
        go_simp
        refine hK.out _ _ (hS) (fun hS => ?_)
        clear hK K
        try simp only [Act.put]
        try simp only [List.setIfInBounds_toArray]
        try simp only [List.set_cons_succ]
        try simp only [List.set_cons_zero]
        refine wpAnyH_ready (rs := [8, 10]) (by kernel_rfl) (by simp) ?_
        refine AllReadyH.cons rfl (fun K hK => ?_) (AllReadyH.cons rfl (fun K hK => ?_) AllReadyH.nil)
        · skip
          go_simp
          refine (clone_any A k l _ hl (Cells.below HEc.out (by first | exact hS.1 | (go_grown; done)))).mono ?_
          rintro r w2 ⟨v, rfl, A1, c1, rfl, hc1, hcs, hnew, hb1⟩
          go_simp
          have o2 := below_only hS.1 hb1
          refine hK.out _ _ (old_of o2) (fun hS => ?_)
          clear hK K
          try simp only [Act.put]
          try simp only [List.setIfInBounds_toArray]
          try simp only [List.set_cons_succ]
          try simp only [List.set_cons_zero]
          refine wpAnyH_take_at (i := 9) (v := ?v9x8) (some 34) rfl rfl (by kernel_rfl) (by kernel_rfl) (by kernel_rfl) (fun _ _ _ h => h) (Or.inl ⟨by kernel_rfl, ?h9x8⟩) (by assumption) ?r9x8
          case h9x8 => (intro w hSw; (try dsimp only at hSw); go_simp; first | done | (with_reducible rfl))
          try simp only [Act.put]
          try simp only [List.setIfInBounds_toArray]
          try simp only [List.set_cons_succ]
          try simp only [List.set_cons_zero]
          refine wpAnyH_ready (rs := [10]) (by kernel_rfl) (by simp) ?_
          refine AllReadyH.cons rfl (fun K hK => ?_) AllReadyH.nil
          refine step_alloc_run (some 11) rfl rfl rfl ?_
          refine hK.out _ _ (old_of (below_alloc o2 _)) (fun hS => ?_)
          clear hK K
          try simp only [Act.put]
          try simp only [List.setIfInBounds_toArray]
          try simp only [List.set_cons_succ]
          try simp only [List.set_cons_zero]
          refine wpAnyH_ready (rs := [11]) (by kernel_rfl) (by simp) ?_
          refine AllReadyH.cons rfl (fun K hK => ?_) AllReadyH.nil
          refine step_store_row none rfl rfl 39 (.tmp 11) (.tmp 34) rfl w2.heap.size _ rfl rfl 39 ZRun (row_new w2 ZRun 39) infoRun rfl (by simp [Value.oneCell']) ?_
          refine hK.out _ _ (old_of (below_setRow (below_alloc o2 _) o2.size _)) (fun hS => ?_)
          clear hK K
          try simp only [Act.put]
          try simp only [List.setIfInBounds_toArray]
          try simp only [List.set_cons_succ]
          try simp only [List.set_cons_zero]
          refine wpAnyH_done (by kernel_rfl) ?_ _
          go_wp2_with fail
          go_meet
          exact ⟨w2.heap.size, c1, A1, rfl, o2.size, setRow_heap _ _ _ _ _ _ (row_new w2 ZRun 39), Cells.below hcs (below_setRow (Below.refl _ _ |>.alloc (Nat.le_refl _) _) (Nat.le_refl _) _), below_setRow (below_alloc o2 _) o2.size _, fun a h0 ha => ⟨ents_far hcs (Nat.le_refl _) a h0 ha, hnew a ha⟩⟩
        · skip
          refine step_alloc_run (some 11) rfl rfl rfl ?_
          refine hK.out _ _ (old_of (by go_grown)) (fun hS => ?_)
          clear hK K
          try simp only [Act.put]
          try simp only [List.setIfInBounds_toArray]
          try simp only [List.set_cons_succ]
          try simp only [List.set_cons_zero]
          refine wpAnyH_ready (rs := [8]) (by kernel_rfl) (by simp) ?_
          refine AllReadyH.cons rfl (fun K hK => ?_) AllReadyH.nil
          go_simp
          refine (clone_any A k l _ hl (Cells.below HEc.out (by first | exact hS.1 | (go_grown; done)))).mono ?_
          rintro r w2 ⟨v, rfl, A1, c1, rfl, hc1, hcs, hnew, hb1⟩
          go_simp
          have o2 := below_only hS.1 hb1
          refine hK.out _ _ (old_of o2) (fun hS => ?_)
          clear hK K
          try simp only [Act.put]
          try simp only [List.setIfInBounds_toArray]
          try simp only [List.set_cons_succ]
          try simp only [List.set_cons_zero]
          have HZ := row_below (show _ = some (.cells ZRun 39 (0, 0)) from row_new wc.drew ZRun 39) hb1
          have hne : ∀ a, A1 = some a → a.block ≠ wc.heap.size := fun a ha => by have := hnew a ha; simp at this; omega
          refine wpAnyH_take_at (i := 9) (v := ?v9x9) (some 34) rfl rfl (by kernel_rfl) (by kernel_rfl) (by kernel_rfl) (fun _ _ _ h => h) (Or.inl ⟨by kernel_rfl, ?h9x9⟩) (by assumption) ?r9x9
          case h9x9 => (intro w hSw; (try dsimp only at hSw); go_simp; first | done | (with_reducible rfl))
          try simp only [Act.put]
          try simp only [List.setIfInBounds_toArray]
          try simp only [List.set_cons_succ]
          try simp only [List.set_cons_zero]
          refine wpAnyH_ready (rs := [11]) (by kernel_rfl) (by simp) ?_
          refine AllReadyH.cons rfl (fun K hK => ?_) AllReadyH.nil
          refine step_store_row none rfl rfl 39 (.tmp 11) (.tmp 34) rfl wc.heap.size _ rfl rfl 39 ZRun HZ infoRun rfl (by simp [Value.oneCell']) ?_
          refine hK.out _ _ (old_of (below_setRow o2 (Nat.le_refl _) _)) (fun hS => ?_)
          clear hK K
          try simp only [Act.put]
          try simp only [List.setIfInBounds_toArray]
          try simp only [List.set_cons_succ]
          try simp only [List.set_cons_zero]
          refine wpAnyH_done (by kernel_rfl) ?_ _
          go_wp2_with fail
          go_meet
          exact ⟨wc.heap.size, c1, A1, rfl, Nat.le_refl _, setRow_heap _ _ _ _ _ _ HZ, cells_setRow hcs hne _, below_setRow o2 (Nat.le_refl _) _, fun a _ ha => ⟨hne a ha, by have := hnew a ha; simp at this; omega⟩⟩
      · skip
        refine step_alloc_run (some 11) rfl rfl rfl ?_
        refine hK.out _ _ (old_of (by go_grown)) (fun hS => ?_)
        clear hK K
        try simp only [Act.put]
        try simp only [List.setIfInBounds_toArray]
        try simp only [List.set_cons_succ]
        try simp only [List.set_cons_zero]
        refine wpAnyH_ready (rs := [2]) (by kernel_rfl) (by simp) ?_
        refine AllReadyH.cons rfl (fun K hK => ?_) AllReadyH.nil
        go_simp
        refine (area_any A k l _ (by omega) (Cells.below HEc.out (by first | exact hS.1 | (go_grown; done)))).mono ?_
        rintro r w1 ⟨rfl, rfl⟩
        go_simp
        refine hK.out _ _ (hS) (fun hS => ?_)
        clear hK K
        try simp only [Act.put]
        try simp only [List.setIfInBounds_toArray]
        try simp only [List.set_cons_succ]
        try simp only [List.set_cons_zero]
        refine wpAnyH_ready (rs := [8]) (by kernel_rfl) (by simp) ?_
        refine AllReadyH.cons rfl (fun K hK => ?_) AllReadyH.nil
        go_simp
        refine (clone_any A k l _ hl (Cells.below HEc.out (by first | exact hS.1 | (go_grown; done)))).mono ?_
        rintro r w2 ⟨v, rfl, A1, c1, rfl, hc1, hcs, hnew, hb1⟩
        go_simp
        have o2 := below_only hS.1 hb1
        refine hK.out _ _ (old_of o2) (fun hS => ?_)
        clear hK K
        try simp only [Act.put]
        try simp only [List.setIfInBounds_toArray]
        try simp only [List.set_cons_succ]
        try simp only [List.set_cons_zero]
        have HZ := row_below (show _ = some (.cells ZRun 39 (0, 0)) from row_new wc.drew ZRun 39) hb1
        have hne : ∀ a, A1 = some a → a.block ≠ wc.heap.size := fun a ha => by have := hnew a ha; simp at this; omega
        refine wpAnyH_take_at (i := 9) (v := ?v9x10) (some 34) rfl rfl (by kernel_rfl) (by kernel_rfl) (by kernel_rfl) (fun _ _ _ h => h) (Or.inl ⟨by kernel_rfl, ?h9x10⟩) (by assumption) ?r9x10
        case h9x10 => (intro w hSw; (try dsimp only at hSw); go_simp; first | done | (with_reducible rfl))
        try simp only [Act.put]
        try simp only [List.setIfInBounds_toArray]
        try simp only [List.set_cons_succ]
        try simp only [List.set_cons_zero]
        refine wpAnyH_ready (rs := [11]) (by kernel_rfl) (by simp) ?_
        refine AllReadyH.cons rfl (fun K hK => ?_) AllReadyH.nil
        refine step_store_row none rfl rfl 39 (.tmp 11) (.tmp 34) rfl wc.heap.size _ rfl rfl 39 ZRun HZ infoRun rfl (by simp [Value.oneCell']) ?_
        refine hK.out _ _ (old_of (below_setRow o2 (Nat.le_refl _) _)) (fun hS => ?_)
        clear hK K
        try simp only [Act.put]
        try simp only [List.setIfInBounds_toArray]
        try simp only [List.set_cons_succ]
        try simp only [List.set_cons_zero]
        refine wpAnyH_done (by kernel_rfl) ?_ _
        go_wp2_with fail
        go_meet
        exact ⟨wc.heap.size, c1, A1, rfl, Nat.le_refl _, setRow_heap _ _ _ _ _ _ HZ, cells_setRow hcs hne _, below_setRow o2 (Nat.le_refl _) _, fun a _ ha => ⟨hne a ha, by have := hnew a ha; simp at this; omega⟩⟩
    case rest =>
      obtain ⟨g, kc, cA, rfl, hg, hR, hcs, hb4, hfar⟩ := hcut
      have Hfresh := Lib.hid (show ∀ a, 0 < l.length → cA = some a → w.heap.size ≤ a.block from fun a h0 ha => by have := (hfar a h0 ha).2; have := HBc.out.size; omega)
      have Hfz := Lib.hid (show ∀ a, 0 < l.length → cA = some a → a.block ≠ w.heap.size + 1 + 1 + 1 from fun a h0 ha => by have := (hfar a h0 ha).2; have := lt_of_heap HR3c.out; omega)
      have Hfar := Lib.hid (show ∀ a, 0 < l.length → cA = some a → a.block ≠ g from fun a h0 ha => (hfar a h0 ha).1)
      clear hfar
      obtain ⟨co, Hco⟩ : ∃ x, Hid ((beginS P.s l c hv vv).1 = x) := ⟨_, Lib.hid rfl⟩
      obtain ⟨pc, Hpc⟩ : ∃ x, Hid ((beginS P.s l c hv vv).2 = x) := ⟨_, Lib.hid rfl⟩
      have hbd := And.intro (regR_bd (i := c.h) HB.out.1 HB.out.2.1 HB.out.2.2.1 HB.out.2.2.2) (regR_bd (i := c.v) HB.out.1 HB.out.2.1 HB.out.2.2.1 HB.out.2.2.2)
      rw [Hhv.out, Hvv.out] at hbd
      obtain ⟨⟨d0, d1⟩, d2, d3⟩ := hbd
      have HAW : Hid (∀ W', Below w.heap.size w W' → AskIn W' P A k l c hv vv) := Lib.hid fun W' hb => ⟨Cells.below He.out hb, hl, hk, s0, s1, Hcal.out, d0, d1, d2, d3⟩
      clear d0 d1 d2 d3
      rename_i wc0
      have HA4 := Lib.hid (row_below HA.out hb4)
      have HZ4 := Lib.hid (row_below HR3c.out hb4)
      have HB4 := Lib.hid (HBc.out.trans (hb4.mono HBc.out.size))
      have HR4 := Lib.hid hR
      have HE4 := Lib.hid hcs
      have zg : w.heap.size + 1 + 1 + 1 < g := by have := lt_of_heap HR3c.out; omega
      have zW : W.heap.size < g := by omega
      clear hg hR hcs hb4 y0 y1 k0 k1 k2 k3 k4 k5 k6 z4 z5
      obtain ⟨x0, x1, x2, x3, x4, x5, x6, x7, x8, x9, x10, x11, x12, x13⟩ := box14 HA4.out
      go_wp2_with fail
      refine (refuse_any P A k l c hv vv _ (HAW.out _ HB4.out)).mono ?_
      rintro r y ⟨rfl, hby⟩
      rw [Hco.out]
      clear x0 x1 x2 x3 x4 x5 x6 x7 x8 x9 x10 x11 x12 x13
      have HA5 := Lib.hid (row_below HA4.out hby)
      have HZ5 := Lib.hid (row_below HZ4.out hby)
      have HB5 := Lib.hid (HB4.out.trans (hby.mono HB4.out.size))
      have HR5 := Lib.hid (row_below HR4.out hby)
      have HE5 := Lib.hid (Cells.below HE4.out hby)
      have g23 := (run_box HR5.out).2.2.2.2.2.2.2.2.2.2.2.2.2.2.2.2.2.2.2.2.2.2.2.1
      have g7 := (run_box HR5.out).2.2.2.2.2.2.2.1
      have gf : ∀ j, y.frozen? ⟨g, j, none⟩ = false := fun j => row_frozen HR5.out j
      have zy := lt_of_heap HR5.out
      clear hby HA4 HZ4 HB4 HR4 HE4
      by_cases hz : co = 0
      · subst hz
        have HB6 := Lib.hid (HB5.out.setCell (p := ⟨g, 23, none⟩) (by dsimp only; omega) (.int .i64 0))
        have HA6 := Lib.hid ((Below.heap_setCell y ⟨g, 23, none⟩ (.int .i64 0) W.heap.size (by dsimp only; omega)).trans HA5.out)
        have HZ6 := Lib.hid ((Below.heap_setCell y ⟨g, 23, none⟩ (.int .i64 0) (w.heap.size + 1 + 1 + 1) (by dsimp only; omega)).trans HZ5.out)
        have HR6 := Lib.hid (show (y.setCell ⟨g, 23, none⟩ (.int .i64 0)).heap[g]? = some (.cells (Rn.arr ⟨c, 0, area l, hv, vv, ⟨cA, l.length, kc⟩, 0, 0, 0, 0, noS, 0, noS, 0, false, false, false, 0, 0, noS⟩) 39 (0, 0)) from row_set (i := 23) HR5.out (.int .i64 0))
        obtain ⟨x0, x1, x2, x3, x4, x5, x6, x7, x8, x9, x10, x11, x12, x13⟩ := box14 HA5.out
        have HE6 := Lib.hid (ents_setCell HE5.out (p := ⟨g, 23, none⟩) Hfar.out (.int .i64 0))
        clear HA5 HZ5 HR5 HE5
        go_wp2_with fail
        refine (pc_any P A k l c hv vv _ (HAW.out _ HB6.out) Hco.out).mono ?_
        rintro r z ⟨rfl, hbz⟩
        rw [Hpc.out]
        clear x0 x1 x2 x3 x4 x5 x6 x7 x8 x9 x10 x11 x12 x13 g23 g7 gf
        have HZ7 := Lib.hid (row_below HZ6.out hbz)
        have HB7 := Lib.hid (HB6.out.trans (hbz.mono HB6.out.size))
        have HR7 := Lib.hid (row_below HR6.out hbz)
        have HE7 := Lib.hid (Cells.below HE6.out hbz)
        clear hbz HZ6 HB6 HR6 HE6 HA6
        have g7 := (run_box HR7.out).2.2.2.2.2.2.2.1
        have gf : ∀ j, z.frozen? ⟨g, j, none⟩ = false := fun j => row_frozen HR7.out j
        have zz := lt_of_heap HR7.out
        obtain ⟨cs', Hcs'⟩ : ∃ cs', Hid (Rn.arr ⟨c, pc, area l, hv, vv, ⟨cA, l.length, kc⟩, 0, 0, 0, 0, noS, 0, noS, 0, false, false, false, 0, 0, noS⟩ = cs') := ⟨_, Lib.hid rfl⟩
        have HI := Lib.hid (show (Try.prog.info? 39).map (·.size) = some cs'.size by rw [← Hcs'.out]; exact infoRun)
        have HO := Lib.hid (show cs'.all (·.oneCell') = true by rw [← Hcs'.out]; exact Rn.one _)
        have HRow := Lib.hid (show (z.setCell ⟨g, 7, none⟩ (.int .i64 pc)).heap[g]? = some (.cells cs' 39 (0, 0)) by rw [← Hcs'.out]; exact row_set (i := 7) HR7.out (.int .i64 pc))
        have HZ := Lib.hid ((Below.heap_setCell z ⟨g, 7, none⟩ (.int .i64 pc) (w.heap.size + 1 + 1 + 1) (by dsimp only; omega)).trans HZ7.out)
        have HBx := Lib.hid (HB7.out.setCell (p := ⟨g, 7, none⟩) (by dsimp only; omega) (.int .i64 pc))
        have HEx := Lib.hid (ents_setRow (ents_setCell HE7.out (p := ⟨g, 7, none⟩) Hfar.out (.int .i64 pc)) (g := w.heap.size + 1 + 1 + 1) (fun a h0 ha => Hfz.out a h0 ha) cs')
        go_wp2_with (first | refine wpList_load_row rfl 39 (.tmp 11) rfl g rfl 39 cs' (0, 0) _ HRow.out undRun rfl HI.out ?_ | refine wpList_store_row rfl 39 (.tmp 8) (.tmp 46) rfl (w.heap.size + 1 + 1 + 1) cs' rfl rfl 39 _ HZ.out HI.out (by rw [← Hcs'.out]; rfl) HO.out ?_)
        refine bodyPost_ret (results_cell_row (fn := Try.f10) rfl _ _ (w.heap.size + 1 + 1 + 1) 39 cs' (0, 0) _ rfl (setRow_heap _ _ _ cs' 39 (0, 0) HZ.out) undRun rfl HI.out) rfl ?_
        have e : Rn.arr (beginRn P.s l c hv vv ⟨cA, l.length, kc⟩) = cs' := by rw [← Hcs'.out]; simp only [beginRn]; rw [Hco.out, if_pos rfl, Hpc.out]
        rw [Hhv.out, Hvv.out]
        exact ⟨kc, cA, by rw [← e], HEx.out, Hfresh.out, below_setRow HBx.out (by omega) _⟩
      · have hz' : (co == 0) = false := by simpa using hz
        have Hz := Lib.hid hz
        clear hz
        obtain ⟨cs', Hcs'⟩ : ∃ cs', Hid (Rn.arr ⟨c, 0, area l, hv, vv, ⟨cA, l.length, kc⟩, 0, 0, 0, 0, noS, 0, noS, 0, false, false, false, co, 0, noS⟩ = cs') := ⟨_, Lib.hid rfl⟩
        have HI := Lib.hid (show (Try.prog.info? 39).map (·.size) = some cs'.size by rw [← Hcs'.out]; exact infoRun)
        have HO := Lib.hid (show cs'.all (·.oneCell') = true by rw [← Hcs'.out]; exact Rn.one _)
        have HRow := Lib.hid (show (y.setCell ⟨g, 23, none⟩ (.int .i64 co)).heap[g]? = some (.cells cs' 39 (0, 0)) by rw [← Hcs'.out]; exact row_set (i := 23) HR5.out (.int .i64 co))
        have HZ := Lib.hid ((Below.heap_setCell y ⟨g, 23, none⟩ (.int .i64 co) (w.heap.size + 1 + 1 + 1) (by dsimp only; omega)).trans HZ5.out)
        have HBx := Lib.hid (HB5.out.setCell (p := ⟨g, 23, none⟩) (by dsimp only; omega) (.int .i64 co))
        have HEx := Lib.hid (ents_setRow (ents_setCell HE5.out (p := ⟨g, 23, none⟩) Hfar.out (.int .i64 co)) (g := w.heap.size + 1 + 1 + 1) (fun a h0 ha => Hfz.out a h0 ha) cs')
        go_wp2_with (first | refine wpList_load_row rfl 39 (.tmp 11) rfl g rfl 39 cs' (0, 0) _ HRow.out undRun rfl HI.out ?_ | refine wpList_store_row rfl 39 (.tmp 8) (.tmp 46) rfl (w.heap.size + 1 + 1 + 1) cs' rfl rfl 39 _ HZ.out HI.out (by rw [← Hcs'.out]; rfl) HO.out ?_)
        refine bodyPost_ret (results_cell_row (fn := Try.f10) rfl _ _ (w.heap.size + 1 + 1 + 1) 39 cs' (0, 0) _ rfl (setRow_heap _ _ _ cs' 39 (0, 0) HZ.out) undRun rfl HI.out) rfl ?_
        have e : Rn.arr (beginRn P.s l c hv vv ⟨cA, l.length, kc⟩) = cs' := by rw [← Hcs'.out]; simp only [beginRn]; rw [Hco.out, if_neg Hz.out]
        rw [Hhv.out, Hvv.out]
        exact ⟨kc, cA, by rw [← e], HEx.out, Hfresh.out, below_setRow HBx.out (by omega) _⟩

end Go.Proofs.Ytaneokplagdcfaa
