/- Layer 13: the law's shown. -/
import Derived.Test.YtaneokplagdcfaaBeginG
import Derived.Test.YtaneokplagdcfaaBRefC
namespace Go.Proofs.Ytaneokplagdcfaa
open Go.RowKit
set_option linter.unusedVariables false
set_option linter.unusedSimpArgs false
theorem alloc_set {P : World → Prop} (w : World) (c c' : Array Value) (t : TypeId) (h : ∀ W, W.heap[w.heap.size]? = some (.cells c' t (0, 0)) → Below w.heap.size w W → P W) : P ((w.alloc (.cells c t)).setRow w.heap.size c') :=
  h _ (setRow_heap _ _ _ _ _ _ (row_new _ _ _)) (below_setRow (by go_grown) (Nat.le_refl _) _)
theorem rbegin_eq (n : Int) (l : List Ent) (c : Cal) (h v : Int) (ch : Sl) : rbeginRn n l c h v ch = beginRn n l c h v ch := rfl
abbrev Regs4 (q0 q1 q2 q3 : Int) : Prop := (0 ≤ q0 ∧ q0 ≤ 18446744073709551615) ∧ (0 ≤ q1 ∧ q1 ≤ 18446744073709551615) ∧ (0 ≤ q2 ∧ q2 ≤ 18446744073709551615) ∧ (0 ≤ q3 ∧ q3 ≤ 18446744073709551615)
abbrev Cells4 (w : World) (R : Nat) (q0 q1 q2 q3 : Int) : Prop := w.cell? ⟨R, 0, none⟩ = some (.int .u64 q0) ∧ w.cell? ⟨R, 1, none⟩ = some (.int .u64 q1) ∧ w.cell? ⟨R, 2, none⟩ = some (.int .u64 q2) ∧ w.cell? ⟨R, 3, none⟩ = some (.int .u64 q3)
theorem of_any_at (P : Pln) (A : Option Addr) (k : Nat) (l : List Ent) (c : Cal) (q0 q1 q2 q3 hv vv : Int) (R : Nat) (w : World) (hk : l.length ≤ k) (hl : l.length ≤ 1048576) (he : Ents w A l) (s0 : 1 ≤ P.s) (s1 : P.s ≤ 8) (hcal : CalOk c) (hq : Regs4 q0 q1 q2 q3)
    (Hh : regR q0 q1 q2 q3 c.h = hv) (Hv : regR q0 q1 q2 q3 c.v = vv) (hx : Cells4 w R q0 q1 q2 q3) :
    Calls Try.prog 10 #[P.val, .slice (some ⟨R, 0, none⟩) 4 4, .slice A l.length k, c.vl] w fun r w' => ∃ kc cA, r = .returned (beginRn P.s l c hv vv ⟨cA, l.length, kc⟩).v ∧ (Ents w' cA l ∧ ∀ a, 0 < l.length → cA = some a → w.heap.size ≤ a.block) ∧ Below w.heap.size w w' := by
  subst Hh Hv
  exact (of_any P A k l c q0 q1 q2 q3 R 0 4 w hk hl he s0 s1 hcal (by decide) hq.1 hq.2.1 hq.2.2.1 hq.2.2.2 hx.1 hx.2.1 hx.2.2.1 hx.2.2.2).mono fun r w' ⟨kc, cA, h1, h2, h3, h4⟩ => ⟨kc, cA, h1, ⟨h2, h3⟩, h4⟩
theorem rof_any_at (P : Pln) (A : Option Addr) (k : Nat) (l : List Ent) (c : Cal) (q0 q1 q2 q3 hv vv : Int) (R : Nat) (w : World) (hk : l.length ≤ k) (hl : l.length ≤ 1048576) (he : Ents w A l) (s0 : 1 ≤ P.s) (s1 : P.s ≤ 8) (hcal : CalOk c) (hq : Regs4 q0 q1 q2 q3)
    (Hh : regR q0 q1 q2 q3 c.h = hv) (Hv : regR q0 q1 q2 q3 c.v = vv) (hx : Cells4 w R q0 q1 q2 q3) :
    Calls Try.prog 11 #[P.val, .slice (some ⟨R, 0, none⟩) 4 4, .slice A l.length k, c.vl] w fun r w' => ∃ kc cA, r = .returned (beginRn P.s l c hv vv ⟨cA, l.length, kc⟩).v ∧ (Ents w' cA l ∧ ∀ a, 0 < l.length → cA = some a → w.heap.size ≤ a.block) ∧ Below w.heap.size w w' := by
  subst Hh Hv
  exact (rof_any P A k l c q0 q1 q2 q3 R 0 4 w hk hl he s0 s1 hcal (by decide) hq.1 hq.2.1 hq.2.2.1 hq.2.2.2 hx.1 hx.2.1 hx.2.2.1 hx.2.2.2).mono fun r w' ⟨kc, cA, h1, h2, h3, h4⟩ => ⟨kc, cA, h1, ⟨h2, h3⟩, h4⟩
theorem runIn_plain {w : World} {r : Rn} {A : Option Addr} {k : Nat} {l : List Ent} (hc : r.chain = ⟨A, l.length, k⟩) (hl : l.length ≤ 1048576) (he : Ents w A l) (h1 : r.list = noS) (h2 : r.said = noS) (h3 : r.asaid = noS) : RunIn w r l [] [] [] :=
  ⟨by rw [hc], hl, by rw [hc]; exact he, by rw [h1]; rfl, by simp, Cells.nil, by rw [h2]; rfl, by simp, Cells.nil, by rw [h3]; rfl, by simp, Cells.nil⟩
theorem box10 {w : World} {g : Nat} {a0 a1 a2 a3 a4 a5 a6 a7 a8 a9 : Value} {t : TypeId} (h : w.heap[g]? = some (.cells #[a0, a1, a2, a3, a4, a5, a6, a7, a8, a9] t (0, 0))) :
    w.cell? ⟨g, 0, none⟩ = some a0 ∧ w.cell? ⟨g, 1, none⟩ = some a1 ∧ w.cell? ⟨g, 2, none⟩ = some a2 ∧ w.cell? ⟨g, 3, none⟩ = some a3 ∧ w.cell? ⟨g, 4, none⟩ = some a4 ∧ w.cell? ⟨g, 5, none⟩ = some a5 ∧ w.cell? ⟨g, 6, none⟩ = some a6 ∧ w.cell? ⟨g, 7, none⟩ = some a7 ∧ w.cell? ⟨g, 8, none⟩ = some a8 ∧ w.cell? ⟨g, 9, none⟩ = some a9 :=
  ⟨by rw [row_cell h]; rfl, by rw [row_cell h]; rfl, by rw [row_cell h]; rfl, by rw [row_cell h]; rfl, by rw [row_cell h]; rfl, by rw [row_cell h]; rfl, by rw [row_cell h]; rfl, by rw [row_cell h]; rfl, by rw [row_cell h]; rfl, by rw [row_cell h]; rfl⟩

set_option maxRecDepth 100000 in
set_option maxHeartbeats 2000000 in
theorem shown13_any (w : World) : Calls Try.prog 7 #[] w fun r w' => r = .returned (.bool true) ∧ Below w.heap.size w w' := by
  go_enter Try.func7, Try.ntmps7
  go_upto_region 2 with fail
  refine one_row w _ _ ?_
  intro W hR0 hB
  obtain ⟨p0, p1, p2, p3, _, _, _, _⟩ := box4 hR0
  have z0 := lt_of_heap hR0
  have HB := Lib.hid hB
  clear hR0 hB
  go_cut [2] from 2 to 8 (fun v wx => ∃ (g kc : Nat) (cA : Option Addr), v = .pointer (some ⟨g, 0, none⟩) ∧ W.heap.size ≤ g ∧ wx.heap[g]? = some (.cells (Rn.arr (beginRn 2 [] ⟨5, 0, 0, 0, 0, 0, 0⟩ (regR 0 0 0 0 0) (regR 0 0 0 0 0) ⟨cA, 0, kc⟩)) 39 (0, 0)) ∧ Below W.heap.size W wx)
  case first =>
    refine wp_region_held_drew (S := Old W) (by kernel_rfl) (old_of (by go_grown)) ?_
    intro hS
    generalize W.drew = y0 at hS ⊢
    refine wpAnyH_take_at (i := 0) (v := ?v0x1) (some 5) rfl rfl (by kernel_rfl) (by kernel_rfl) (by kernel_rfl) (fun _ _ _ h => h) (Or.inl ⟨by kernel_rfl, ?h0x1⟩) (by assumption) ?r0x1
    case h0x1 => (intro w hSw; (try dsimp only at hSw); go_simp; first | done | (with_reducible rfl))
    try simp only [Act.put]
    try simp only [List.setIfInBounds_toArray]
    try simp only [List.set_cons_succ]
    try simp only [List.set_cons_zero]
    refine wpAnyH_take_at (i := 2) (v := ?v2x2) (some 7) rfl rfl (by kernel_rfl) (by kernel_rfl) (by kernel_rfl) (fun _ _ _ h => h) (Or.inl ⟨by kernel_rfl, ?h2x2⟩) (by assumption) ?r2x2
    case h2x2 => (intro w hSw; (try dsimp only at hSw); go_simp; first | done | (with_reducible rfl))
    try simp only [Act.put]
    try simp only [List.setIfInBounds_toArray]
    try simp only [List.set_cons_succ]
    try simp only [List.set_cons_zero]
    refine wpAnyH_ready (rs := [1, 4]) (by kernel_rfl) (by simp) ?_
    refine AllReadyH.cons rfl (fun K hK => ?_) (AllReadyH.cons rfl (fun K hK => ?_) AllReadyH.nil)
    · skip
      go_simp
      refine k_alloc (fun yM hM hm => ?_)
      have oM := below_only hS.1 hm
      obtain ⟨gM, HgM⟩ : ∃ x, x = y0.heap.size := ⟨_, rfl⟩
      rw [← HgM] at hM ⊢
      clear HgM
      refine hK.out _ _ (old_of oM) (fun hS => ?_)
      clear hK K
      try simp only [Act.put]
      try simp only [List.setIfInBounds_toArray]
      try simp only [List.set_cons_succ]
      try simp only [List.set_cons_zero]
      refine wpAnyH_ready (rs := [3, 4]) (by kernel_rfl) (by simp) ?_
      refine AllReadyH.cons rfl (fun K hK => ?_) (AllReadyH.cons rfl (fun K hK => ?_) AllReadyH.nil)
      · skip
        go_simp
        have hM4 := hM.trans (show _ = some (.cells #[.int .u64 0, .int .u64 0, .int .u64 0, .int .u64 0] 24 (0, 0)) by kernel_rfl)
        obtain ⟨m0, m1, m2, m3, _, _, _, _⟩ := box4 hM4
        clear hM4
        refine (of_any ⟨2, 1, 0, 0⟩ none 0 [] ⟨5, 0, 0, 0, 0, 0, 0⟩ 0 0 0 0 gM 0 4 _ (by simp) (by simp) Cells.nil (by decide) (by decide) ⟨by decide, by decide, by decide, by decide, by decide, by decide, by decide⟩ (by decide) (by decide) (by decide) (by decide) (by decide) m0 m1 m2 m3).mono ?_
        rintro r yC ⟨kc, cA, rfl, hcs, -, hC⟩
        clear m0 m1 m2 m3
        go_simp
        have oC := below_only hS.1 hC
        refine hK.out _ _ (old_of oC) (fun hS => ?_)
        clear hK K
        try simp only [Act.put]
        try simp only [List.setIfInBounds_toArray]
        try simp only [List.set_cons_succ]
        try simp only [List.set_cons_zero]
        refine wpAnyH_ready (rs := [4]) (by kernel_rfl) (by simp) ?_
        refine AllReadyH.cons rfl (fun K hK => ?_) AllReadyH.nil
        refine step_alloc_run (some 2) rfl rfl rfl ?_
        refine k_alloc (fun yA hZ hA => ?_)
        have oA := below_only hS.1 hA
        have hgZ : W.heap.size ≤ yC.heap.size := hS.1.size
        obtain ⟨gZ, HgZ⟩ : ∃ x, x = yC.heap.size := ⟨_, rfl⟩
        rw [← HgZ] at hZ hgZ ⊢
        clear HgZ
        refine hK.out _ _ (old_of oA) (fun hS => ?_)
        clear hK K
        try simp only [Act.put]
        try simp only [List.setIfInBounds_toArray]
        try simp only [List.set_cons_succ]
        try simp only [List.set_cons_zero]
        refine wpAnyH_ready (rs := [5]) (by kernel_rfl) (by simp) ?_
        refine AllReadyH.cons rfl (fun K hK => ?_) AllReadyH.nil
        refine step_store_row none rfl rfl 39 (.tmp 2) (.tmp 8) rfl gZ _ rfl rfl 39 ZRun hZ infoRun rfl (Rn.one _) ?_
        refine hK.out _ _ (old_of (below_setRow hS.1 hgZ _)) (fun hS => ?_)
        clear hK K
        try simp only [Act.put]
        try simp only [List.setIfInBounds_toArray]
        try simp only [List.set_cons_succ]
        try simp only [List.set_cons_zero]
        refine wpAnyH_done (by kernel_rfl) ?_ _
        go_wp2_with fail
        go_meet
        exact ⟨gZ, kc, cA, rfl, hgZ, setRow_heap _ _ _ _ _ _ hZ, below_setRow (by assumption) hgZ _⟩
      · skip
        refine step_alloc_run (some 2) rfl rfl rfl ?_
        refine k_alloc (fun yA hZ hA => ?_)
        have oA := below_only hS.1 hA
        have hgZ : W.heap.size ≤ yM.heap.size := hS.1.size
        replace hM := row_below hM hA
        obtain ⟨gZ, HgZ⟩ : ∃ x, x = yM.heap.size := ⟨_, rfl⟩
        rw [← HgZ] at hZ hgZ ⊢
        clear HgZ
        refine hK.out _ _ (old_of oA) (fun hS => ?_)
        clear hK K
        try simp only [Act.put]
        try simp only [List.setIfInBounds_toArray]
        try simp only [List.set_cons_succ]
        try simp only [List.set_cons_zero]
        refine wpAnyH_ready (rs := [3]) (by kernel_rfl) (by simp) ?_
        refine AllReadyH.cons rfl (fun K hK => ?_) AllReadyH.nil
        go_simp
        have hM4 := hM.trans (show _ = some (.cells #[.int .u64 0, .int .u64 0, .int .u64 0, .int .u64 0] 24 (0, 0)) by kernel_rfl)
        obtain ⟨m0, m1, m2, m3, _, _, _, _⟩ := box4 hM4
        clear hM4
        refine (of_any ⟨2, 1, 0, 0⟩ none 0 [] ⟨5, 0, 0, 0, 0, 0, 0⟩ 0 0 0 0 gM 0 4 _ (by simp) (by simp) Cells.nil (by decide) (by decide) ⟨by decide, by decide, by decide, by decide, by decide, by decide, by decide⟩ (by decide) (by decide) (by decide) (by decide) (by decide) m0 m1 m2 m3).mono ?_
        rintro r yC ⟨kc, cA, rfl, hcs, -, hC⟩
        clear m0 m1 m2 m3
        go_simp
        have oC := below_only hS.1 hC
        replace hZ := row_below hZ hC
        refine hK.out _ _ (old_of oC) (fun hS => ?_)
        clear hK K
        try simp only [Act.put]
        try simp only [List.setIfInBounds_toArray]
        try simp only [List.set_cons_succ]
        try simp only [List.set_cons_zero]
        refine wpAnyH_ready (rs := [5]) (by kernel_rfl) (by simp) ?_
        refine AllReadyH.cons rfl (fun K hK => ?_) AllReadyH.nil
        refine step_store_row none rfl rfl 39 (.tmp 2) (.tmp 8) rfl gZ _ rfl rfl 39 ZRun hZ infoRun rfl (Rn.one _) ?_
        refine hK.out _ _ (old_of (below_setRow hS.1 hgZ _)) (fun hS => ?_)
        clear hK K
        try simp only [Act.put]
        try simp only [List.setIfInBounds_toArray]
        try simp only [List.set_cons_succ]
        try simp only [List.set_cons_zero]
        refine wpAnyH_done (by kernel_rfl) ?_ _
        go_wp2_with fail
        go_meet
        exact ⟨gZ, kc, cA, rfl, hgZ, setRow_heap _ _ _ _ _ _ hZ, below_setRow (by assumption) hgZ _⟩
    · skip
      refine step_alloc_run (some 2) rfl rfl rfl ?_
      refine k_alloc (fun yA hZ hA => ?_)
      have oA := below_only hS.1 hA
      have hgZ : W.heap.size ≤ y0.heap.size := hS.1.size
      obtain ⟨gZ, HgZ⟩ : ∃ x, x = y0.heap.size := ⟨_, rfl⟩
      rw [← HgZ] at hZ hgZ ⊢
      clear HgZ
      refine hK.out _ _ (old_of oA) (fun hS => ?_)
      clear hK K
      try simp only [Act.put]
      try simp only [List.setIfInBounds_toArray]
      try simp only [List.set_cons_succ]
      try simp only [List.set_cons_zero]
      refine wpAnyH_ready (rs := [1]) (by kernel_rfl) (by simp) ?_
      refine AllReadyH.cons rfl (fun K hK => ?_) AllReadyH.nil
      go_simp
      refine k_alloc (fun yM hM hm => ?_)
      have oM := below_only hS.1 hm
      replace hZ := row_below hZ hm
      obtain ⟨gM, HgM⟩ : ∃ x, x = yA.heap.size := ⟨_, rfl⟩
      rw [← HgM] at hM ⊢
      clear HgM
      refine hK.out _ _ (old_of oM) (fun hS => ?_)
      clear hK K
      try simp only [Act.put]
      try simp only [List.setIfInBounds_toArray]
      try simp only [List.set_cons_succ]
      try simp only [List.set_cons_zero]
      refine wpAnyH_ready (rs := [3]) (by kernel_rfl) (by simp) ?_
      refine AllReadyH.cons rfl (fun K hK => ?_) AllReadyH.nil
      go_simp
      have hM4 := hM.trans (show _ = some (.cells #[.int .u64 0, .int .u64 0, .int .u64 0, .int .u64 0] 24 (0, 0)) by kernel_rfl)
      obtain ⟨m0, m1, m2, m3, _, _, _, _⟩ := box4 hM4
      clear hM4
      refine (of_any ⟨2, 1, 0, 0⟩ none 0 [] ⟨5, 0, 0, 0, 0, 0, 0⟩ 0 0 0 0 gM 0 4 _ (by simp) (by simp) Cells.nil (by decide) (by decide) ⟨by decide, by decide, by decide, by decide, by decide, by decide, by decide⟩ (by decide) (by decide) (by decide) (by decide) (by decide) m0 m1 m2 m3).mono ?_
      rintro r yC ⟨kc, cA, rfl, hcs, -, hC⟩
      clear m0 m1 m2 m3
      go_simp
      have oC := below_only hS.1 hC
      replace hZ := row_below hZ hC
      refine hK.out _ _ (old_of oC) (fun hS => ?_)
      clear hK K
      try simp only [Act.put]
      try simp only [List.setIfInBounds_toArray]
      try simp only [List.set_cons_succ]
      try simp only [List.set_cons_zero]
      refine wpAnyH_ready (rs := [5]) (by kernel_rfl) (by simp) ?_
      refine AllReadyH.cons rfl (fun K hK => ?_) AllReadyH.nil
      refine step_store_row none rfl rfl 39 (.tmp 2) (.tmp 8) rfl gZ _ rfl rfl 39 ZRun hZ infoRun rfl (Rn.one _) ?_
      refine hK.out _ _ (old_of (below_setRow hS.1 hgZ _)) (fun hS => ?_)
      clear hK K
      try simp only [Act.put]
      try simp only [List.setIfInBounds_toArray]
      try simp only [List.set_cons_succ]
      try simp only [List.set_cons_zero]
      refine wpAnyH_done (by kernel_rfl) ?_ _
      go_wp2_with fail
      go_meet
      exact ⟨gZ, kc, cA, rfl, hgZ, setRow_heap _ _ _ _ _ _ hZ, below_setRow (by assumption) hgZ _⟩
  case rest =>
    obtain ⟨g, kc, cA, rfl, hg, hR, hb⟩ := hcut
    obtain ⟨R0, HR0⟩ : ∃ R0, Hid (beginRn 2 [] ⟨5, 0, 0, 0, 0, 0, 0⟩ (regR 0 0 0 0 0) (regR 0 0 0 0 0) ⟨cA, 0, kc⟩ = R0) := ⟨_, Lib.hid rfl⟩
    have e1 : R0.pc = 0 := by rw [← HR0.out]; rfl
    have e2 : R0.code = 23 := by rw [← HR0.out]; rfl
    have e3 : R0.said = noS := by rw [← HR0.out]; rfl
    have He := Lib.hid (And.intro e1 (And.intro e2 e3))
    rw [HR0.out] at hR
    have HR := Lib.hid hR
    have HB1 := Lib.hid (HB.out.trans (hb.mono HB.out.size))
    clear hR hb e1 e2 e3 p0 p1 p2 p3
    go_upto_region 4 with (first | refine wpList_load_row rfl 39 (.tmp 2) rfl g rfl 39 R0.arr (0, 0) _ HR.out undRun rfl infoRun ?_ | (go_at_call 15; refine (tell_any R0 23 0 _ He.out.2.2).mono ?_; rintro r w5 ⟨rfl, hb5⟩) | refine wpList_store_row rfl 39 (.tmp 3) (.tmp 10) rfl w5.heap.size _ rfl rfl 39 _ (row_new _ _ _) infoRun rfl (Rn.one _) ?_)
    refine alloc_set w5 _ _ _ ?_
    intro W6 hR6 hb6
    have hR2 := row_below (row_below HR.out hb5) hb6
    have B := HB1.out.trans ((hb5.mono HB1.out.size).trans (hb6.mono (Nat.le_trans HB1.out.size hb5.size)))
    have a1 := (run_box hR2).2.2.2.2.2.2.2.1
    have a2 := (run_box hR2).2.2.2.2.2.2.2.2.2.2.2.2.2.2.2.2.2.2.2.2.2.2.2.1
    have a3 := (run_box hR6).2.2.2.2.2.2.2.2.2.2.2.2.2.2.2.2.2.2.2.2.2.1
    have a4 := (run_box hR6).2.2.2.2.2.2.2.2.2.2.2.2.2.2.2.2.2.2.2.2.2.2.1
    rw [He.out.1] at a1
    rw [He.out.2.1] at a2
    simp only [toldR] at a3 a4
    have Hb := Lib.hid B
    clear hR6 hb6 hR2 B hb5
    go_wp2_with fail
    go_ret
    exact ⟨rfl, Hb.out⟩

end Go.Proofs.Ytaneokplagdcfaa
