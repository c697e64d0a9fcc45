/- Layer 14: the document's model in memory, as far as scopes are made and unmade. (Printed by gen_rm.py.) -/
import Derived.Test.YthedndejlfkknaaRScC
import Derived.Test.YthedndejlfkknaaRFs
import Derived.Test.YthedndejlfkknaaFRest
import Derived.Test.YthedndejlfkknaaFLawPlain
namespace Go.Proofs.Ythedndejlfkknaa
open Go.RowKit
set_option linter.unusedVariables false
set_option linter.unusedSimpArgs false

structure Pk where
  p : Nat
  bc : Nat
  bx : Nat
  g : Nat
  gq : Nat
  cc : Nat
  cx : Nat
  dc : List Value
  dx : List Value
abbrev Pk.all (PK : Pk) (M : Nat) : List Nat := [M, PK.p, PK.bc, PK.bx, PK.g, PK.gq]
structure RM (B : Nat) (w : World) (M : Nat) (PK : Pk) (f e : Int) (S : Sco) : Prop where
  row : ∃ cs, w.heap[M]? = some (.cells cs 106 (0, 0)) ∧ cs[5]? = some (.pointer (some ⟨PK.p, 0, none⟩))
  sc : ∃ bb, RSc B w PK.p PK.bc PK.bx PK.g PK.gq PK.cc PK.cx PK.dc PK.dx f e S bb
  ne : M ≠ PK.bc ∧ M ≠ PK.bx ∧ M ≠ PK.gq
  low : B ≤ M
section
variable {B M : Nat} {PK : Pk} {f e : Int} {S S' : Sco} {w w' a : World}
theorem RM.kept {T : List Nat} (h : RM B w M PK f e S) (k : Keep T w w') (hT : ∀ j ∈ T, j ∉ PK.all M) : RM B w' M PK f e S := by
  obtain ⟨⟨cs, hr, h5⟩, ⟨bb, hs⟩, hn, hl⟩ := h
  have hn' : ∀ j ∈ PK.all M, j ∉ T := fun j hj hm => hT j hm hj
  exact ⟨⟨cs, k.row hr (hn' _ (by simp)), h5⟩, ⟨bb, hs.kept k (hn' _ (by simp)) (hn' _ (by simp)) (hn' _ (by simp)) (hn' _ (by simp)) (hn' _ (by simp))⟩, hn, hl⟩
theorem RM.below (h : RM B w M PK f e S) (k : Below w.heap.size w w') : RM B w' M PK f e S := by
  obtain ⟨⟨cs, hr, h5⟩, ⟨bb, hs⟩, hn, hl⟩ := h
  exact ⟨⟨cs, row_below hr k, h5⟩, ⟨bb, hs.below k⟩, hn, hl⟩
theorem RM.made (h : RM B w M PK f e S) {bb : List Bool} (hs : RSc B w' PK.p PK.bc PK.bx PK.g PK.gq PK.cc PK.cx PK.dc PK.dx f e S' bb) (k : Keep (RT PK.bc PK.bx PK.gq) w w') : RM B w' M PK f e S' := by
  obtain ⟨⟨cs, hr, h5⟩, _, hn, hl⟩ := h
  exact ⟨⟨cs, k.row hr (by simp; exact ⟨hn.1, hn.2.1, hn.2.2⟩), h5⟩, ⟨bb, hs⟩, hn, hl⟩
theorem RM.cell (h : RM B w M PK f e S) : w.cell? ⟨M, 5, none⟩ = some (.pointer (some ⟨PK.p, 0, none⟩)) := by
  obtain ⟨⟨cs, hr, h5⟩, _, _, _⟩ := h
  rw [row_cell hr]
  exact h5
theorem RM.lt (h : RM B w M PK f e S) : ∀ j ∈ PK.all M, j < w.heap.size := by
  obtain ⟨⟨cs, hr, _⟩, ⟨bb, hs⟩, _, _⟩ := h
  obtain ⟨a1, a2, a3, a4, a5⟩ := hs.lt
  have a0 := lt_of_heap hr
  intro j hj
  simp at hj
  rcases hj with rfl | rfl | rfl | rfl | rfl | rfl <;> assumption
theorem RM.lows (h : RM B w M PK f e S) : ∀ j ∈ PK.all M, B ≤ j := by
  obtain ⟨_, ⟨bb, hs⟩, _, hl⟩ := h
  intro j hj
  have a1 := hs.low
  have a2 := hs.rg.low
  have a3 := hs.rg.lowq
  simp at hj
  rcases hj with rfl | rfl | rfl | rfl | rfl | rfl
  · exact hl
  · exact a1.1
  · exact a1.2.1
  · exact a1.2.2
  · exact a2
  · exact a3
theorem RM.under (h : RM B w M PK f e S) (hb : Below B a w) (k : Keep (RT PK.bc PK.bx PK.gq) w w') : Below B a w' := by
  obtain ⟨_, ⟨bb, hs⟩, _, _⟩ := h
  exact hs.keep_below hb k
end

/-- what a call is told -/
abbrev ansA (c n : Int) : Array Value := #[.int .i64 c, .int .i64 n, .slice none 0 0]
theorem ansA_one (c n : Int) : (ansA c n).all (·.oneCell') = true := by simp [Value.oneCell']
theorem infoAns : (Try.prog.info? 40).map (·.size) = some 3 := by kernel_rfl
theorem undAns : Try.prog.underlying 40 = some (.struct (Try.prog.fieldsOf 40)) := by kernel_rfl

set_option maxRecDepth 100000 in
set_option maxHeartbeats 4000000 in
theorem rnewM_any (s t i h : Int) (w : World) (H : PlanOk s t i h) :
    Calls Try.prog 12 #[.agg #[.int .i64 s, .int .i64 t, .int .i64 i, .int .i64 h], .slice none 0 0] w fun r w' => ∃ M PK, r = .returned (.pointer (some ⟨M, 0, none⟩)) ∧ RM w.heap.size w' M PK (64 * s + i) (64 * s + i + h) (newS ⟨s, t, i, h⟩) ∧ Below w.heap.size w w' := by
  have HN : Hid (∀ W, Calls Try.prog 40 #[.agg #[.int .i64 s, .int .i64 t, .int .i64 i, .int .i64 h]] W fun r w' => ∃ p bc bx g gq cc cx dc dx bb, r = .returned (.pointer (some ⟨p, 0, none⟩)) ∧ RSc W.heap.size w' p bc bx g gq cc cx dc dx (64 * s + i) (64 * s + i + h) (newS ⟨s, t, i, h⟩) bb ∧ Below W.heap.size W w') := Lib.hid fun W => by
    have h9 := rnewS_any ⟨s, t, i, h⟩ W (by obtain ⟨a1, a2, a3, a4, a5, a6, a7, a8, a9, a10⟩ := H; unfold PlnOk; dsimp only; omega)
    dsimp only at h9
    rw [Int.mul_comm s 64] at h9
    exact h9
  clear H
  go_enter Try.func12, Try.ntmps12
  go_upto_region 1 with fail
  refine one_row w _ _ ?_
  intro W hR hB
  obtain ⟨x0, x1, x2, x3, _⟩ := box4 hR
  have zw := lt_of_heap hR
  have HB := Lib.hid hB
  have Hsz := Lib.hid hB.size
  clear hR hB
  refine wp_region_held_drew (S := Old W) (by kernel_rfl) (old_of (by go_grown)) ?_
  intro hS
  generalize W.drew = y0 at hS ⊢
  refine wpAnyH_take_at (i := 0) (v := ?v0x1) (some 5) rfl rfl (by kernel_rfl) (by kernel_rfl) (by kernel_rfl) (fun _ _ _ h => h) (Or.inl ⟨by kernel_rfl, ?h0x1⟩) (by assumption) ?r0x1
  case h0x1 => (intro w hSw; (try dsimp only at hSw); go_simp; first | done | (with_reducible rfl))
  try simp only [Act.put]
  try simp only [List.setIfInBounds_toArray]
  try simp only [List.set_cons_succ]
  try simp only [List.set_cons_zero]
  refine wpAnyH_take_at (i := 1) (v := ?v1x2) (some 6) rfl rfl (by kernel_rfl) (by kernel_rfl) (by kernel_rfl) (fun _ _ _ h => h) (Or.inl ⟨by kernel_rfl, ?h1x2⟩) (by assumption) ?r1x2
  case h1x2 => (intro w hSw; (try dsimp only at hSw); go_simp; first | done | (with_reducible rfl))
  try simp only [Act.put]
  try simp only [List.setIfInBounds_toArray]
  try simp only [List.set_cons_succ]
  try simp only [List.set_cons_zero]
  refine wpAnyH_take_at (i := 2) (v := ?v2x3) (some 7) rfl rfl (by kernel_rfl) (by kernel_rfl) (by kernel_rfl) (fun _ _ _ h => h) (Or.inl ⟨by kernel_rfl, ?h2x3⟩) (by assumption) ?r2x3
  case h2x3 => (intro w hSw; (try dsimp only at hSw); go_simp; first | done | (with_reducible rfl))
  try simp only [Act.put]
  try simp only [List.setIfInBounds_toArray]
  try simp only [List.set_cons_succ]
  try simp only [List.set_cons_zero]
  refine wpAnyH_ready (rs := [3]) (by kernel_rfl) (by simp) ?_
  refine AllReadyH.cons rfl (fun K hK => ?_) AllReadyH.nil
  go_simp
  refine (HN.out _).mono ?_
  rintro r yS ⟨p, bc, bx, g, gq, cc, cx, dc, dx, bb, rfl, hs, hb⟩
  go_simp
  have oS := below_only hS.1 hb
  have HS := Lib.hid hs
  have Hlow := Lib.hid hS.1.size
  clear hs
  refine hK.out _ _ (old_of oS) (fun hS => ?_)
  clear hK K
  try simp only [Act.put]
  try simp only [List.setIfInBounds_toArray]
  try simp only [List.set_cons_succ]
  try simp only [List.set_cons_zero]
  refine wpAnyH_take_at (i := 4) (v := ?v4x4) (some 9) rfl rfl (by kernel_rfl) (by kernel_rfl) (by kernel_rfl) (fun _ _ _ h => h) (Or.inl ⟨by kernel_rfl, ?h4x4⟩) (by assumption) ?r4x4
  case h4x4 => (intro w hSw; (try dsimp only at hSw); go_simp; first | done | (with_reducible rfl))
  try simp only [Act.put]
  try simp only [List.setIfInBounds_toArray]
  try simp only [List.set_cons_succ]
  try simp only [List.set_cons_zero]
  refine wpAnyH_ready (rs := [5]) (by kernel_rfl) (by simp) ?_
  refine AllReadyH.cons rfl (fun K hK => ?_) AllReadyH.nil
  go_simp
  refine k_alloc (fun yB hX hb => ?_)
  obtain ⟨X, hXx⟩ : ∃ x, x = yS.heap.size := ⟨_, rfl⟩
  have hlX : w.heap.size ≤ X := by have := hS.1.size; have := Hsz.out; omega
  have hXl := HS.out.lt
  have HS2 := Lib.hid (HS.out.below hb)
  rw [← hXx] at hX hXl ⊢
  have HnX := Lib.hid (show X ≠ bc ∧ X ≠ bx ∧ X ≠ gq by omega)
  clear hXx hXl
  have HX : Hid (∃ cs, yB.heap[X]? = some (.cells cs 106 (0, 0)) ∧ cs[5]? = some (.pointer (some ⟨p, 0, none⟩))) := Lib.hid ⟨_, hX, rfl⟩
  clear hX
  have oB := below_only hS.1 hb
  refine hK.out _ _ (old_of oB) (fun hS => ?_)
  clear hK K
  try simp only [Act.put]
  try simp only [List.setIfInBounds_toArray]
  try simp only [List.set_cons_succ]
  try simp only [List.set_cons_zero]
  refine wpAnyH_take_at (i := 6) (v := ?v6x5) (some 4) rfl rfl (by kernel_rfl) (by kernel_rfl) (by kernel_rfl) (fun _ _ _ h => h) (Or.inl ⟨by kernel_rfl, ?h6x5⟩) (by assumption) ?r6x5
  case h6x5 => (intro w hSw; (try dsimp only at hSw); go_simp; first | done | (with_reducible rfl))
  try simp only [Act.put]
  try simp only [List.setIfInBounds_toArray]
  try simp only [List.set_cons_succ]
  try simp only [List.set_cons_zero]
  refine wpAnyH_done (by kernel_rfl) ?_ _
  go_wp2_with fail
  go_ret
  refine ⟨X, ⟨p, bc, bx, g, gq, cc, cx, dc, dx⟩, rfl, ⟨HX.out, ⟨bb, ?_⟩, HnX.out, hlX⟩, below_only HB.out hS.1⟩
  have hle : w.heap.size ≤ y0.heap.size := Nat.le_trans Hsz.out Hlow.out
  exact { HS2.out with rg := { HS2.out.rg with low := Nat.le_trans hle HS2.out.rg.low, lowq := Nat.le_trans hle HS2.out.rg.lowq }, low := ⟨Nat.le_trans hle HS2.out.low.1, Nat.le_trans hle HS2.out.low.2.1, Nat.le_trans hle HS2.out.low.2.2⟩ }

set_option maxRecDepth 100000 in
set_option maxHeartbeats 4000000 in
theorem code_any (z : Int) (w : World) : Calls Try.prog 43 #[.int .i64 z] w fun r w' => r = .returned (.agg (ansA z 0)) ∧ Below w.heap.size w w' := by
  go_enter Try.func43, Try.ntmps43
  go_upto_region 1 with fail
  refine one_row w _ _ ?_
  intro W hR hB
  have zw := lt_of_heap hR
  have HR := Lib.hid hR
  have HB := Lib.hid hB
  clear hR hB
  go_wp2_with (refine wpList_store_row rfl 40 (.tmp 2) (.tmp 4) rfl w.heap.size (ansA z 0) rfl rfl 40 _ HR.out infoAns rfl (ansA_one z 0) ?_)
  have HR2 := Lib.hid (setRow_heap _ _ _ (ansA z 0) _ _ HR.out)
  have HB2 := Lib.hid (below_setRow HB.out (Nat.le_refl _) (ansA z 0))
  generalize W.setRow w.heap.size (ansA z 0) = W2 at HR2 HB2 ⊢
  refine bodyPost_ret (results_cell_row (fn := Try.f43) rfl _ _ w.heap.size 40 (ansA z 0) (0, 0) _ rfl HR2.out undAns rfl infoAns) rfl ?_
  exact ⟨rfl, HB2.out⟩

set_option maxRecDepth 100000 in
set_option maxHeartbeats 4000000 in
theorem rdoC_any (B M : Nat) (PK : Pk) (f e : Int) (S : Sco) (a : Int) (w : World) (H : RM B w M PK f e S) (ha : -9223372036854775808 ≤ a ∧ a ≤ 9223372036854775807) (h00 : ∀ s, S.l[0]? = some s → s.c.st ≠ 0) :
    Calls Try.prog 14 #[.pointer (some ⟨M, 0, none⟩), .int .i64 0, (Cal.vl ⟨2, 0, 0, 0, a, 0, 0⟩)] w fun r w' => r = .returned (.agg (ansA (createS a S).1.2 (createS a S).1.1)) ∧ RM B w' M PK f e (createS a S).2 ∧ Keep (RT PK.bc PK.bx PK.gq) w w' := by
  have HH := Lib.hid H
  have H00 := Lib.hid h00
  obtain ⟨u, z, S2, HD⟩ : ∃ u z S2, Hid (createS a S = ((u, z), S2)) := ⟨_, _, _, Lib.hid rfl⟩
  rw [HD.out]
  clear h00
  have HC := Lib.hid (show CalOk ⟨2, 0, 0, 0, a, 0, 0⟩ from ⟨by dsimp only; omega, by dsimp only; omega, by dsimp only; omega, by dsimp only; omega, ha, by dsimp only; omega, by dsimp only; omega⟩)
  have Hrg := Lib.hid (show regsS ⟨2, 0, 0, 0, a, 0, 0⟩ = true by simp [regsS])
  have HN0 : Hid (w.heap.size ∉ RT PK.bc PK.bx PK.gq ∧ w.heap.size + 1 ∉ RT PK.bc PK.bx PK.gq) := Lib.hid (by
    have hl := H.lt
    have h1 := hl PK.bc (by simp)
    have h2 := hl PK.bx (by simp)
    have h3 := hl PK.gq (by simp)
    simp
    omega)
  have HN1 : Hid (∀ j ∈ PK.all M, j < w.heap.size) := Lib.hid H.lt
  clear H ha
  go_enter Try.func14, Try.ntmps14
  go_upto_region 1 with fail
  refine two_rows' w _ _ _ _ ?_
  intro W hC hA hB
  have HRc := Lib.hid hC
  have HRa := Lib.hid hA
  replace HH := Lib.hid (HH.out.below hB)
  have KW := Lib.hid (show Keep (RT PK.bc PK.bx PK.gq) w W from keep_below hB _)
  obtain ⟨c0, c1, c2, c3, c4, c5, c6⟩ := box7 hC
  have zc := lt_of_heap hC
  have za := lt_of_heap hA
  clear hC hA hB
  go_wp2_with fail
  refine (regs_any ⟨2, 0, 0, 0, a, 0, 0⟩ _ HC.out).mono ?_
  rintro r w1 ⟨rfl, hb⟩
  rw [Hrg.out]
  replace HRc := Lib.hid (row_below HRc.out hb)
  replace HRa := Lib.hid (row_below HRa.out hb)
  replace HH := Lib.hid (HH.out.below hb)
  replace KW := Lib.hid (KW.out.trans (keep_below hb _))
  clear hb c0 c1 c2 c3 c4 c5 c6 zc za
  obtain ⟨c0, c1, c2, c3, c4, c5, c6⟩ := box7 HRc.out
  have zc := lt_of_heap HRc.out
  have za := lt_of_heap HRa.out
  go_upto_region 11 with fail
  refine wp_region_held_drew (S := fun W' => W'.cell? ⟨M, 5, none⟩ = some (.pointer (some ⟨PK.p, 0, none⟩)) ∧ W'.cell? ⟨w.heap.size, 4, none⟩ = some (.int .i64 a) ∧ M < W'.heap.size ∧ w.heap.size < W'.heap.size) (by kernel_rfl) (show w1.drew.cell? _ = _ ∧ w1.drew.cell? _ = _ ∧ _ ∧ _ from ⟨HH.out.cell, c4, HH.out.lt M (by simp), zc⟩) ?_
  intro hS
  have hb0 : Below w1.heap.size w1 w1.drew := Below.drew (Below.refl _ _)
  replace HH := Lib.hid (HH.out.below hb0)
  replace HRa := Lib.hid (row_below HRa.out hb0)
  replace KW := Lib.hid (KW.out.trans (keep_below hb0 _))
  clear hb0 c0 c1 c2 c3 c4 c5 c6 zc za
  generalize w1.drew = y0 at hS HH HRa KW ⊢
  refine wpAnyH_take_at (i := 0) (v := ?v0x6) (some 40) rfl rfl (by kernel_rfl) (by kernel_rfl) (by kernel_rfl) (fun _ _ _ h => h) (Or.inl ⟨by kernel_rfl, ?h0x6⟩) (by assumption) ?r0x6
  case h0x6 => (intro w' hSw; obtain ⟨s1, s2, s3, s4⟩ := hSw; go_simp; first | done | (with_reducible rfl))
  try simp only [Act.put]
  try simp only [List.setIfInBounds_toArray]
  try simp only [List.set_cons_succ]
  try simp only [List.set_cons_zero]
  refine wpAnyH_take_at (i := 1) (v := ?v1x7) (some 41) rfl rfl (by kernel_rfl) (by kernel_rfl) (by kernel_rfl) (fun _ _ _ h => h) (Or.inl ⟨by kernel_rfl, ?h1x7⟩) (by assumption) ?r1x7
  case h1x7 => (intro w' hSw; obtain ⟨s1, s2, s3, s4⟩ := hSw; go_simp; first | done | (with_reducible rfl))
  try simp only [Act.put]
  try simp only [List.setIfInBounds_toArray]
  try simp only [List.set_cons_succ]
  try simp only [List.set_cons_zero]
  refine wpAnyH_take_at (i := 2) (v := ?v2x8) (some 42) rfl rfl (by kernel_rfl) (by kernel_rfl) (by kernel_rfl) (fun _ _ _ h => h) (Or.inl ⟨by kernel_rfl, ?h2x8⟩) (by assumption) ?r2x8
  case h2x8 => (intro w' hSw; obtain ⟨s1, s2, s3, s4⟩ := hSw; go_simp; first | done | (with_reducible rfl))
  try simp only [Act.put]
  try simp only [List.setIfInBounds_toArray]
  try simp only [List.set_cons_succ]
  try simp only [List.set_cons_zero]
  refine wpAnyH_take_at (i := 3) (v := ?v3x9) (some 43) rfl rfl (by kernel_rfl) (by kernel_rfl) (by kernel_rfl) (fun _ _ _ h => h) (Or.inl ⟨by kernel_rfl, ?h3x9⟩) (by assumption) ?r3x9
  case h3x9 => (intro w' hSw; obtain ⟨s1, s2, s3, s4⟩ := hSw; go_simp; first | done | (with_reducible rfl))
  try simp only [Act.put]
  try simp only [List.setIfInBounds_toArray]
  try simp only [List.set_cons_succ]
  try simp only [List.set_cons_zero]
  refine wpAnyH_take_at (i := 4) (v := ?v4x10) (some 44) rfl rfl (by kernel_rfl) (by kernel_rfl) (by kernel_rfl) (fun _ _ _ h => h) (Or.inl ⟨by kernel_rfl, ?h4x10⟩) (by assumption) ?r4x10
  case h4x10 => (intro w' hSw; obtain ⟨s1, s2, s3, s4⟩ := hSw; go_simp; first | done | (with_reducible rfl))
  try simp only [Act.put]
  try simp only [List.setIfInBounds_toArray]
  try simp only [List.set_cons_succ]
  try simp only [List.set_cons_zero]
  refine wpAnyH_take_at (i := 5) (v := ?v5x11) (some 45) rfl rfl (by kernel_rfl) (by kernel_rfl) (by kernel_rfl) (fun _ _ _ h => h) (Or.inl ⟨by kernel_rfl, ?h5x11⟩) (by assumption) ?r5x11
  case h5x11 => (intro w' hSw; obtain ⟨s1, s2, s3, s4⟩ := hSw; go_simp; first | done | (with_reducible rfl))
  try simp only [Act.put]
  try simp only [List.setIfInBounds_toArray]
  try simp only [List.set_cons_succ]
  try simp only [List.set_cons_zero]
  refine wpAnyH_ready (rs := [6]) (by kernel_rfl) (by simp) ?_
  refine AllReadyH.cons rfl (fun K hK => ?_) AllReadyH.nil
  go_simp
  obtain ⟨bb, hsc⟩ := HH.out.sc
  refine (rcreateS_any B PK.p PK.bc PK.bx PK.g PK.gq PK.cc PK.cx PK.dc PK.dx f e S bb a _ hsc H00.out).mono ?_
  rintro r y1 ⟨rfl, ⟨b2, hs⟩, hk⟩
  rw [HD.out] at hs ⊢
  go_simp
  clear hsc bb
  have HH2 := Lib.hid (HH.out.made hs hk)
  replace HRa := Lib.hid (hk.row HRa.out HN0.out.2)
  replace KW := Lib.hid (KW.out.trans hk)
  have hsz := hk.size
  have hc4 := hk.cell hS.2.1 HN0.out.1
  clear hs
  refine hK.out _ _ (⟨HH2.out.cell, hc4, HH2.out.lt M (by simp), Nat.lt_of_lt_of_le hS.2.2.2 hsz⟩) (fun hS => ?_)
  clear hK K
  try simp only [Act.put]
  try simp only [List.setIfInBounds_toArray]
  try simp only [List.set_cons_succ]
  try simp only [List.set_cons_zero]
  refine wpAnyH_take_at (i := 7) (v := ?v7x12) (some 39) rfl rfl (by kernel_rfl) (by kernel_rfl) (by kernel_rfl) (fun _ _ _ h => h) (Or.inl ⟨by kernel_rfl, ?h7x12⟩) (by assumption) ?r7x12
  case h7x12 => (intro w' hSw; obtain ⟨s1, s2, s3, s4⟩ := hSw; go_simp; first | done | (with_reducible rfl))
  try simp only [Act.put]
  try simp only [List.setIfInBounds_toArray]
  try simp only [List.set_cons_succ]
  try simp only [List.set_cons_zero]
  refine wpAnyH_take_at (i := 8) (v := ?v8x13) (some 47) rfl rfl (by kernel_rfl) (by kernel_rfl) (by kernel_rfl) (fun _ _ _ h => h) (Or.inl ⟨by kernel_rfl, ?h8x13⟩) (by assumption) ?r8x13
  case h8x13 => (intro w' hSw; obtain ⟨s1, s2, s3, s4⟩ := hSw; go_simp; first | done | (with_reducible rfl))
  try simp only [Act.put]
  try simp only [List.setIfInBounds_toArray]
  try simp only [List.set_cons_succ]
  try simp only [List.set_cons_zero]
  refine wpAnyH_take_at (i := 9) (v := ?v9x14) (some 48) rfl rfl (by kernel_rfl) (by kernel_rfl) (by kernel_rfl) (fun _ _ _ h => h) (Or.inl ⟨by kernel_rfl, ?h9x14⟩) (by assumption) ?r9x14
  case h9x14 => (intro w' hSw; obtain ⟨s1, s2, s3, s4⟩ := hSw; go_simp; first | done | (with_reducible rfl))
  try simp only [Act.put]
  try simp only [List.setIfInBounds_toArray]
  try simp only [List.set_cons_succ]
  try simp only [List.set_cons_zero]
  refine wpAnyH_take_at (i := 10) (v := ?v10x15) (some 8) rfl rfl (by kernel_rfl) (by kernel_rfl) (by kernel_rfl) (fun _ _ _ h => h) (Or.inl ⟨by kernel_rfl, ?h10x15⟩) (by assumption) ?r10x15
  case h10x15 => (intro w' hSw; obtain ⟨s1, s2, s3, s4⟩ := hSw; go_simp; first | done | (with_reducible rfl))
  try simp only [Act.put]
  try simp only [List.setIfInBounds_toArray]
  try simp only [List.set_cons_succ]
  try simp only [List.set_cons_zero]
  refine wpAnyH_take_at (i := 11) (v := ?v11x16) (some 9) rfl rfl (by kernel_rfl) (by kernel_rfl) (by kernel_rfl) (fun _ _ _ h => h) (Or.inl ⟨by kernel_rfl, ?h11x16⟩) (by assumption) ?r11x16
  case h11x16 => (intro w' hSw; obtain ⟨s1, s2, s3, s4⟩ := hSw; go_simp; first | done | (with_reducible rfl))
  try simp only [Act.put]
  try simp only [List.setIfInBounds_toArray]
  try simp only [List.set_cons_succ]
  try simp only [List.set_cons_zero]
  refine wpAnyH_done (by kernel_rfl) ?_ _
  have za := lt_of_heap HRa.out
  clear hS hsz hc4
  go_wp2_with (refine wpList_store_row rfl 40 (.tmp 6) (.tmp 51) rfl (w.heap.size + 1) (ansA z u) rfl rfl 40 _ HRa.out infoAns rfl (ansA_one z u) ?_)
  replace KW := Lib.hid (KW.out.setRow (g := w.heap.size + 1) (.inr (by omega)) (ansA z u))
  replace HH2 := Lib.hid (HH2.out.kept ((Keep.refl [w.heap.size + 1] y1).setRow (g := w.heap.size + 1) (.inl (by simp)) (ansA z u)) (fun j hj hm => by have := HN1.out j hm; simp at hj; omega))
  have HRb := Lib.hid (setRow_heap _ _ _ (ansA z u) _ _ HRa.out)
  generalize y1.setRow (w.heap.size + 1) (ansA z u) = y3 at KW HH2 HRb ⊢
  have za := lt_of_heap HRb.out
  go_wp2
  refine bodyPost_ret (results_cell_row (fn := Try.f14) rfl _ _ (w.heap.size + 1) 40 (ansA z u) (0, 0) _ rfl HRb.out undAns rfl infoAns) rfl ?_
  exact ⟨rfl, HH2.out, KW.out⟩

set_option maxRecDepth 100000 in
set_option maxHeartbeats 4000000 in
theorem rdoD_any (B M : Nat) (PK : Pk) (f e : Int) (S : Sco) (a : Int) (w : World) (H : RM B w M PK f e S) (ha : -9223372036854775808 ≤ a ∧ a ≤ 9223372036854775807) :
    Calls Try.prog 14 #[.pointer (some ⟨M, 0, none⟩), .int .i64 0, (Cal.vl ⟨3, 0, 0, 0, a, 0, 0⟩)] w fun r w' => r = .returned (.agg (ansA (destroyS f e a S).1 0)) ∧ RM B w' M PK f e (destroyS f e a S).2 ∧ Keep (RT PK.bc PK.bx PK.gq) w w' := by
  have HH := Lib.hid H
  obtain ⟨z, S2, HD⟩ : ∃ z S2, Hid (destroyS f e a S = (z, S2)) := ⟨_, _, Lib.hid rfl⟩
  rw [HD.out]
  have HC := Lib.hid (show CalOk ⟨3, 0, 0, 0, a, 0, 0⟩ from ⟨by dsimp only; omega, by dsimp only; omega, by dsimp only; omega, by dsimp only; omega, ha, by dsimp only; omega, by dsimp only; omega⟩)
  have Hrg := Lib.hid (show regsS ⟨3, 0, 0, 0, a, 0, 0⟩ = true by simp [regsS])
  have HN0 : Hid (w.heap.size ∉ RT PK.bc PK.bx PK.gq ∧ w.heap.size + 1 ∉ RT PK.bc PK.bx PK.gq) := Lib.hid (by
    have hl := H.lt
    have h1 := hl PK.bc (by simp)
    have h2 := hl PK.bx (by simp)
    have h3 := hl PK.gq (by simp)
    simp
    omega)
  have HN1 : Hid (∀ j ∈ PK.all M, j < w.heap.size) := Lib.hid H.lt
  clear H ha
  go_enter Try.func14, Try.ntmps14
  go_upto_region 1 with fail
  refine two_rows' w _ _ _ _ ?_
  intro W hC hA hB
  have HRc := Lib.hid hC
  have HRa := Lib.hid hA
  replace HH := Lib.hid (HH.out.below hB)
  have KW := Lib.hid (show Keep (RT PK.bc PK.bx PK.gq) w W from keep_below hB _)
  obtain ⟨c0, c1, c2, c3, c4, c5, c6⟩ := box7 hC
  have zc := lt_of_heap hC
  have za := lt_of_heap hA
  clear hC hA hB
  go_wp2_with fail
  refine (regs_any ⟨3, 0, 0, 0, a, 0, 0⟩ _ HC.out).mono ?_
  rintro r w1 ⟨rfl, hb⟩
  rw [Hrg.out]
  replace HRc := Lib.hid (row_below HRc.out hb)
  replace HRa := Lib.hid (row_below HRa.out hb)
  replace HH := Lib.hid (HH.out.below hb)
  replace KW := Lib.hid (KW.out.trans (keep_below hb _))
  clear hb c0 c1 c2 c3 c4 c5 c6 zc za
  obtain ⟨c0, c1, c2, c3, c4, c5, c6⟩ := box7 HRc.out
  have zc := lt_of_heap HRc.out
  have za := lt_of_heap HRa.out
  go_upto_region 14 with fail
  refine wp_region_held_drew (S := fun W' => W'.cell? ⟨M, 5, none⟩ = some (.pointer (some ⟨PK.p, 0, none⟩)) ∧ W'.cell? ⟨w.heap.size, 4, none⟩ = some (.int .i64 a) ∧ M < W'.heap.size ∧ w.heap.size < W'.heap.size) (by kernel_rfl) (show w1.drew.cell? _ = _ ∧ w1.drew.cell? _ = _ ∧ _ ∧ _ from ⟨HH.out.cell, c4, HH.out.lt M (by simp), zc⟩) ?_
  intro hS
  have hb0 : Below w1.heap.size w1 w1.drew := Below.drew (Below.refl _ _)
  replace HH := Lib.hid (HH.out.below hb0)
  replace HRa := Lib.hid (row_below HRa.out hb0)
  replace KW := Lib.hid (KW.out.trans (keep_below hb0 _))
  clear hb0 c0 c1 c2 c3 c4 c5 c6 zc za
  generalize w1.drew = y0 at hS HH HRa KW ⊢
  refine wpAnyH_take_at (i := 0) (v := ?v0x17) (some 54) rfl rfl (by kernel_rfl) (by kernel_rfl) (by kernel_rfl) (fun _ _ _ h => h) (Or.inl ⟨by kernel_rfl, ?h0x17⟩) (by assumption) ?r0x17
  case h0x17 => (intro w' hSw; obtain ⟨s1, s2, s3, s4⟩ := hSw; go_simp; first | done | (with_reducible rfl))
  try simp only [Act.put]
  try simp only [List.setIfInBounds_toArray]
  try simp only [List.set_cons_succ]
  try simp only [List.set_cons_zero]
  refine wpAnyH_take_at (i := 1) (v := ?v1x18) (some 55) rfl rfl (by kernel_rfl) (by kernel_rfl) (by kernel_rfl) (fun _ _ _ h => h) (Or.inl ⟨by kernel_rfl, ?h1x18⟩) (by assumption) ?r1x18
  case h1x18 => (intro w' hSw; obtain ⟨s1, s2, s3, s4⟩ := hSw; go_simp; first | done | (with_reducible rfl))
  try simp only [Act.put]
  try simp only [List.setIfInBounds_toArray]
  try simp only [List.set_cons_succ]
  try simp only [List.set_cons_zero]
  refine wpAnyH_take_at (i := 2) (v := ?v2x19) (some 56) rfl rfl (by kernel_rfl) (by kernel_rfl) (by kernel_rfl) (fun _ _ _ h => h) (Or.inl ⟨by kernel_rfl, ?h2x19⟩) (by assumption) ?r2x19
  case h2x19 => (intro w' hSw; obtain ⟨s1, s2, s3, s4⟩ := hSw; go_simp; first | done | (with_reducible rfl))
  try simp only [Act.put]
  try simp only [List.setIfInBounds_toArray]
  try simp only [List.set_cons_succ]
  try simp only [List.set_cons_zero]
  refine wpAnyH_take_at (i := 3) (v := ?v3x20) (some 57) rfl rfl (by kernel_rfl) (by kernel_rfl) (by kernel_rfl) (fun _ _ _ h => h) (Or.inl ⟨by kernel_rfl, ?h3x20⟩) (by assumption) ?r3x20
  case h3x20 => (intro w' hSw; obtain ⟨s1, s2, s3, s4⟩ := hSw; go_simp; first | done | (with_reducible rfl))
  try simp only [Act.put]
  try simp only [List.setIfInBounds_toArray]
  try simp only [List.set_cons_succ]
  try simp only [List.set_cons_zero]
  refine wpAnyH_take_at (i := 4) (v := ?v4x21) (some 58) rfl rfl (by kernel_rfl) (by kernel_rfl) (by kernel_rfl) (fun _ _ _ h => h) (Or.inl ⟨by kernel_rfl, ?h4x21⟩) (by assumption) ?r4x21
  case h4x21 => (intro w' hSw; obtain ⟨s1, s2, s3, s4⟩ := hSw; go_simp; first | done | (with_reducible rfl))
  try simp only [Act.put]
  try simp only [List.setIfInBounds_toArray]
  try simp only [List.set_cons_succ]
  try simp only [List.set_cons_zero]
  refine wpAnyH_take_at (i := 5) (v := ?v5x22) (some 59) rfl rfl (by kernel_rfl) (by kernel_rfl) (by kernel_rfl) (fun _ _ _ h => h) (Or.inl ⟨by kernel_rfl, ?h5x22⟩) (by assumption) ?r5x22
  case h5x22 => (intro w' hSw; obtain ⟨s1, s2, s3, s4⟩ := hSw; go_simp; first | done | (with_reducible rfl))
  try simp only [Act.put]
  try simp only [List.setIfInBounds_toArray]
  try simp only [List.set_cons_succ]
  try simp only [List.set_cons_zero]
  refine wpAnyH_ready (rs := [6]) (by kernel_rfl) (by simp) ?_
  refine AllReadyH.cons rfl (fun K hK => ?_) AllReadyH.nil
  go_simp
  obtain ⟨bb, hsc⟩ := HH.out.sc
  refine (rdestroyS_any B PK.p PK.bc PK.bx PK.g PK.gq PK.cc PK.cx PK.dc PK.dx f e S bb a _ hsc).mono ?_
  rintro r y1 ⟨rfl, ⟨b2, hs⟩, hk⟩
  rw [HD.out] at hs ⊢
  go_simp
  clear hsc bb
  have HH2 := Lib.hid (HH.out.made hs hk)
  replace HRa := Lib.hid (hk.row HRa.out HN0.out.2)
  replace KW := Lib.hid (KW.out.trans hk)
  have hsz := hk.size
  have hc4 := hk.cell hS.2.1 HN0.out.1
  clear hs
  refine hK.out _ _ (⟨HH2.out.cell, hc4, HH2.out.lt M (by simp), Nat.lt_of_lt_of_le hS.2.2.2 hsz⟩) (fun hS => ?_)
  clear hK K
  try simp only [Act.put]
  try simp only [List.setIfInBounds_toArray]
  try simp only [List.set_cons_succ]
  try simp only [List.set_cons_zero]
  refine wpAnyH_ready (rs := [7]) (by kernel_rfl) (by simp) ?_
  refine AllReadyH.cons rfl (fun K hK => ?_) AllReadyH.nil
  go_simp
  refine (code_any z _).mono ?_
  rintro r y2 ⟨rfl, hb⟩
  go_simp
  replace HH2 := Lib.hid (HH2.out.below hb)
  replace HRa := Lib.hid (row_below HRa.out hb)
  replace KW := Lib.hid (KW.out.trans (keep_below hb _))
  have hc5 := (hb.cell (lt_of_cell hS.2.1)).trans hS.2.1
  have hz5 := hb.size
  refine hK.out _ _ (⟨HH2.out.cell, hc5, HH2.out.lt M (by simp), Nat.lt_of_lt_of_le hS.2.2.2 hz5⟩) (fun hS => ?_)
  clear hK K
  try simp only [Act.put]
  try simp only [List.setIfInBounds_toArray]
  try simp only [List.set_cons_succ]
  try simp only [List.set_cons_zero]
  refine wpAnyH_ready (rs := [8]) (by kernel_rfl) (by simp) ?_
  refine AllReadyH.cons rfl (fun K hK => ?_) AllReadyH.nil
  refine step_store_row none rfl rfl 40 (.tmp 6) (.tmp 61) rfl (w.heap.size + 1) (ansA z 0) rfl rfl 40 _ HRa.out infoAns rfl (ansA_one z 0) ?_
  replace KW := Lib.hid (KW.out.setRow (g := w.heap.size + 1) (.inr (by omega)) (ansA z 0))
  replace HH2 := Lib.hid (HH2.out.kept ((Keep.refl [w.heap.size + 1] y2).setRow (g := w.heap.size + 1) (.inl (by simp)) (ansA z 0)) (fun j hj hm => by have := HN1.out j hm; simp at hj; omega))
  have HRb := Lib.hid (setRow_heap _ _ _ (ansA z 0) _ _ HRa.out)
  have hc6 := (cell_setRow (w := y2) (g := w.heap.size + 1) (cs := ansA z 0) (p := ⟨w.heap.size, 4, none⟩) (by dsimp only; omega)).trans hS.2.1
  have hz6 : w.heap.size < (y2.setRow (w.heap.size + 1) (ansA z 0)).heap.size := by simpa [World.setRow] using hS.2.2.2
  generalize y2.setRow (w.heap.size + 1) (ansA z 0) = y3 at KW HH2 HRb hc6 hz6 ⊢
  refine hK.out _ _ (⟨HH2.out.cell, hc6, HH2.out.lt M (by simp), hz6⟩) (fun hS => ?_)
  clear hK K
  try simp only [Act.put]
  try simp only [List.setIfInBounds_toArray]
  try simp only [List.set_cons_succ]
  try simp only [List.set_cons_zero]
  refine wpAnyH_done (by kernel_rfl) ?_ _
  have za := lt_of_heap HRb.out
  clear hS hsz hc4 hc5 hc6 hz5 hz6
  go_wp2
  refine bodyPost_ret (results_cell_row (fn := Try.f14) rfl _ _ (w.heap.size + 1) 40 (ansA z 0) (0, 0) _ rfl HRb.out undAns rfl infoAns) rfl ?_
  exact ⟨rfl, HH2.out, KW.out⟩

end Go.Proofs.Ythedndejlfkknaa
