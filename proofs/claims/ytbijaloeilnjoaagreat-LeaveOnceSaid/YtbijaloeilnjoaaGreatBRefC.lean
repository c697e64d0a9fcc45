/- The walk of the document's Of (layer 13). -/
import Derived.Test.YtbijaloeilnjoaaGreatBRefB
import Derived.Test.YtbijaloeilnjoaaGreatSame
namespace Go.Proofs.YtbijaloeilnjoaaGreat
open Go.RowKit
set_option linter.unusedVariables false
set_option linter.unusedSimpArgs false
theorem three_rows {P : World → Prop} (w : World) (c0 c1 c2 : Array Value) (t0 t1 t2 : TypeId) (h : ∀ W, W.heap[w.heap.size]? = some (.cells c0 t0 (0, 0)) → W.heap[w.heap.size + 1]? = some (.cells c1 t1 (0, 0)) → W.heap[w.heap.size + 1 + 1]? = some (.cells c2 t2 (0, 0)) → Below w.heap.size w W → P W) :
  P (((w.alloc (.cells c0 t0)).alloc (.cells c1 t1)).alloc (.cells c2 t2)) :=
 h _ (row_alloc (row_alloc (row_new _ _ _))) (row_alloc (row_at (by simp))) (row_at (by simp)) (by go_grown)
theorem k_alloc {K : Act → World → Prop} {a : Act} {X : World} {cs : Array Value} {t : TypeId} (h : ∀ Y, Y.heap[X.heap.size]? = some (.cells cs t (0, 0)) → Below X.heap.size X Y → K a Y) : K a (X.alloc (.cells cs t)) :=
 h _ (row_new _ _ _) (by go_grown)
/-- what a call's register has, as a begun call sees it -/
def rregR (q0 q1 q2 q3 i : Int) : Int := if i = 0 then q0 else if i = 1 then q1 else if i = 2 then q2 else if i = 3 then q3 else 0
theorem rregR_bd {q0 q1 q2 q3 i : Int} (h0 : 0 ≤ q0 ∧ q0 ≤ 18446744073709551615) (h1 : 0 ≤ q1 ∧ q1 ≤ 18446744073709551615) (h2 : 0 ≤ q2 ∧ q2 ≤ 18446744073709551615) (h3 : 0 ≤ q3 ∧ q3 ≤ 18446744073709551615) : 0 ≤ rregR q0 q1 q2 q3 i ∧ rregR q0 q1 q2 q3 i ≤ 18446744073709551615 := by
 unfold rregR
 repeat' split
 all_goals first | assumption | omega
theorem ents_kept {w w' : World} {S : List Nat} {A : Option Addr} {l : List Ent} (h : Ents w A l) (k : Keep S w w') (hn : ∀ a, 0 < l.length → A = some a → a.block ∉ S) : Ents w' A l := by
 intro h0
 have h1 : 0 < l.length := by rw [ents_len] at h0; omega
 exact Cells.kept h k (fun a ha => hn a h1 ha) h0
/-- a call that begins -/
def rbeginRn (n : Int) (l : List Ent) (c : Cal) (h v : Int) (ch : Sl) : Rn := ⟨c, if (beginS n l c h v).1 = 0 then (beginS n l c h v).2 else 0, area l, h, v, ch, 0, 0, 0, 0, noS, 0, noS, 0, false, false, false, (beginS n l c h v).1, 0, noS⟩

set_option maxRecDepth 100000 in
set_option maxHeartbeats 2000000 in
theorem rofC_any (P : Pln) (A : Option Addr) (k : Nat) (l : List Ent) (c : Cal) (q0 q1 q2 q3 : Int) (R o cR : Nat) (w : World) (hk : l.length ≤ k) (hl : l.length ≤ 1048576) (he : Ents w A l) (s0 : 1 ≤ P.s) (s1 : P.s ≤ 8) (hcal : CalOk c) (hcR : 4 ≤ cR)
  (b0 : 0 ≤ q0 ∧ q0 ≤ 18446744073709551615) (b1 : 0 ≤ q1 ∧ q1 ≤ 18446744073709551615) (b2 : 0 ≤ q2 ∧ q2 ≤ 18446744073709551615) (b3 : 0 ≤ q3 ∧ q3 ≤ 18446744073709551615)
  (e0 : w.cell? ⟨R, o, none⟩ = some (.int .u64 q0)) (e1 : w.cell? ⟨R, o + 1, none⟩ = some (.int .u64 q1)) (e2 : w.cell? ⟨R, o + 2, none⟩ = some (.int .u64 q2)) (e3 : w.cell? ⟨R, o + 3, none⟩ = some (.int .u64 q3)) (h25 : c.op = 2 ∨ c.op = 5) :
  Calls Tryz.prog 32 #[P.val, .slice (some ⟨R, o, none⟩) 4 cR, .slice A l.length k, c.vl] w fun r w' => ∃ kc cA, l.length ≤ kc ∧ r = .returned (rbeginRn P.s l c (rregR q0 q1 q2 q3 c.h) (rregR q0 q1 q2 q3 c.v) ⟨cA, l.length, kc⟩).v ∧ Ents w' cA l ∧ (∀ a, 0 < l.length → cA = some a → w.heap.size ≤ a.block) ∧ Below w.heap.size w w' := by
 have H25 := Lib.hid h25
 clear h25
 have He := Lib.hid he
 have hR := lt_of_cell e0
 obtain ⟨hv, Hhv⟩ : ∃ x, Hid (rregR q0 q1 q2 q3 c.h = x) := ⟨_, Lib.hid rfl⟩
 obtain ⟨vv, Hvv⟩ : ∃ x, Hid (rregR q0 q1 q2 q3 c.v = x) := ⟨_, Lib.hid rfl⟩
 have HB := Lib.hid (And.intro b0 (And.intro b1 (And.intro b2 b3)))
 have HE := Lib.hid (And.intro e0 (And.intro e1 (And.intro e2 e3)))
 have Hcal := Lib.hid hcal
 clear he b0 b1 b2 b3 e0 e1 e2 e3 hcal
 obtain ⟨i0, hi0, hz0, hz1, hz2⟩ := info_parts infoEnt
 go_enter Tryz.func32, Tryz.ntmps32
 go_upto_region 1 with fail
 refine three_rows w _ _ _ _ _ _ ?_
 intro W hR0 hR1 hR2 hB
 obtain ⟨k0, k1, k2, k3, k4, k5, k6⟩ := box7 hR1
 have HR0 := Lib.hid hR0
 have HR1 := Lib.hid hR1
 have HR2 := Lib.hid hR2
 have z0 := lt_of_heap hR0
 have z1 := lt_of_heap hR1
 have z2 := lt_of_heap hR2
 have HBW := Lib.hid hB
 have HEW := Lib.hid (Cells.below He.out hB)
 clear hR0 hR1 hR2 hB
 go_cut [9] from 9 to 16 (fun v wx => ∃ (g ca : Nat) (cA : Option Addr), Hid (l.length ≤ ca) ∧ v = .pointer (some ⟨g, 0, none⟩) ∧ W.heap.size ≤ g ∧ wx.heap[g]? = some (.cells (Rn.arr ⟨c, 0, area l, 0, 0, ⟨cA, l.length, ca⟩, 0, 0, 0, 0, noS, 0, noS, 0, false, false, false, 0, 0, noS⟩) 43 (0, 0)) ∧ Ents wx cA l ∧ Below W.heap.size W wx ∧ ∀ a, 0 < l.length → cA = some a → a.block ≠ g ∧ W.heap.size ≤ a.block)
 case first =>
  refine wp_region_held_drew (S := Old W) (by kernel_rfl) (old_of (by go_grown)) ?_
  intro hS
  generalize W.drew = y0 at hS ⊢
  refine wpAnyH_take_at (i := 0) (v := ?v0x1) (some 10) rfl rfl (by kernel_rfl) (by kernel_rfl) (by kernel_rfl) (fun _ _ _ h => h) (Or.inl ⟨by kernel_rfl, ?h0x1⟩) (by assumption) ?r0x1
  case h0x1 => (intro w hSw; (try dsimp only at hSw); go_simp; first | done | (with_reducible rfl))
  try simp only [zA, zB, zC, zD, zE]
  refine wpAnyH_take_at (i := 1) (v := ?v1x2) (some 11) rfl rfl (by kernel_rfl) (by kernel_rfl) (by kernel_rfl) (fun _ _ _ h => h) (Or.inl ⟨by kernel_rfl, ?h1x2⟩) (by assumption) ?r1x2
  case h1x2 => (intro w hSw; (try dsimp only at hSw); go_simp; first | done | (with_reducible rfl))
  try simp only [zA, zB, zC, zD, zE]
  refine wpAnyH_take_at (i := 4) (v := ?v4x3) (some 14) rfl rfl (by kernel_rfl) (by kernel_rfl) (by kernel_rfl) (fun _ _ _ h => h) (Or.inl ⟨by kernel_rfl, ?h4x3⟩) (by assumption) ?r4x3
  case h4x3 => (intro w hSw; (try dsimp only at hSw); go_simp; first | done | (with_reducible rfl))
  try simp only [zA, zB, zC, zD, zE]
  refine wpAnyH_ready (rs := [2, 3, 7]) (by kernel_rfl) (by simp) ?_
  refine AllReadyH.cons rfl (fun K hK => ?_) (AllReadyH.cons rfl (fun K hK => ?_) (AllReadyH.cons rfl (fun K hK => ?_) AllReadyH.nil))
  ·skip
   go_simp
   refine (rarea_any A k l _ (by omega) (Cells.below HEW.out hS.1)).mono ?_
   rintro r yq ⟨rfl, eq⟩
   rw [eq]
   clear eq yq
   go_simp
   refine hK.out _ _ (hS) (fun hS => ?_)
   clear hK K
   try simp only [zA, zB, zC, zD, zE]
   refine wpAnyH_ready (rs := [3, 7]) (by kernel_rfl) (by simp) ?_
   refine AllReadyH.cons rfl (fun K hK => ?_) (AllReadyH.cons rfl (fun K hK => ?_) AllReadyH.nil)
   ·skip
    go_simp
    refine k_alloc (fun y3 hE h3 => ?_)
    have o3 := below_only hS.1 h3
    have hgE : W.heap.size ≤ y0.heap.size := hS.1.size
    obtain ⟨gE, HgE⟩ : ∃ x, x = y0.heap.size := ⟨_, rfl⟩
    rw [← HgE] at hE hgE ⊢
    clear HgE
    refine hK.out _ _ (old_of o3) (fun hS => ?_)
    clear hK K
    try simp only [zA, zB, zC, zD, zE]
    refine wpAnyH_ready (rs := [5, 7]) (by kernel_rfl) (by simp) ?_
    refine AllReadyH.cons rfl (fun K hK => ?_) (AllReadyH.cons rfl (fun K hK => ?_) AllReadyH.nil)
    ·skip
     refine step_append_any _ rfl (.tmp 13) (.tmp 14) 37 rfl W.heap.size 97 i0 _ 2 16 Tryz.underlying37 hi0 hz0 hz1 hz2 rfl (by omega) (.slice (some ⟨gE, 0, none⟩) 0 0) 0 [] rfl (own_empty hgE hE) A l.length k (l.flatMap entCells) rfl (ents_len l) (Cells.below HEW.out hS.1) (flat_one _ entCells_one l) (by simp only [maxLen]; omega) (by omega) hS.1.size ?_
     intro v5 y5 hown hg5 hat
     simp only [Nat.zero_add, List.nil_append] at hown
     have hge := own_ge hown
     obtain ⟨A5, c5, rfl, hc5, hm5, hcs5⟩ := own_slice hown
     have hcL : Hid (l.length ≤ c5) := Lib.hid hc5
     have o5 : Below W.heap.size W y5 := hS.1.grown hg5 hS.1.size (by simp only [Value.ownBlock, Option.some.injEq]; omega)
     have hlow : ∀ a, A5 = some a → W.heap.size ≤ a.block := fun a ha => hge a.block (by rw [ha]; rfl)
     clear hown hge hat hg5 hE
     change K (Act.put _ (some 15) _) y5
     refine hK.out _ _ (old_of o5) (fun hS => ?_)
     clear hK K
     try simp only [zA, zB, zC, zD, zE]
     refine wpAnyH_take_at (i := 6) (v := ?v6x4) (some 16) rfl rfl (by kernel_rfl) (by kernel_rfl) (by kernel_rfl) (fun _ _ _ h => h) (Or.inl ⟨by kernel_rfl, ?h6x4⟩) (by assumption) ?r6x4
     case h6x4 => (intro w hSw; (try dsimp only at hSw); go_simp; first | done | (with_reducible rfl))
     try simp only [zA, zB, zC, zD, zE]
     refine wpAnyH_ready (rs := [7]) (by kernel_rfl) (by simp) ?_
     refine AllReadyH.cons rfl (fun K hK => ?_) AllReadyH.nil
     refine step_alloc_run (some 9) rfl rfl rfl ?_
     refine k_alloc (fun y7 hZ h7 => ?_)
     have o7 := below_only hS.1 h7
     have hgZ : W.heap.size ≤ y5.heap.size := hS.1.size
     have hfar : ∀ a, 0 < l.length → A5 = some a → a.block ≠ y5.heap.size := ents_far hcs5 (Nat.le_refl _)
     replace hcs5 : Ents y7 A5 l := Cells.below hcs5 h7
     obtain ⟨gZ, HgZ⟩ : ∃ x, x = y5.heap.size := ⟨_, rfl⟩
     rw [← HgZ] at hZ hgZ ⊢
     rw [← HgZ] at hfar
     clear HgZ
     refine hK.out _ _ (old_of o7) (fun hS => ?_)
     clear hK K
     try simp only [zA, zB, zC, zD, zE]
     refine wpAnyH_ready (rs := [8]) (by kernel_rfl) (by simp) ?_
     refine AllReadyH.cons rfl (fun K hK => ?_) AllReadyH.nil
     refine step_store_row none rfl rfl 43 (.tmp 9) (.tmp 16) rfl gZ _ rfl rfl 43 ZRun hZ infoRun rfl (by simp [Value.oneCell']) ?_
     refine hK.out _ _ (old_of (below_setRow hS.1 hgZ _)) (fun hS => ?_)
     clear hK K
     try simp only [zA, zB, zC, zD, zE]
     refine wpAnyH_done (by kernel_rfl) ?_ _
     go_wp2_with fail
     go_meet
     exact ⟨gZ, c5, A5, hcL, rfl, hgZ, setRow_heap _ _ _ _ _ _ hZ, ents_setRow hcs5 hfar _, below_setRow (by assumption) hgZ _, fun a h0 ha => ⟨hfar a h0 ha, hlow a ha⟩⟩
    ·skip
     refine step_alloc_run (some 9) rfl rfl rfl ?_
     refine k_alloc (fun y7 hZ h7 => ?_)
     have o7 := below_only hS.1 h7
     have hgZ : W.heap.size ≤ y3.heap.size := hS.1.size
     have hEZ : y3.heap.size ≠ gE := by have := lt_of_heap hE; omega
     replace hE := row_below hE h7
     obtain ⟨gZ, HgZ⟩ : ∃ x, x = y3.heap.size := ⟨_, rfl⟩
     rw [← HgZ] at hZ hgZ ⊢
     rw [← HgZ] at hEZ
     clear HgZ
     refine hK.out _ _ (old_of o7) (fun hS => ?_)
     clear hK K
     try simp only [zA, zB, zC, zD, zE]
     refine wpAnyH_ready (rs := [5]) (by kernel_rfl) (by simp) ?_
     refine AllReadyH.cons rfl (fun K hK => ?_) AllReadyH.nil
     refine step_append_any _ rfl (.tmp 13) (.tmp 14) 37 rfl W.heap.size 97 i0 _ 2 16 Tryz.underlying37 hi0 hz0 hz1 hz2 rfl (by omega) (.slice (some ⟨gE, 0, none⟩) 0 0) 0 [] rfl (own_empty hgE hE) A l.length k (l.flatMap entCells) rfl (ents_len l) (Cells.below HEW.out hS.1) (flat_one _ entCells_one l) (by simp only [maxLen]; omega) (by omega) hS.1.size ?_
     intro v5 y5 hown hg5 hat
     simp only [Nat.zero_add, List.nil_append] at hown
     have hge := own_ge hown
     obtain ⟨A5, c5, rfl, hc5, hm5, hcs5⟩ := own_slice hown
     have hcL : Hid (l.length ≤ c5) := Lib.hid hc5
     have o5 : Below W.heap.size W y5 := hS.1.grown hg5 hS.1.size (by simp only [Value.ownBlock, Option.some.injEq]; omega)
     have hlow : ∀ a, A5 = some a → W.heap.size ≤ a.block := fun a ha => hge a.block (by rw [ha]; rfl)
     have hfar : ∀ a, 0 < l.length → A5 = some a → a.block ≠ gZ := fun a _ ha => by
      have hz := lt_of_heap hZ
      rw [ha] at hat
      simp only [Value.ownBlock, Option.some.injEq] at hat
      omega
     replace hZ := row_grown hZ hg5 (by simp only [Value.ownBlock, ne_eq, Option.some.injEq]; omega)
     clear hown hge hat hg5 hE
     change K (Act.put _ (some 15) _) y5
     refine hK.out _ _ (old_of o5) (fun hS => ?_)
     clear hK K
     try simp only [zA, zB, zC, zD, zE]
     refine wpAnyH_take_at (i := 6) (v := ?v6x5) (some 16) rfl rfl (by kernel_rfl) (by kernel_rfl) (by kernel_rfl) (fun _ _ _ h => h) (Or.inl ⟨by kernel_rfl, ?h6x5⟩) (by assumption) ?r6x5
     case h6x5 => (intro w hSw; (try dsimp only at hSw); go_simp; first | done | (with_reducible rfl))
     try simp only [zA, zB, zC, zD, zE]
     refine wpAnyH_ready (rs := [8]) (by kernel_rfl) (by simp) ?_
     refine AllReadyH.cons rfl (fun K hK => ?_) AllReadyH.nil
     refine step_store_row none rfl rfl 43 (.tmp 9) (.tmp 16) rfl gZ _ rfl rfl 43 ZRun hZ infoRun rfl (by simp [Value.oneCell']) ?_
     refine hK.out _ _ (old_of (below_setRow hS.1 hgZ _)) (fun hS => ?_)
     clear hK K
     try simp only [zA, zB, zC, zD, zE]
     refine wpAnyH_done (by kernel_rfl) ?_ _
     go_wp2_with fail
     go_meet
     exact ⟨gZ, c5, A5, hcL, rfl, hgZ, setRow_heap _ _ _ _ _ _ hZ, ents_setRow hcs5 hfar _, below_setRow (by assumption) hgZ _, fun a h0 ha => ⟨hfar a h0 ha, hlow a ha⟩⟩
   ·skip
    refine step_alloc_run (some 9) rfl rfl rfl ?_
    refine k_alloc (fun y7 hZ h7 => ?_)
    have o7 := below_only hS.1 h7
    have hgZ : W.heap.size ≤ y0.heap.size := hS.1.size
    obtain ⟨gZ, HgZ⟩ : ∃ x, x = y0.heap.size := ⟨_, rfl⟩
    rw [← HgZ] at hZ hgZ ⊢
    clear HgZ
    refine hK.out _ _ (old_of o7) (fun hS => ?_)
    clear hK K
    try simp only [zA, zB, zC, zD, zE]
    refine wpAnyH_ready (rs := [3]) (by kernel_rfl) (by simp) ?_
    refine AllReadyH.cons rfl (fun K hK => ?_) AllReadyH.nil
    go_simp
    refine k_alloc (fun y3 hE h3 => ?_)
    have o3 := below_only hS.1 h3
    have hgE : W.heap.size ≤ y7.heap.size := hS.1.size
    have hEZ : gZ ≠ y7.heap.size := by have := lt_of_heap hZ; omega
    replace hZ := row_below hZ h3
    obtain ⟨gE, HgE⟩ : ∃ x, x = y7.heap.size := ⟨_, rfl⟩
    rw [← HgE] at hE hgE ⊢
    rw [← HgE] at hEZ
    clear HgE
    refine hK.out _ _ (old_of o3) (fun hS => ?_)
    clear hK K
    try simp only [zA, zB, zC, zD, zE]
    refine wpAnyH_ready (rs := [5]) (by kernel_rfl) (by simp) ?_
    refine AllReadyH.cons rfl (fun K hK => ?_) AllReadyH.nil
    refine step_append_any _ rfl (.tmp 13) (.tmp 14) 37 rfl W.heap.size 97 i0 _ 2 16 Tryz.underlying37 hi0 hz0 hz1 hz2 rfl (by omega) (.slice (some ⟨gE, 0, none⟩) 0 0) 0 [] rfl (own_empty hgE hE) A l.length k (l.flatMap entCells) rfl (ents_len l) (Cells.below HEW.out hS.1) (flat_one _ entCells_one l) (by simp only [maxLen]; omega) (by omega) hS.1.size ?_
    intro v5 y5 hown hg5 hat
    simp only [Nat.zero_add, List.nil_append] at hown
    have hge := own_ge hown
    obtain ⟨A5, c5, rfl, hc5, hm5, hcs5⟩ := own_slice hown
    have hcL : Hid (l.length ≤ c5) := Lib.hid hc5
    have o5 : Below W.heap.size W y5 := hS.1.grown hg5 hS.1.size (by simp only [Value.ownBlock, Option.some.injEq]; omega)
    have hlow : ∀ a, A5 = some a → W.heap.size ≤ a.block := fun a ha => hge a.block (by rw [ha]; rfl)
    have hfar : ∀ a, 0 < l.length → A5 = some a → a.block ≠ gZ := fun a _ ha => by
     have hz := lt_of_heap hZ
     rw [ha] at hat
     simp only [Value.ownBlock, Option.some.injEq] at hat
     omega
    replace hZ := row_grown hZ hg5 (by simp only [Value.ownBlock, ne_eq, Option.some.injEq]; omega)
    clear hown hge hat hg5 hE
    change K (Act.put _ (some 15) _) y5
    refine hK.out _ _ (old_of o5) (fun hS => ?_)
    clear hK K
    try simp only [zA, zB, zC, zD, zE]
    refine wpAnyH_take_at (i := 6) (v := ?v6x6) (some 16) rfl rfl (by kernel_rfl) (by kernel_rfl) (by kernel_rfl) (fun _ _ _ h => h) (Or.inl ⟨by kernel_rfl, ?h6x6⟩) (by assumption) ?r6x6
    case h6x6 => (intro w hSw; (try dsimp only at hSw); go_simp; first | done | (with_reducible rfl))
    try simp only [zA, zB, zC, zD, zE]
    refine wpAnyH_ready (rs := [8]) (by kernel_rfl) (by simp) ?_
    refine AllReadyH.cons rfl (fun K hK => ?_) AllReadyH.nil
    refine step_store_row none rfl rfl 43 (.tmp 9) (.tmp 16) rfl gZ _ rfl rfl 43 ZRun hZ infoRun rfl (by simp [Value.oneCell']) ?_
    refine hK.out _ _ (old_of (below_setRow hS.1 hgZ _)) (fun hS => ?_)
    clear hK K
    try simp only [zA, zB, zC, zD, zE]
    refine wpAnyH_done (by kernel_rfl) ?_ _
    go_wp2_with fail
    go_meet
    exact ⟨gZ, c5, A5, hcL, rfl, hgZ, setRow_heap _ _ _ _ _ _ hZ, ents_setRow hcs5 hfar _, below_setRow (by assumption) hgZ _, fun a h0 ha => ⟨hfar a h0 ha, hlow a ha⟩⟩
  ·skip
   go_simp
   refine k_alloc (fun y3 hE h3 => ?_)
   have o3 := below_only hS.1 h3
   have hgE : W.heap.size ≤ y0.heap.size := hS.1.size
   obtain ⟨gE, HgE⟩ : ∃ x, x = y0.heap.size := ⟨_, rfl⟩
   rw [← HgE] at hE hgE ⊢
   clear HgE
   refine hK.out _ _ (old_of o3) (fun hS => ?_)
   clear hK K
   try simp only [zA, zB, zC, zD, zE]
   refine wpAnyH_ready (rs := [2, 7]) (by kernel_rfl) (by simp) ?_
   refine AllReadyH.cons rfl (fun K hK => ?_) (AllReadyH.cons rfl (fun K hK => ?_) AllReadyH.nil)
   ·skip
    go_simp
    refine (rarea_any A k l _ (by omega) (Cells.below HEW.out hS.1)).mono ?_
    rintro r yq ⟨rfl, eq⟩
    rw [eq]
    clear eq yq
    go_simp
    refine hK.out _ _ (hS) (fun hS => ?_)
    clear hK K
    try simp only [zA, zB, zC, zD, zE]
    refine wpAnyH_ready (rs := [5, 7]) (by kernel_rfl) (by simp) ?_
    refine AllReadyH.cons rfl (fun K hK => ?_) (AllReadyH.cons rfl (fun K hK => ?_) AllReadyH.nil)
    ·skip
     refine step_append_any _ rfl (.tmp 13) (.tmp 14) 37 rfl W.heap.size 97 i0 _ 2 16 Tryz.underlying37 hi0 hz0 hz1 hz2 rfl (by omega) (.slice (some ⟨gE, 0, none⟩) 0 0) 0 [] rfl (own_empty hgE hE) A l.length k (l.flatMap entCells) rfl (ents_len l) (Cells.below HEW.out hS.1) (flat_one _ entCells_one l) (by simp only [maxLen]; omega) (by omega) hS.1.size ?_
     intro v5 y5 hown hg5 hat
     simp only [Nat.zero_add, List.nil_append] at hown
     have hge := own_ge hown
     obtain ⟨A5, c5, rfl, hc5, hm5, hcs5⟩ := own_slice hown
     have hcL : Hid (l.length ≤ c5) := Lib.hid hc5
     have o5 : Below W.heap.size W y5 := hS.1.grown hg5 hS.1.size (by simp only [Value.ownBlock, Option.some.injEq]; omega)
     have hlow : ∀ a, A5 = some a → W.heap.size ≤ a.block := fun a ha => hge a.block (by rw [ha]; rfl)
     clear hown hge hat hg5 hE
     change K (Act.put _ (some 15) _) y5
     refine hK.out _ _ (old_of o5) (fun hS => ?_)
     clear hK K
     try simp only [zA, zB, zC, zD, zE]
     refine wpAnyH_take_at (i := 6) (v := ?v6x7) (some 16) rfl rfl (by kernel_rfl) (by kernel_rfl) (by kernel_rfl) (fun _ _ _ h => h) (Or.inl ⟨by kernel_rfl, ?h6x7⟩) (by assumption) ?r6x7
     case h6x7 => (intro w hSw; (try dsimp only at hSw); go_simp; first | done | (with_reducible rfl))
     try simp only [zA, zB, zC, zD, zE]
     refine wpAnyH_ready (rs := [7]) (by kernel_rfl) (by simp) ?_
     refine AllReadyH.cons rfl (fun K hK => ?_) AllReadyH.nil
     refine step_alloc_run (some 9) rfl rfl rfl ?_
     refine k_alloc (fun y7 hZ h7 => ?_)
     have o7 := below_only hS.1 h7
     have hgZ : W.heap.size ≤ y5.heap.size := hS.1.size
     have hfar : ∀ a, 0 < l.length → A5 = some a → a.block ≠ y5.heap.size := ents_far hcs5 (Nat.le_refl _)
     replace hcs5 : Ents y7 A5 l := Cells.below hcs5 h7
     obtain ⟨gZ, HgZ⟩ : ∃ x, x = y5.heap.size := ⟨_, rfl⟩
     rw [← HgZ] at hZ hgZ ⊢
     rw [← HgZ] at hfar
     clear HgZ
     refine hK.out _ _ (old_of o7) (fun hS => ?_)
     clear hK K
     try simp only [zA, zB, zC, zD, zE]
     refine wpAnyH_ready (rs := [8]) (by kernel_rfl) (by simp) ?_
     refine AllReadyH.cons rfl (fun K hK => ?_) AllReadyH.nil
     refine step_store_row none rfl rfl 43 (.tmp 9) (.tmp 16) rfl gZ _ rfl rfl 43 ZRun hZ infoRun rfl (by simp [Value.oneCell']) ?_
     refine hK.out _ _ (old_of (below_setRow hS.1 hgZ _)) (fun hS => ?_)
     clear hK K
     try simp only [zA, zB, zC, zD, zE]
     refine wpAnyH_done (by kernel_rfl) ?_ _
     go_wp2_with fail
     go_meet
     exact ⟨gZ, c5, A5, hcL, rfl, hgZ, setRow_heap _ _ _ _ _ _ hZ, ents_setRow hcs5 hfar _, below_setRow (by assumption) hgZ _, fun a h0 ha => ⟨hfar a h0 ha, hlow a ha⟩⟩
    ·skip
     refine step_alloc_run (some 9) rfl rfl rfl ?_
     refine k_alloc (fun y7 hZ h7 => ?_)
     have o7 := below_only hS.1 h7
     have hgZ : W.heap.size ≤ y3.heap.size := hS.1.size
     have hEZ : y3.heap.size ≠ gE := by have := lt_of_heap hE; omega
     replace hE := row_below hE h7
     obtain ⟨gZ, HgZ⟩ : ∃ x, x = y3.heap.size := ⟨_, rfl⟩
     rw [← HgZ] at hZ hgZ ⊢
     rw [← HgZ] at hEZ
     clear HgZ
     refine hK.out _ _ (old_of o7) (fun hS => ?_)
     clear hK K
     try simp only [zA, zB, zC, zD, zE]
     refine wpAnyH_ready (rs := [5]) (by kernel_rfl) (by simp) ?_
     refine AllReadyH.cons rfl (fun K hK => ?_) AllReadyH.nil
     refine step_append_any _ rfl (.tmp 13) (.tmp 14) 37 rfl W.heap.size 97 i0 _ 2 16 Tryz.underlying37 hi0 hz0 hz1 hz2 rfl (by omega) (.slice (some ⟨gE, 0, none⟩) 0 0) 0 [] rfl (own_empty hgE hE) A l.length k (l.flatMap entCells) rfl (ents_len l) (Cells.below HEW.out hS.1) (flat_one _ entCells_one l) (by simp only [maxLen]; omega) (by omega) hS.1.size ?_
     intro v5 y5 hown hg5 hat
     simp only [Nat.zero_add, List.nil_append] at hown
     have hge := own_ge hown
     obtain ⟨A5, c5, rfl, hc5, hm5, hcs5⟩ := own_slice hown
     have hcL : Hid (l.length ≤ c5) := Lib.hid hc5
     have o5 : Below W.heap.size W y5 := hS.1.grown hg5 hS.1.size (by simp only [Value.ownBlock, Option.some.injEq]; omega)
     have hlow : ∀ a, A5 = some a → W.heap.size ≤ a.block := fun a ha => hge a.block (by rw [ha]; rfl)
     have hfar : ∀ a, 0 < l.length → A5 = some a → a.block ≠ gZ := fun a _ ha => by
      have hz := lt_of_heap hZ
      rw [ha] at hat
      simp only [Value.ownBlock, Option.some.injEq] at hat
      omega
     replace hZ := row_grown hZ hg5 (by simp only [Value.ownBlock, ne_eq, Option.some.injEq]; omega)
     clear hown hge hat hg5 hE
     change K (Act.put _ (some 15) _) y5
     refine hK.out _ _ (old_of o5) (fun hS => ?_)
     clear hK K
     try simp only [zA, zB, zC, zD, zE]
     refine wpAnyH_take_at (i := 6) (v := ?v6x8) (some 16) rfl rfl (by kernel_rfl) (by kernel_rfl) (by kernel_rfl) (fun _ _ _ h => h) (Or.inl ⟨by kernel_rfl, ?h6x8⟩) (by assumption) ?r6x8
     case h6x8 => (intro w hSw; (try dsimp only at hSw); go_simp; first | done | (with_reducible rfl))
     try simp only [zA, zB, zC, zD, zE]
     refine wpAnyH_ready (rs := [8]) (by kernel_rfl) (by simp) ?_
     refine AllReadyH.cons rfl (fun K hK => ?_) AllReadyH.nil
     refine step_store_row none rfl rfl 43 (.tmp 9) (.tmp 16) rfl gZ _ rfl rfl 43 ZRun hZ infoRun rfl (by simp [Value.oneCell']) ?_
     refine hK.out _ _ (old_of (below_setRow hS.1 hgZ _)) (fun hS => ?_)
     clear hK K
     try simp only [zA, zB, zC, zD, zE]
     refine wpAnyH_done (by kernel_rfl) ?_ _
     go_wp2_with fail
     go_meet
     exact ⟨gZ, c5, A5, hcL, rfl, hgZ, setRow_heap _ _ _ _ _ _ hZ, ents_setRow hcs5 hfar _, below_setRow (by assumption) hgZ _, fun a h0 ha => ⟨hfar a h0 ha, hlow a ha⟩⟩
   ·skip
    refine step_alloc_run (some 9) rfl rfl rfl ?_
    refine k_alloc (fun y7 hZ h7 => ?_)
    have o7 := below_only hS.1 h7
    have hgZ : W.heap.size ≤ y3.heap.size := hS.1.size
    have hEZ : y3.heap.size ≠ gE := by have := lt_of_heap hE; omega
    replace hE := row_below hE h7
    obtain ⟨gZ, HgZ⟩ : ∃ x, x = y3.heap.size := ⟨_, rfl⟩
    rw [← HgZ] at hZ hgZ ⊢
    rw [← HgZ] at hEZ
    clear HgZ
    refine hK.out _ _ (old_of o7) (fun hS => ?_)
    clear hK K
    try simp only [zA, zB, zC, zD, zE]
    refine wpAnyH_ready (rs := [2]) (by kernel_rfl) (by simp) ?_
    refine AllReadyH.cons rfl (fun K hK => ?_) AllReadyH.nil
    go_simp
    refine (rarea_any A k l _ (by omega) (Cells.below HEW.out hS.1)).mono ?_
    rintro r yq ⟨rfl, eq⟩
    rw [eq]
    clear eq yq
    go_simp
    refine hK.out _ _ (hS) (fun hS => ?_)
    clear hK K
    try simp only [zA, zB, zC, zD, zE]
    refine wpAnyH_ready (rs := [5]) (by kernel_rfl) (by simp) ?_
    refine AllReadyH.cons rfl (fun K hK => ?_) AllReadyH.nil
    refine step_append_any _ rfl (.tmp 13) (.tmp 14) 37 rfl W.heap.size 97 i0 _ 2 16 Tryz.underlying37 hi0 hz0 hz1 hz2 rfl (by omega) (.slice (some ⟨gE, 0, none⟩) 0 0) 0 [] rfl (own_empty hgE hE) A l.length k (l.flatMap entCells) rfl (ents_len l) (Cells.below HEW.out hS.1) (flat_one _ entCells_one l) (by simp only [maxLen]; omega) (by omega) hS.1.size ?_
    intro v5 y5 hown hg5 hat
    simp only [Nat.zero_add, List.nil_append] at hown
    have hge := own_ge hown
    obtain ⟨A5, c5, rfl, hc5, hm5, hcs5⟩ := own_slice hown
    have hcL : Hid (l.length ≤ c5) := Lib.hid hc5
    have o5 : Below W.heap.size W y5 := hS.1.grown hg5 hS.1.size (by simp only [Value.ownBlock, Option.some.injEq]; omega)
    have hlow : ∀ a, A5 = some a → W.heap.size ≤ a.block := fun a ha => hge a.block (by rw [ha]; rfl)
    have hfar : ∀ a, 0 < l.length → A5 = some a → a.block ≠ gZ := fun a _ ha => by
     have hz := lt_of_heap hZ
     rw [ha] at hat
     simp only [Value.ownBlock, Option.some.injEq] at hat
     omega
    replace hZ := row_grown hZ hg5 (by simp only [Value.ownBlock, ne_eq, Option.some.injEq]; omega)
    clear hown hge hat hg5 hE
    change K (Act.put _ (some 15) _) y5
    refine hK.out _ _ (old_of o5) (fun hS => ?_)
    clear hK K
    try simp only [zA, zB, zC, zD, zE]
    refine wpAnyH_take_at (i := 6) (v := ?v6x9) (some 16) rfl rfl (by kernel_rfl) (by kernel_rfl) (by kernel_rfl) (fun _ _ _ h => h) (Or.inl ⟨by kernel_rfl, ?h6x9⟩) (by assumption) ?r6x9
    case h6x9 => (intro w hSw; (try dsimp only at hSw); go_simp; first | done | (with_reducible rfl))
    try simp only [zA, zB, zC, zD, zE]
    refine wpAnyH_ready (rs := [8]) (by kernel_rfl) (by simp) ?_
    refine AllReadyH.cons rfl (fun K hK => ?_) AllReadyH.nil
    refine step_store_row none rfl rfl 43 (.tmp 9) (.tmp 16) rfl gZ _ rfl rfl 43 ZRun hZ infoRun rfl (by simp [Value.oneCell']) ?_
    refine hK.out _ _ (old_of (below_setRow hS.1 hgZ _)) (fun hS => ?_)
    clear hK K
    try simp only [zA, zB, zC, zD, zE]
    refine wpAnyH_done (by kernel_rfl) ?_ _
    go_wp2_with fail
    go_meet
    exact ⟨gZ, c5, A5, hcL, rfl, hgZ, setRow_heap _ _ _ _ _ _ hZ, ents_setRow hcs5 hfar _, below_setRow (by assumption) hgZ _, fun a h0 ha => ⟨hfar a h0 ha, hlow a ha⟩⟩
  ·skip
   refine step_alloc_run (some 9) rfl rfl rfl ?_
   refine k_alloc (fun y7 hZ h7 => ?_)
   have o7 := below_only hS.1 h7
   have hgZ : W.heap.size ≤ y0.heap.size := hS.1.size
   obtain ⟨gZ, HgZ⟩ : ∃ x, x = y0.heap.size := ⟨_, rfl⟩
   rw [← HgZ] at hZ hgZ ⊢
   clear HgZ
   refine hK.out _ _ (old_of o7) (fun hS => ?_)
   clear hK K
   try simp only [zA, zB, zC, zD, zE]
   refine wpAnyH_ready (rs := [2, 3]) (by kernel_rfl) (by simp) ?_
   refine AllReadyH.cons rfl (fun K hK => ?_) (AllReadyH.cons rfl (fun K hK => ?_) AllReadyH.nil)
   ·skip
    go_simp
    refine (rarea_any A k l _ (by omega) (Cells.below HEW.out hS.1)).mono ?_
    rintro r yq ⟨rfl, eq⟩
    rw [eq]
    clear eq yq
    go_simp
    refine hK.out _ _ (hS) (fun hS => ?_)
    clear hK K
    try simp only [zA, zB, zC, zD, zE]
    refine wpAnyH_ready (rs := [3]) (by kernel_rfl) (by simp) ?_
    refine AllReadyH.cons rfl (fun K hK => ?_) AllReadyH.nil
    go_simp
    refine k_alloc (fun y3 hE h3 => ?_)
    have o3 := below_only hS.1 h3
    have hgE : W.heap.size ≤ y7.heap.size := hS.1.size
    have hEZ : gZ ≠ y7.heap.size := by have := lt_of_heap hZ; omega
    replace hZ := row_below hZ h3
    obtain ⟨gE, HgE⟩ : ∃ x, x = y7.heap.size := ⟨_, rfl⟩
    rw [← HgE] at hE hgE ⊢
    rw [← HgE] at hEZ
    clear HgE
    refine hK.out _ _ (old_of o3) (fun hS => ?_)
    clear hK K
    try simp only [zA, zB, zC, zD, zE]
    refine wpAnyH_ready (rs := [5]) (by kernel_rfl) (by simp) ?_
    refine AllReadyH.cons rfl (fun K hK => ?_) AllReadyH.nil
    refine step_append_any _ rfl (.tmp 13) (.tmp 14) 37 rfl W.heap.size 97 i0 _ 2 16 Tryz.underlying37 hi0 hz0 hz1 hz2 rfl (by omega) (.slice (some ⟨gE, 0, none⟩) 0 0) 0 [] rfl (own_empty hgE hE) A l.length k (l.flatMap entCells) rfl (ents_len l) (Cells.below HEW.out hS.1) (flat_one _ entCells_one l) (by simp only [maxLen]; omega) (by omega) hS.1.size ?_
    intro v5 y5 hown hg5 hat
    simp only [Nat.zero_add, List.nil_append] at hown
    have hge := own_ge hown
    obtain ⟨A5, c5, rfl, hc5, hm5, hcs5⟩ := own_slice hown
    have hcL : Hid (l.length ≤ c5) := Lib.hid hc5
    have o5 : Below W.heap.size W y5 := hS.1.grown hg5 hS.1.size (by simp only [Value.ownBlock, Option.some.injEq]; omega)
    have hlow : ∀ a, A5 = some a → W.heap.size ≤ a.block := fun a ha => hge a.block (by rw [ha]; rfl)
    have hfar : ∀ a, 0 < l.length → A5 = some a → a.block ≠ gZ := fun a _ ha => by
     have hz := lt_of_heap hZ
     rw [ha] at hat
     simp only [Value.ownBlock, Option.some.injEq] at hat
     omega
    replace hZ := row_grown hZ hg5 (by simp only [Value.ownBlock, ne_eq, Option.some.injEq]; omega)
    clear hown hge hat hg5 hE
    change K (Act.put _ (some 15) _) y5
    refine hK.out _ _ (old_of o5) (fun hS => ?_)
    clear hK K
    try simp only [zA, zB, zC, zD, zE]
    refine wpAnyH_take_at (i := 6) (v := ?v6x10) (some 16) rfl rfl (by kernel_rfl) (by kernel_rfl) (by kernel_rfl) (fun _ _ _ h => h) (Or.inl ⟨by kernel_rfl, ?h6x10⟩) (by assumption) ?r6x10
    case h6x10 => (intro w hSw; (try dsimp only at hSw); go_simp; first | done | (with_reducible rfl))
    try simp only [zA, zB, zC, zD, zE]
    refine wpAnyH_ready (rs := [8]) (by kernel_rfl) (by simp) ?_
    refine AllReadyH.cons rfl (fun K hK => ?_) AllReadyH.nil
    refine step_store_row none rfl rfl 43 (.tmp 9) (.tmp 16) rfl gZ _ rfl rfl 43 ZRun hZ infoRun rfl (by simp [Value.oneCell']) ?_
    refine hK.out _ _ (old_of (below_setRow hS.1 hgZ _)) (fun hS => ?_)
    clear hK K
    try simp only [zA, zB, zC, zD, zE]
    refine wpAnyH_done (by kernel_rfl) ?_ _
    go_wp2_with fail
    go_meet
    exact ⟨gZ, c5, A5, hcL, rfl, hgZ, setRow_heap _ _ _ _ _ _ hZ, ents_setRow hcs5 hfar _, below_setRow (by assumption) hgZ _, fun a h0 ha => ⟨hfar a h0 ha, hlow a ha⟩⟩
   ·skip
    go_simp
    refine k_alloc (fun y3 hE h3 => ?_)
    have o3 := below_only hS.1 h3
    have hgE : W.heap.size ≤ y7.heap.size := hS.1.size
    have hEZ : gZ ≠ y7.heap.size := by have := lt_of_heap hZ; omega
    replace hZ := row_below hZ h3
    obtain ⟨gE, HgE⟩ : ∃ x, x = y7.heap.size := ⟨_, rfl⟩
    rw [← HgE] at hE hgE ⊢
    rw [← HgE] at hEZ
    clear HgE
    refine hK.out _ _ (old_of o3) (fun hS => ?_)
    clear hK K
    try simp only [zA, zB, zC, zD, zE]
    refine wpAnyH_ready (rs := [2]) (by kernel_rfl) (by simp) ?_
    refine AllReadyH.cons rfl (fun K hK => ?_) AllReadyH.nil
    go_simp
    refine (rarea_any A k l _ (by omega) (Cells.below HEW.out hS.1)).mono ?_
    rintro r yq ⟨rfl, eq⟩
    rw [eq]
    clear eq yq
    go_simp
    refine hK.out _ _ (hS) (fun hS => ?_)
    clear hK K
    try simp only [zA, zB, zC, zD, zE]
    refine wpAnyH_ready (rs := [5]) (by kernel_rfl) (by simp) ?_
    refine AllReadyH.cons rfl (fun K hK => ?_) AllReadyH.nil
    refine step_append_any _ rfl (.tmp 13) (.tmp 14) 37 rfl W.heap.size 97 i0 _ 2 16 Tryz.underlying37 hi0 hz0 hz1 hz2 rfl (by omega) (.slice (some ⟨gE, 0, none⟩) 0 0) 0 [] rfl (own_empty hgE hE) A l.length k (l.flatMap entCells) rfl (ents_len l) (Cells.below HEW.out hS.1) (flat_one _ entCells_one l) (by simp only [maxLen]; omega) (by omega) hS.1.size ?_
    intro v5 y5 hown hg5 hat
    simp only [Nat.zero_add, List.nil_append] at hown
    have hge := own_ge hown
    obtain ⟨A5, c5, rfl, hc5, hm5, hcs5⟩ := own_slice hown
    have hcL : Hid (l.length ≤ c5) := Lib.hid hc5
    have o5 : Below W.heap.size W y5 := hS.1.grown hg5 hS.1.size (by simp only [Value.ownBlock, Option.some.injEq]; omega)
    have hlow : ∀ a, A5 = some a → W.heap.size ≤ a.block := fun a ha => hge a.block (by rw [ha]; rfl)
    have hfar : ∀ a, 0 < l.length → A5 = some a → a.block ≠ gZ := fun a _ ha => by
     have hz := lt_of_heap hZ
     rw [ha] at hat
     simp only [Value.ownBlock, Option.some.injEq] at hat
     omega
    replace hZ := row_grown hZ hg5 (by simp only [Value.ownBlock, ne_eq, Option.some.injEq]; omega)
    clear hown hge hat hg5 hE
    change K (Act.put _ (some 15) _) y5
    refine hK.out _ _ (old_of o5) (fun hS => ?_)
    clear hK K
    try simp only [zA, zB, zC, zD, zE]
    refine wpAnyH_take_at (i := 6) (v := ?v6x11) (some 16) rfl rfl (by kernel_rfl) (by kernel_rfl) (by kernel_rfl) (fun _ _ _ h => h) (Or.inl ⟨by kernel_rfl, ?h6x11⟩) (by assumption) ?r6x11
    case h6x11 => (intro w hSw; (try dsimp only at hSw); go_simp; first | done | (with_reducible rfl))
    try simp only [zA, zB, zC, zD, zE]
    refine wpAnyH_ready (rs := [8]) (by kernel_rfl) (by simp) ?_
    refine AllReadyH.cons rfl (fun K hK => ?_) AllReadyH.nil
    refine step_store_row none rfl rfl 43 (.tmp 9) (.tmp 16) rfl gZ _ rfl rfl 43 ZRun hZ infoRun rfl (by simp [Value.oneCell']) ?_
    refine hK.out _ _ (old_of (below_setRow hS.1 hgZ _)) (fun hS => ?_)
    clear hK K
    try simp only [zA, zB, zC, zD, zE]
    refine wpAnyH_done (by kernel_rfl) ?_ _
    go_wp2_with fail
    go_meet
    exact ⟨gZ, c5, A5, hcL, rfl, hgZ, setRow_heap _ _ _ _ _ _ hZ, ents_setRow hcs5 hfar _, below_setRow (by assumption) hgZ _, fun a h0 ha => ⟨hfar a h0 ha, hlow a ha⟩⟩
 case rest =>
  obtain ⟨g, kc, cA, HKC, rfl, hg, hR, hcs, hb4, hfar⟩ := hcut
  have HZ1 := Lib.hid (row_below HR2.out hb4)
  have HC1 := Lib.hid (row_below HR1.out hb4)
  have HP1 := Lib.hid (row_below HR0.out hb4)
  have HBc := Lib.hid (HBW.out.trans (hb4.mono HBW.out.size))
  have Hfresh := Lib.hid (show ∀ a, 0 < l.length → cA = some a → w.heap.size ≤ a.block from fun a h0 ha => by have := (hfar a h0 ha).2; omega)
  have Hfz := Lib.hid (show ∀ a, 0 < l.length → cA = some a → a.block ≠ w.heap.size + 1 + 1 from fun a h0 ha => by have := (hfar a h0 ha).2; omega)
  have Hfar := Lib.hid (show ∀ a, 0 < l.length → cA = some a → a.block ≠ g from fun a h0 ha => (hfar a h0 ha).1)
  have zg : w.heap.size + 1 + 1 < g := by omega
  have HR4 := Lib.hid hR
  have HE4 := Lib.hid hcs
  have zc := lt_of_heap hR
  clear hg hR hcs hb4 hfar k0 k1 k2 k3 k4 k5 k6 HR0 HR1 HR2
  have hch := Hcal.out.h
  have hcv := Hcal.out.v
  obtain ⟨hch0, hch1⟩ := hch
  obtain ⟨hcv0, hcv1⟩ := hcv
  obtain ⟨co, cr, ch, cv, ca, cb, cc⟩ := c
  dsimp only at hch0 hch1 hcv0 hcv1 Hhv Hvv
  have HBa := HBc
  have HZa := HZ1
  have HCa := HC1
  have HPa := HP1
  have HRa := HR4
  have HEa := HE4
  have HXa := Lib.hid (And.intro ((HBc.out.cell (p := ⟨R, o, none⟩) hR).trans HE.out.1) (And.intro ((HBc.out.cell (p := ⟨R, o + 1, none⟩) hR).trans HE.out.2.1) (And.intro ((HBc.out.cell (p := ⟨R, o + 2, none⟩) hR).trans HE.out.2.2.1) ((HBc.out.cell (p := ⟨R, o + 3, none⟩) hR).trans HE.out.2.2.2))))
  clear HZ1 HC1 HP1 HR4 HE4 HBc
  obtain ⟨p0, p1, p2, p3, _, _, _, _⟩ := box4 HPa.out
  obtain ⟨k0, k1, k2, k3, k4, k5, k6⟩ := box7 HCa.out
  have gc := (run_box HRa.out).2.2.2.2.2.2.2.2.2.1
  have gf : ∀ j, wc.frozen? ⟨g, j, none⟩ = false := fun j => row_frozen HRa.out j
  obtain ⟨x0, x1, x2, x3⟩ := HXa.out
  go_upto_if 19 with fail
  go_cut [] from 19 to 25 (fun wx => wx.heap[g]? = some (.cells (Rn.arr ⟨⟨co, cr, ch, cv, ca, cb, cc⟩, 0, area l, hv, 0, ⟨cA, l.length, kc⟩, 0, 0, 0, 0, noS, 0, noS, 0, false, false, false, 0, 0, noS⟩) 43 (0, 0)) ∧ Keep [g] wc wx)
  case first =>
   by_cases h4 : 4 ≤ ch
   ·have d1 : decide (ch < 4) = false := decide_eq_false (by omega)
    have h0 : hv = 0 := by
     rw [← Hhv.out]
     unfold rregR
     rw [if_neg (by omega), if_neg (by omega), if_neg (by omega), if_neg (by omega)]
    have H0 := Lib.hid h0
    clear h0
    go_wp2_with fail
    all_goals first | omega | (go_meet; exact ⟨by rw [H0.out]; exact HRa.out, Keep.refl _ _⟩)
   ·obtain h | h | h | h : ch = 0 ∨ ch = 1 ∨ ch = 2 ∨ ch = 3 := by omega
    ·subst h
     have hq : hv = q0 := by rw [← Hhv.out]; simp [rregR]
     have HQ := Lib.hid hq
     clear h4 hq
     go_wp2_with fail
     go_meet
     exact ⟨by rw [HQ.out]; exact row_set (i := 9) HRa.out (.int .u64 q0), (Keep.refl _ _).setCell (p := ⟨g, 9, none⟩) (.inl (by simp)) _⟩
    ·subst h
     have hq : hv = q1 := by rw [← Hhv.out]; simp [rregR]
     have HQ := Lib.hid hq
     clear h4 hq
     go_wp2_with fail
     go_meet
     exact ⟨by rw [HQ.out]; exact row_set (i := 9) HRa.out (.int .u64 q1), (Keep.refl _ _).setCell (p := ⟨g, 9, none⟩) (.inl (by simp)) _⟩
    ·subst h
     have hq : hv = q2 := by rw [← Hhv.out]; simp [rregR]
     have HQ := Lib.hid hq
     clear h4 hq
     go_wp2_with fail
     go_meet
     exact ⟨by rw [HQ.out]; exact row_set (i := 9) HRa.out (.int .u64 q2), (Keep.refl _ _).setCell (p := ⟨g, 9, none⟩) (.inl (by simp)) _⟩
    ·subst h
     have hq : hv = q3 := by rw [← Hhv.out]; simp [rregR]
     have HQ := Lib.hid hq
     clear h4 hq
     go_wp2_with fail
     go_meet
     exact ⟨by rw [HQ.out]; exact row_set (i := 9) HRa.out (.int .u64 q3), (Keep.refl _ _).setCell (p := ⟨g, 9, none⟩) (.inl (by simp)) _⟩
  case rest =>
   obtain ⟨hR, hK⟩ := hcut
   have HRb := Lib.hid hR
   have HZb := Lib.hid (hK.row HZa.out (by simp; omega))
   have HCb := Lib.hid (hK.row HCa.out (by simp; omega))
   have HPb := Lib.hid (hK.row HPa.out (by simp; omega))
   have HBb := Lib.hid (Keep.under HBa.out hK (by omega) (by simp; omega))
   have HEb := Lib.hid (ents_kept HEa.out hK (fun a h0 ha => by simp only [List.mem_cons, List.not_mem_nil, or_false]; exact Hfar.out a h0 ha))
   have HXb := Lib.hid (And.intro (hK.cell x0 (by simp; omega)) (And.intro (hK.cell x1 (by simp; omega)) (And.intro (hK.cell x2 (by simp; omega)) (hK.cell x3 (by simp; omega)))))
   have zcb := lt_of_heap hR
   rename_i wob
   clear hR hK p0 p1 p2 p3 k0 k1 k2 k3 k4 k5 k6 gc gf x0 x1 x2 x3 HRa HZa HCa HPa HBa HEa HXa
   obtain ⟨p0, p1, p2, p3, _, _, _, _⟩ := box4 HPb.out
   obtain ⟨k0, k1, k2, k3, k4, k5, k6⟩ := box7 HCb.out
   have gc := (run_box HRb.out).2.2.2.2.2.2.2.2.2.2.1
   have gf : ∀ j, wc.frozen? ⟨g, j, none⟩ = false := fun j => row_frozen HRb.out j
   obtain ⟨x0, x1, x2, x3⟩ := HXb.out
   go_upto_if 28 with fail
   go_cut [] from 28 to 34 (fun wx => wx.heap[g]? = some (.cells (Rn.arr ⟨⟨co, cr, ch, cv, ca, cb, cc⟩, 0, area l, hv, vv, ⟨cA, l.length, kc⟩, 0, 0, 0, 0, noS, 0, noS, 0, false, false, false, 0, 0, noS⟩) 43 (0, 0)) ∧ Keep [g] wc wx)
   case first =>
    by_cases h4 : 4 ≤ cv
    ·have d1 : decide (cv < 4) = false := decide_eq_false (by omega)
     have h0 : vv = 0 := by
      rw [← Hvv.out]
      unfold rregR
      rw [if_neg (by omega), if_neg (by omega), if_neg (by omega), if_neg (by omega)]
     have H0 := Lib.hid h0
     clear h0
     go_wp2_with fail
     all_goals first | omega | (go_meet; exact ⟨by rw [H0.out]; exact HRb.out, Keep.refl _ _⟩)
    ·obtain h | h | h | h : cv = 0 ∨ cv = 1 ∨ cv = 2 ∨ cv = 3 := by omega
     ·subst h
      have hq : vv = q0 := by rw [← Hvv.out]; simp [rregR]
      have HQ := Lib.hid hq
      clear h4 hq
      go_wp2_with fail
      go_meet
      exact ⟨by rw [HQ.out]; exact row_set (i := 10) HRb.out (.int .u64 q0), (Keep.refl _ _).setCell (p := ⟨g, 10, none⟩) (.inl (by simp)) _⟩
     ·subst h
      have hq : vv = q1 := by rw [← Hvv.out]; simp [rregR]
      have HQ := Lib.hid hq
      clear h4 hq
      go_wp2_with fail
      go_meet
      exact ⟨by rw [HQ.out]; exact row_set (i := 10) HRb.out (.int .u64 q1), (Keep.refl _ _).setCell (p := ⟨g, 10, none⟩) (.inl (by simp)) _⟩
     ·subst h
      have hq : vv = q2 := by rw [← Hvv.out]; simp [rregR]
      have HQ := Lib.hid hq
      clear h4 hq
      go_wp2_with fail
      go_meet
      exact ⟨by rw [HQ.out]; exact row_set (i := 10) HRb.out (.int .u64 q2), (Keep.refl _ _).setCell (p := ⟨g, 10, none⟩) (.inl (by simp)) _⟩
     ·subst h
      have hq : vv = q3 := by rw [← Hvv.out]; simp [rregR]
      have HQ := Lib.hid hq
      clear h4 hq
      go_wp2_with fail
      go_meet
      exact ⟨by rw [HQ.out]; exact row_set (i := 10) HRb.out (.int .u64 q3), (Keep.refl _ _).setCell (p := ⟨g, 10, none⟩) (.inl (by simp)) _⟩
   case rest =>
    obtain ⟨hR, hK⟩ := hcut
    have HRc := Lib.hid hR
    have HZc := Lib.hid (hK.row HZb.out (by simp; omega))
    have HCc := Lib.hid (hK.row HCb.out (by simp; omega))
    have HPc := Lib.hid (hK.row HPb.out (by simp; omega))
    have HBc := Lib.hid (Keep.under HBb.out hK (by omega) (by simp; omega))
    have HEc := Lib.hid (ents_kept HEb.out hK (fun a h0 ha => by simp only [List.mem_cons, List.not_mem_nil, or_false]; exact Hfar.out a h0 ha))
    have HXc := Lib.hid (And.intro (hK.cell x0 (by simp; omega)) (And.intro (hK.cell x1 (by simp; omega)) (And.intro (hK.cell x2 (by simp; omega)) (hK.cell x3 (by simp; omega)))))
    have zcc := lt_of_heap hR
    rename_i woc
    clear hR hK p0 p1 p2 p3 k0 k1 k2 k3 k4 k5 k6 gc gf x0 x1 x2 x3 HRb HZb HCb HPb HBb HEb HXb
    obtain ⟨pc, Hpc⟩ : ∃ x, Hid ((if (beginS P.s l ⟨co, cr, ch, cv, ca, cb, cc⟩ hv vv).1 = 0 then (beginS P.s l ⟨co, cr, ch, cv, ca, cb, cc⟩ hv vv).2 else 0) = x) := ⟨_, Lib.hid rfl⟩
    obtain ⟨code, Hco⟩ : ∃ x, Hid ((beginS P.s l ⟨co, cr, ch, cv, ca, cb, cc⟩ hv vv).1 = x) := ⟨_, Lib.hid rfl⟩
    have hbd := And.intro (rregR_bd (i := ch) HB.out.1 HB.out.2.1 HB.out.2.2.1 HB.out.2.2.2) (rregR_bd (i := cv) HB.out.1 HB.out.2.1 HB.out.2.2.1 HB.out.2.2.2)
    rw [Hhv.out, Hvv.out] at hbd
    have Hbd := Lib.hid hbd
    clear hbd
    obtain ⟨p0, p1, p2, p3, _, _, _, _⟩ := box4 HPc.out
    obtain ⟨k0, k1, k2, k3, k4, k5, k6⟩ := box7 HCc.out
    have gh := (run_box HRc.out).2.2.2.2.2.2.2.2.2.1
    have gv := (run_box HRc.out).2.2.2.2.2.2.2.2.2.2.1
    go_wp2_with fail
    refine (rpc_any P A k l ⟨co, cr, ch, cv, ca, cb, cc⟩ hv vv _ hl (Cells.below He.out HBc.out) s0 s1 Hcal.out Hbd.out.1 Hbd.out.2 H25.out).mono ?_
    rintro r y ⟨rfl, hby⟩
    rw [Hpc.out, Hco.out]
    clear p0 p1 p2 p3 k0 k1 k2 k3 k4 k5 k6 gh gv
    have HRy := Lib.hid (row_below HRc.out hby)
    have HZy := Lib.hid (row_below HZc.out hby)
    have HBy := Lib.hid (HBc.out.trans (hby.mono HBc.out.size))
    have HEy := Lib.hid (Cells.below HEc.out hby)
    have zy := lt_of_heap HRy.out
    clear hby HRc HZc HBc HEc HCc HPc HXc
    have g23 := (run_box HRy.out).2.2.2.2.2.2.2.2.2.2.2.2.2.2.2.2.2.2.2.2.2.2.2.1
    have g7 := (run_box HRy.out).2.2.2.2.2.2.2.1
    have gf : ∀ j, y.frozen? ⟨g, j, none⟩ = false := fun j => row_frozen HRy.out j
    obtain ⟨cs', Hcs'⟩ : ∃ cs', Hid (Rn.arr ⟨⟨co, cr, ch, cv, ca, cb, cc⟩, pc, area l, hv, vv, ⟨cA, l.length, kc⟩, 0, 0, 0, 0, noS, 0, noS, 0, false, false, false, code, 0, noS⟩ = cs') := ⟨_, Lib.hid rfl⟩
    have HI := Lib.hid (show (Tryz.prog.info? 43).map (·.size) = some cs'.size by rw [← Hcs'.out]; exact infoRun)
    have HO := Lib.hid (show cs'.all (·.oneCell') = true by rw [← Hcs'.out]; exact Rn.one _)
    have HRow := Lib.hid (show ((y.setCell ⟨g, 23, none⟩ (.int .i64 code)).setCell ⟨g, 7, none⟩ (.int .i64 pc)).heap[g]? = some (.cells cs' 43 (0, 0)) by rw [← Hcs'.out]; exact row_set (i := 7) (row_set (i := 23) HRy.out (.int .i64 code)) (.int .i64 pc))
    have hKy : Keep [g] y ((y.setCell ⟨g, 23, none⟩ (.int .i64 code)).setCell ⟨g, 7, none⟩ (.int .i64 pc)) := ((Keep.refl _ _).setCell (p := ⟨g, 23, none⟩) (.inl (by simp)) _).setCell (p := ⟨g, 7, none⟩) (.inl (by simp)) _
    have HZ := Lib.hid (hKy.row HZy.out (by simp; omega))
    have HBx := Lib.hid (Keep.under HBy.out hKy (by have := HBy.out.size; omega) (by simp; omega))
    have HEx := Lib.hid (ents_setRow (ents_kept HEy.out hKy (fun a h0 ha => by simp only [List.mem_cons, List.not_mem_nil, or_false]; exact Hfar.out a h0 ha)) (g := w.heap.size + 1 + 1) (fun a h0 ha => Hfz.out a h0 ha) cs')
    clear hKy
    go_wp2_with (first | refine wpList_load_row rfl 43 (.tmp 9) rfl g rfl 43 cs' (0, 0) _ HRow.out undRun rfl HI.out ?_ | refine wpList_store_row rfl 43 (.tmp 8) (.tmp 49) rfl (w.heap.size + 1 + 1) cs' rfl rfl 43 _ HZ.out HI.out (by rw [← Hcs'.out]; rfl) HO.out ?_)
    refine bodyPost_ret (results_cell_row (fn := Tryz.f32) rfl _ _ (w.heap.size + 1 + 1) 43 cs' (0, 0) _ rfl (setRow_heap _ _ _ cs' 43 (0, 0) HZ.out) undRun rfl HI.out) rfl ?_
    have e : Rn.arr (rbeginRn P.s l ⟨co, cr, ch, cv, ca, cb, cc⟩ hv vv ⟨cA, l.length, kc⟩) = cs' := by rw [← Hcs'.out]; simp only [rbeginRn]; rw [Hpc.out, Hco.out]
    rw [Hhv.out, Hvv.out]
    exact ⟨kc, HKC.out, cA, by rw [← e], HEx.out, Hfresh.out, below_setRow HBx.out (by omega) _⟩

/-- the same, without the capacity -/
theorem rof_any (P : Pln) (A : Option Addr) (k : Nat) (l : List Ent) (c : Cal) (q0 q1 q2 q3 : Int) (R o cR : Nat) (w : World) (hk : l.length ≤ k) (hl : l.length ≤ 1048576) (he : Ents w A l) (s0 : 1 ≤ P.s) (s1 : P.s ≤ 8) (hcal : CalOk c) (hcR : 4 ≤ cR)
  (b0 : 0 ≤ q0 ∧ q0 ≤ 18446744073709551615) (b1 : 0 ≤ q1 ∧ q1 ≤ 18446744073709551615) (b2 : 0 ≤ q2 ∧ q2 ≤ 18446744073709551615) (b3 : 0 ≤ q3 ∧ q3 ≤ 18446744073709551615)
  (e0 : w.cell? ⟨R, o, none⟩ = some (.int .u64 q0)) (e1 : w.cell? ⟨R, o + 1, none⟩ = some (.int .u64 q1)) (e2 : w.cell? ⟨R, o + 2, none⟩ = some (.int .u64 q2)) (e3 : w.cell? ⟨R, o + 3, none⟩ = some (.int .u64 q3)) (h25 : c.op = 2 ∨ c.op = 5) :
  Calls Tryz.prog 32 #[P.val, .slice (some ⟨R, o, none⟩) 4 cR, .slice A l.length k, c.vl] w fun r w' => ∃ kc cA, r = .returned (rbeginRn P.s l c (rregR q0 q1 q2 q3 c.h) (rregR q0 q1 q2 q3 c.v) ⟨cA, l.length, kc⟩).v ∧ Ents w' cA l ∧ (∀ a, 0 < l.length → cA = some a → w.heap.size ≤ a.block) ∧ Below w.heap.size w w' := by
 refine (rofC_any P A k l c q0 q1 q2 q3 R o cR w hk hl he s0 s1 hcal hcR b0 b1 b2 b3 e0 e1 e2 e3 h25).mono ?_
 rintro r w' ⟨kc, cA, _, h⟩
 exact ⟨kc, cA, h⟩
end Go.Proofs.YtbijaloeilnjoaaGreat
