/- Layer 18: the walks of fin's skip, of kinds and of Step. (Printed by gen_lvl.py.) -/
import Derived.Test.YtbijaloeilnjoaaGreatLF
namespace Go.Proofs.YtbijaloeilnjoaaGreat
open Go.RowKit
set_option linter.unusedVariables false
set_option linter.unusedSimpArgs false

theorem slot_at {w : World} {bs : Nat} {cur : Array Value} {a : Nat} {x : Int} (h : w.heap[bs]? = some (.cells cur 36 (0, 0))) (hx : cur[a]? = some (.int .u64 x)) : w.cell? ⟨bs, a, none⟩ = some (.int .u64 x) := by rw [row_cell h]; exact hx
set_option maxRecDepth 100000 in
set_option maxHeartbeats 4000000 in
theorem k4_any (g c : Nat) (A : Option Addr) (sl : List Int) (w : World) (a b : Nat) (ha : a ≤ 99) (hb0 : b ≤ 99) (hn : sl.length ≤ 6) (hg : Sta w g A sl.length c none 0 0 false 0) (hs : SlOk w g A sl) :
  Calls Tryz.prog 157 #[.pointer (some ⟨g, 0, none⟩), foV ⟨3, a, b⟩] w fun r w' => r = .returned (.tuple #[]) ∧ KPost w w' g A c sl ⟨3, a, b⟩ := by
 have HS := Lib.hid hs
 have HN := Lib.hid hn
 have HG := Lib.hid hg
 clear hg hs hn
 have aI : (a : Int) ≤ 99 := by omega
 have bI : (b : Int) ≤ 99 := by omega
 have a0 : (0 : Int) ≤ (a : Int) := by omega
 have b0 : (0 : Int) ≤ (b : Int) := by omega
 go_enter Tryz.func157, Tryz.ntmps157
 go_upto_region 1 with fail
 refine one_row w _ _ ?_
 intro w1 hr hb
 have HG1 := Lib.hid (row_below HG.out hb)
 have HB := Lib.hid hb
 have HR := Lib.hid hr
 have HS1 := Lib.hid (HS.out.below hb)
 clear hr hb HG
 by_cases hlt : a < sl.length
 ·have HHas : Hid (([(a : Int)].all fun x => inB x 0 ((sl.length : Int) - 1)) = true) := Lib.hid (by simp [inB]; omega)
  have hltI : (a : Int) < (sl.length : Int) := by omega
  have hdI : decide ((sl.length : Int) ≤ (a : Int)) = false := decide_eq_false (by omega)
  rcases HS1.out with h0 | ⟨bs, cur, h, hne⟩
  ·rw [h0] at hlt; simp at hlt
  have HSB := Lib.hid h
  have Hne := Lib.hid hne
  have hA := h.a
  subst hA
  obtain ⟨xa, hxa⟩ : ∃ x, sl[a]? = some x := ⟨_, List.getElem?_eq_getElem hlt⟩
  have HAt := Lib.hid (h.at_ a xa hxa)
  clear h hne hlt
  by_cases hz : xa = 0
  ·subst hz
   have HK : Hid (finK ⟨3, a, b⟩ sl = (b : Int)) := Lib.hid (by unfold finK; rw [if_pos ⟨rfl, by show sl[((a : Nat) : Int).toNat]? = _; rw [Int.toNat_natCast]; exact hxa⟩])
   clear hxa
   refine wp_region_held_drew (S := fun W => Sta W g (some ⟨bs, 0, none⟩) sl.length c none 0 0 false 0 ∧ W.heap[w.heap.size]? = some (.cells #[.int .u8 3, .int .i64 (a : Int), .int .i64 (b : Int)] 56 (0, 0)) ∧ W.heap[bs]? = some (.cells cur 36 (0, 0))) (by kernel_rfl) (show Sta w1.drew g (some ⟨bs, 0, none⟩) sl.length c none 0 0 false 0 ∧ w1.drew.heap[w.heap.size]? = some (.cells #[.int .u8 3, .int .i64 (a : Int), .int .i64 (b : Int)] 56 (0, 0)) ∧ w1.drew.heap[bs]? = some (.cells cur 36 (0, 0)) from ⟨HG1.out, HR.out, HSB.out.row⟩) ?_
   intro hS
   have hB0 : Below w.heap.size w w1.drew := below_drewN HB.out 1
   generalize w1.drew = y0 at hS hB0 ⊢
   refine tk (i := 0) (v := ?v0x1) (some 4) rfl rfl (Or.inl ⟨by kernel_rfl, ?h0x1⟩) ?r0x1
   case h0x1 => (intro w' hSw; obtain ⟨s1, s2, s3⟩ := hSw; obtain ⟨q0, q1, q2, q3, _⟩ := box4 s1; have zg := lt_of_heap s1; obtain ⟨y0, y1, y2, _, _, _⟩ := box3 s2; have zo := lt_of_heap s2; have ca := slot_at s3 HAt.out; have zb := lt_of_heap s3; go_simp; first | done | (with_reducible rfl))
   try simp only [zA, zB, zC, zD, zE]
   refine tk (i := 1) (v := ?v1x2) (some 5) rfl rfl (Or.inl ⟨by kernel_rfl, ?h1x2⟩) ?r1x2
   case h1x2 => (intro w' hSw; obtain ⟨s1, s2, s3⟩ := hSw; obtain ⟨q0, q1, q2, q3, _⟩ := box4 s1; have zg := lt_of_heap s1; obtain ⟨y0, y1, y2, _, _, _⟩ := box3 s2; have zo := lt_of_heap s2; have ca := slot_at s3 HAt.out; have zb := lt_of_heap s3; go_simp; first | done | (with_reducible rfl))
   try simp only [zA, zB, zC, zD, zE]
   refine tk (i := 2) (v := ?v2x3) (some 6) rfl rfl (Or.inl ⟨by kernel_rfl, ?h2x3⟩) ?r2x3
   case h2x3 => (intro w' hSw; obtain ⟨s1, s2, s3⟩ := hSw; obtain ⟨q0, q1, q2, q3, _⟩ := box4 s1; have zg := lt_of_heap s1; obtain ⟨y0, y1, y2, _, _, _⟩ := box3 s2; have zo := lt_of_heap s2; have ca := slot_at s3 HAt.out; have zb := lt_of_heap s3; go_simp; first | done | (with_reducible rfl))
   try simp only [zA, zB, zC, zD, zE]
   refine wpAnyH_ready (rs := [3]) (by kernel_rfl) (by simp) ?_
   refine AllReadyH.cons rfl (fun K hK => ?_) AllReadyH.nil
   go_simp
   refine k_alloc (fun yL hL hb => ?_)
   have hgl : w.heap.size ≤ y0.heap.size := hB0.size
   obtain ⟨gL, HgL⟩ : ∃ x, x = y0.heap.size := ⟨_, rfl⟩
   replace hB0 := below_only hB0 hb
   have hC : Cells yL (some ⟨y0.heap.size, 0, none⟩) ([(a : Int)].flatMap nCells) := cells_of hL
   rw [← HgL] at hL hC ⊢
   clear HgL hL hgl
   refine hK.out _ _ (⟨row_below hS.1 hb, row_below hS.2.1 hb, row_below hS.2.2 hb⟩) (fun hS => ?_)
   clear hK K
   try simp only [zA, zB, zC, zD, zE]
   clear hb
   refine wpAnyH_ready (rs := [4]) (by kernel_rfl) (by simp) ?_
   refine AllReadyH.cons rfl (fun K hK => ?_) AllReadyH.nil
   go_simp
   refine (has_any g sl.length c (some ⟨bs, 0, none⟩) none 0 0 false 0 _ 1 [(a : Int)] yL (by simp) hC hS.1 HN.out).mono ?_
   rintro r yH ⟨rfl, hb⟩
   rw [show ([(a : Int)].all fun x => inB x 0 ((sl.length : Int) - 1)) = true from HHas.out]
   go_simp
   clear hC
   replace hB0 := below_only hB0 hb
   refine hK.out _ _ (⟨row_below hS.1 hb, row_below hS.2.1 hb, row_below hS.2.2 hb⟩) (fun hS => ?_)
   clear hK K
   try simp only [zA, zB, zC, zD, zE]
   clear hb
   refine tk (i := 5) (v := ?v5x4) (some 9) rfl rfl (Or.inl ⟨by kernel_rfl, ?h5x4⟩) ?r5x4
   case h5x4 => (intro w' hSw; obtain ⟨s1, s2, s3⟩ := hSw; obtain ⟨q0, q1, q2, q3, _⟩ := box4 s1; have zg := lt_of_heap s1; obtain ⟨y0, y1, y2, _, _, _⟩ := box3 s2; have zo := lt_of_heap s2; have ca := slot_at s3 HAt.out; have zb := lt_of_heap s3; go_simp; first | done | (with_reducible rfl))
   try simp only [zA, zB, zC, zD, zE]
   refine tk (i := 6) (v := ?v6x5) (some 10) rfl rfl (Or.inl ⟨by kernel_rfl, ?h6x5⟩) ?r6x5
   case h6x5 => (intro w' hSw; obtain ⟨s1, s2, s3⟩ := hSw; obtain ⟨q0, q1, q2, q3, _⟩ := box4 s1; have zg := lt_of_heap s1; obtain ⟨y0, y1, y2, _, _, _⟩ := box3 s2; have zo := lt_of_heap s2; have ca := slot_at s3 HAt.out; have zb := lt_of_heap s3; go_simp; first | done | (with_reducible rfl))
   try simp only [zA, zB, zC, zD, zE]
   refine tk (i := 7) (v := ?v7x6) (some 11) rfl rfl (Or.inl ⟨by kernel_rfl, ?h7x6⟩) ?r7x6
   case h7x6 => (intro w' hSw; obtain ⟨s1, s2, s3⟩ := hSw; obtain ⟨q0, q1, q2, q3, _⟩ := box4 s1; have zg := lt_of_heap s1; obtain ⟨y0, y1, y2, _, _, _⟩ := box3 s2; have zo := lt_of_heap s2; have ca := slot_at s3 HAt.out; have zb := lt_of_heap s3; go_simp; first | done | (with_reducible rfl))
   try simp only [zA, zB, zC, zD, zE]
   refine tk (i := 8) (v := ?v8x7) (some 12) rfl rfl (Or.inl ⟨by kernel_rfl, ?h8x7⟩) ?r8x7
   case h8x7 => (intro w' hSw; obtain ⟨s1, s2, s3⟩ := hSw; obtain ⟨q0, q1, q2, q3, _⟩ := box4 s1; have zg := lt_of_heap s1; obtain ⟨y0, y1, y2, _, _, _⟩ := box3 s2; have zo := lt_of_heap s2; have ca := slot_at s3 HAt.out; have zb := lt_of_heap s3; go_simp; first | done | (with_reducible rfl))
   try simp only [zA, zB, zC, zD, zE]
   refine tk (i := 9) (v := ?v9x8) (some 13) rfl rfl (Or.inl ⟨by kernel_rfl, ?h9x8⟩) ?r9x8
   case h9x8 => (intro w' hSw; obtain ⟨s1, s2, s3⟩ := hSw; obtain ⟨q0, q1, q2, q3, _⟩ := box4 s1; have zg := lt_of_heap s1; obtain ⟨y0, y1, y2, _, _, _⟩ := box3 s2; have zo := lt_of_heap s2; have ca := slot_at s3 HAt.out; have zb := lt_of_heap s3; go_simp; first | done | (with_reducible rfl))
   try simp only [zA, zB, zC, zD, zE]
   refine tk (i := 10) (v := ?v10x9) (some 14) rfl rfl (Or.inl ⟨by kernel_rfl, ?h10x9⟩) ?r10x9
   case h10x9 => (intro w' hSw; obtain ⟨s1, s2, s3⟩ := hSw; obtain ⟨q0, q1, q2, q3, _⟩ := box4 s1; have zg := lt_of_heap s1; obtain ⟨y0, y1, y2, _, _, _⟩ := box3 s2; have zo := lt_of_heap s2; have ca := slot_at s3 HAt.out; have zb := lt_of_heap s3; go_simp; first | done | (with_reducible rfl))
   try simp only [zA, zB, zC, zD, zE]
   refine tk (i := 11) (v := ?v11x10) (some 15) rfl rfl (Or.inl ⟨by kernel_rfl, ?h11x10⟩) ?r11x10
   case h11x10 => (intro w' hSw; obtain ⟨s1, s2, s3⟩ := hSw; obtain ⟨q0, q1, q2, q3, _⟩ := box4 s1; have zg := lt_of_heap s1; obtain ⟨y0, y1, y2, _, _, _⟩ := box3 s2; have zo := lt_of_heap s2; have ca := slot_at s3 HAt.out; have zb := lt_of_heap s3; go_simp; first | done | (with_reducible rfl))
   try simp only [zA, zB, zC, zD, zE]
   refine tk (i := 12) (v := ?v12x11) (some 16) rfl rfl (Or.inl ⟨by kernel_rfl, ?h12x11⟩) ?r12x11
   case h12x11 => (intro w' hSw; obtain ⟨s1, s2, s3⟩ := hSw; obtain ⟨q0, q1, q2, q3, _⟩ := box4 s1; have zg := lt_of_heap s1; obtain ⟨y0, y1, y2, _, _, _⟩ := box3 s2; have zo := lt_of_heap s2; have ca := slot_at s3 HAt.out; have zb := lt_of_heap s3; go_simp; first | done | (with_reducible rfl))
   try simp only [zA, zB, zC, zD, zE]
   refine tk (i := 13) (v := ?v13x12) (some 17) rfl rfl (Or.inl ⟨by kernel_rfl, ?h13x12⟩) ?r13x12
   case h13x12 => (intro w' hSw; obtain ⟨s1, s2, s3⟩ := hSw; obtain ⟨q0, q1, q2, q3, _⟩ := box4 s1; have zg := lt_of_heap s1; obtain ⟨y0, y1, y2, _, _, _⟩ := box3 s2; have zo := lt_of_heap s2; have ca := slot_at s3 HAt.out; have zb := lt_of_heap s3; go_simp; first | done | (with_reducible rfl))
   try simp only [zA, zB, zC, zD, zE]
   refine tk (i := 14) (v := ?v14x13) (some 18) rfl rfl (Or.inl ⟨by kernel_rfl, ?h14x13⟩) ?r14x13
   case h14x13 => (intro w' hSw; obtain ⟨s1, s2, s3⟩ := hSw; obtain ⟨q0, q1, q2, q3, _⟩ := box4 s1; have zg := lt_of_heap s1; obtain ⟨y0, y1, y2, _, _, _⟩ := box3 s2; have zo := lt_of_heap s2; have ca := slot_at s3 HAt.out; have zb := lt_of_heap s3; go_simp; first | done | (with_reducible rfl))
   try simp only [zA, zB, zC, zD, zE]
   refine tk (i := 15) (v := ?v15x14) (some 19) rfl rfl (Or.inl ⟨by kernel_rfl, ?h15x14⟩) ?r15x14
   case h15x14 => (intro w' hSw; obtain ⟨s1, s2, s3⟩ := hSw; obtain ⟨q0, q1, q2, q3, _⟩ := box4 s1; have zg := lt_of_heap s1; obtain ⟨y0, y1, y2, _, _, _⟩ := box3 s2; have zo := lt_of_heap s2; have ca := slot_at s3 HAt.out; have zb := lt_of_heap s3; go_simp; first | done | (with_reducible rfl))
   try simp only [zA, zB, zC, zD, zE]
   refine wpAnyH_done (by kernel_rfl) ?_ _
   obtain ⟨hg4, hr4, hb4⟩ := hS
   obtain ⟨q0, q1, q2, q3, _⟩ := box4 hg4
   have f3 := row_frozen hg4 3
   have zg := lt_of_heap hg4
   obtain ⟨y0, y1, y2, _, _, _⟩ := box3 hr4
   have zo := lt_of_heap hr4
   have HG4 := Lib.hid hg4
   have HB4 := Lib.hid hB0
   have Hb4 := Lib.hid hb4
   clear hg4 hr4 hb4 hB0
   go_wp2_with fail
   go_end0
   have h2 := row_set (i := 3) HG4.out (.int .i64 (b : Int))
   have hk := (Keep.refl [g] yH).setCell (p := ⟨g, 3, none⟩) (.inl (by simp)) (.int .i64 (b : Int))
   exact ⟨rfl, ⟨none, 0, by rw [HK.out]; exact h2, Cells.nil, fun z hz => by cases hz⟩, .inr ⟨bs, cur, ⟨HSB.out.a, hk.row Hb4.out (by simpa using Hne.out), HSB.out.at_⟩, Hne.out⟩, ((keep_below HB4.out [g]).trans hk).sub (T := abK g (some ⟨bs, 0, none⟩)) (fun i hi => by simp at hi; simp [abK, hi])⟩
  ·have HK : Hid (finK ⟨3, a, b⟩ sl = 0) := Lib.hid (by unfold finK; rw [if_neg (fun h => hz (by have h := h.2; rw [show (⟨3, a, b⟩ : Fo).a.toNat = a from Int.toNat_natCast a, hxa] at h; injection h))])
   have hz1 : (xa == 0) = false := by simpa using hz
   have hz2 : decide (xa = 0) = false := decide_eq_false hz
   clear hxa hz
   refine wp_region_held_drew (S := fun W => Sta W g (some ⟨bs, 0, none⟩) sl.length c none 0 0 false 0 ∧ W.heap[w.heap.size]? = some (.cells #[.int .u8 3, .int .i64 (a : Int), .int .i64 (b : Int)] 56 (0, 0)) ∧ W.heap[bs]? = some (.cells cur 36 (0, 0))) (by kernel_rfl) (show Sta w1.drew g (some ⟨bs, 0, none⟩) sl.length c none 0 0 false 0 ∧ w1.drew.heap[w.heap.size]? = some (.cells #[.int .u8 3, .int .i64 (a : Int), .int .i64 (b : Int)] 56 (0, 0)) ∧ w1.drew.heap[bs]? = some (.cells cur 36 (0, 0)) from ⟨HG1.out, HR.out, HSB.out.row⟩) ?_
   intro hS
   have hB0 : Below w.heap.size w w1.drew := below_drewN HB.out 1
   generalize w1.drew = y0 at hS hB0 ⊢
   refine tk (i := 0) (v := ?v0x15) (some 4) rfl rfl (Or.inl ⟨by kernel_rfl, ?h0x15⟩) ?r0x15
   case h0x15 => (intro w' hSw; obtain ⟨s1, s2, s3⟩ := hSw; obtain ⟨q0, q1, q2, q3, _⟩ := box4 s1; have zg := lt_of_heap s1; obtain ⟨y0, y1, y2, _, _, _⟩ := box3 s2; have zo := lt_of_heap s2; have ca := slot_at s3 HAt.out; have zb := lt_of_heap s3; go_simp; first | done | (with_reducible rfl))
   try simp only [zA, zB, zC, zD, zE]
   refine tk (i := 1) (v := ?v1x16) (some 5) rfl rfl (Or.inl ⟨by kernel_rfl, ?h1x16⟩) ?r1x16
   case h1x16 => (intro w' hSw; obtain ⟨s1, s2, s3⟩ := hSw; obtain ⟨q0, q1, q2, q3, _⟩ := box4 s1; have zg := lt_of_heap s1; obtain ⟨y0, y1, y2, _, _, _⟩ := box3 s2; have zo := lt_of_heap s2; have ca := slot_at s3 HAt.out; have zb := lt_of_heap s3; go_simp; first | done | (with_reducible rfl))
   try simp only [zA, zB, zC, zD, zE]
   refine tk (i := 2) (v := ?v2x17) (some 6) rfl rfl (Or.inl ⟨by kernel_rfl, ?h2x17⟩) ?r2x17
   case h2x17 => (intro w' hSw; obtain ⟨s1, s2, s3⟩ := hSw; obtain ⟨q0, q1, q2, q3, _⟩ := box4 s1; have zg := lt_of_heap s1; obtain ⟨y0, y1, y2, _, _, _⟩ := box3 s2; have zo := lt_of_heap s2; have ca := slot_at s3 HAt.out; have zb := lt_of_heap s3; go_simp; first | done | (with_reducible rfl))
   try simp only [zA, zB, zC, zD, zE]
   refine wpAnyH_ready (rs := [3]) (by kernel_rfl) (by simp) ?_
   refine AllReadyH.cons rfl (fun K hK => ?_) AllReadyH.nil
   go_simp
   refine k_alloc (fun yL hL hb => ?_)
   have hgl : w.heap.size ≤ y0.heap.size := hB0.size
   obtain ⟨gL, HgL⟩ : ∃ x, x = y0.heap.size := ⟨_, rfl⟩
   replace hB0 := below_only hB0 hb
   have hC : Cells yL (some ⟨y0.heap.size, 0, none⟩) ([(a : Int)].flatMap nCells) := cells_of hL
   rw [← HgL] at hL hC ⊢
   clear HgL hL hgl
   refine hK.out _ _ (⟨row_below hS.1 hb, row_below hS.2.1 hb, row_below hS.2.2 hb⟩) (fun hS => ?_)
   clear hK K
   try simp only [zA, zB, zC, zD, zE]
   clear hb
   refine wpAnyH_ready (rs := [4]) (by kernel_rfl) (by simp) ?_
   refine AllReadyH.cons rfl (fun K hK => ?_) AllReadyH.nil
   go_simp
   refine (has_any g sl.length c (some ⟨bs, 0, none⟩) none 0 0 false 0 _ 1 [(a : Int)] yL (by simp) hC hS.1 HN.out).mono ?_
   rintro r yH ⟨rfl, hb⟩
   rw [show ([(a : Int)].all fun x => inB x 0 ((sl.length : Int) - 1)) = true from HHas.out]
   go_simp
   clear hC
   replace hB0 := below_only hB0 hb
   refine hK.out _ _ (⟨row_below hS.1 hb, row_below hS.2.1 hb, row_below hS.2.2 hb⟩) (fun hS => ?_)
   clear hK K
   try simp only [zA, zB, zC, zD, zE]
   clear hb
   refine tk (i := 5) (v := ?v5x18) (some 9) rfl rfl (Or.inl ⟨by kernel_rfl, ?h5x18⟩) ?r5x18
   case h5x18 => (intro w' hSw; obtain ⟨s1, s2, s3⟩ := hSw; obtain ⟨q0, q1, q2, q3, _⟩ := box4 s1; have zg := lt_of_heap s1; obtain ⟨y0, y1, y2, _, _, _⟩ := box3 s2; have zo := lt_of_heap s2; have ca := slot_at s3 HAt.out; have zb := lt_of_heap s3; go_simp; first | done | (with_reducible rfl))
   try simp only [zA, zB, zC, zD, zE]
   refine tk (i := 6) (v := ?v6x19) (some 10) rfl rfl (Or.inl ⟨by kernel_rfl, ?h6x19⟩) ?r6x19
   case h6x19 => (intro w' hSw; obtain ⟨s1, s2, s3⟩ := hSw; obtain ⟨q0, q1, q2, q3, _⟩ := box4 s1; have zg := lt_of_heap s1; obtain ⟨y0, y1, y2, _, _, _⟩ := box3 s2; have zo := lt_of_heap s2; have ca := slot_at s3 HAt.out; have zb := lt_of_heap s3; go_simp; first | done | (with_reducible rfl))
   try simp only [zA, zB, zC, zD, zE]
   refine tk (i := 7) (v := ?v7x20) (some 11) rfl rfl (Or.inl ⟨by kernel_rfl, ?h7x20⟩) ?r7x20
   case h7x20 => (intro w' hSw; obtain ⟨s1, s2, s3⟩ := hSw; obtain ⟨q0, q1, q2, q3, _⟩ := box4 s1; have zg := lt_of_heap s1; obtain ⟨y0, y1, y2, _, _, _⟩ := box3 s2; have zo := lt_of_heap s2; have ca := slot_at s3 HAt.out; have zb := lt_of_heap s3; go_simp; first | done | (with_reducible rfl))
   try simp only [zA, zB, zC, zD, zE]
   refine tk (i := 8) (v := ?v8x21) (some 12) rfl rfl (Or.inl ⟨by kernel_rfl, ?h8x21⟩) ?r8x21
   case h8x21 => (intro w' hSw; obtain ⟨s1, s2, s3⟩ := hSw; obtain ⟨q0, q1, q2, q3, _⟩ := box4 s1; have zg := lt_of_heap s1; obtain ⟨y0, y1, y2, _, _, _⟩ := box3 s2; have zo := lt_of_heap s2; have ca := slot_at s3 HAt.out; have zb := lt_of_heap s3; go_simp; first | done | (with_reducible rfl))
   try simp only [zA, zB, zC, zD, zE]
   refine tk (i := 9) (v := ?v9x22) (some 13) rfl rfl (Or.inl ⟨by kernel_rfl, ?h9x22⟩) ?r9x22
   case h9x22 => (intro w' hSw; obtain ⟨s1, s2, s3⟩ := hSw; obtain ⟨q0, q1, q2, q3, _⟩ := box4 s1; have zg := lt_of_heap s1; obtain ⟨y0, y1, y2, _, _, _⟩ := box3 s2; have zo := lt_of_heap s2; have ca := slot_at s3 HAt.out; have zb := lt_of_heap s3; go_simp; first | done | (with_reducible rfl))
   try simp only [zA, zB, zC, zD, zE]
   refine tk (i := 10) (v := ?v10x23) (some 14) rfl rfl (Or.inl ⟨by kernel_rfl, ?h10x23⟩) ?r10x23
   case h10x23 => (intro w' hSw; obtain ⟨s1, s2, s3⟩ := hSw; obtain ⟨q0, q1, q2, q3, _⟩ := box4 s1; have zg := lt_of_heap s1; obtain ⟨y0, y1, y2, _, _, _⟩ := box3 s2; have zo := lt_of_heap s2; have ca := slot_at s3 HAt.out; have zb := lt_of_heap s3; go_simp; first | done | (with_reducible rfl))
   try simp only [zA, zB, zC, zD, zE]
   refine tk (i := 11) (v := ?v11x24) (some 15) rfl rfl (Or.inl ⟨by kernel_rfl, ?h11x24⟩) ?r11x24
   case h11x24 => (intro w' hSw; obtain ⟨s1, s2, s3⟩ := hSw; obtain ⟨q0, q1, q2, q3, _⟩ := box4 s1; have zg := lt_of_heap s1; obtain ⟨y0, y1, y2, _, _, _⟩ := box3 s2; have zo := lt_of_heap s2; have ca := slot_at s3 HAt.out; have zb := lt_of_heap s3; go_simp; first | done | (with_reducible rfl))
   try simp only [zA, zB, zC, zD, zE]
   refine tk (i := 12) (v := ?v12x25) (some 16) rfl rfl (Or.inl ⟨by kernel_rfl, ?h12x25⟩) ?r12x25
   case h12x25 => (intro w' hSw; obtain ⟨s1, s2, s3⟩ := hSw; obtain ⟨q0, q1, q2, q3, _⟩ := box4 s1; have zg := lt_of_heap s1; obtain ⟨y0, y1, y2, _, _, _⟩ := box3 s2; have zo := lt_of_heap s2; have ca := slot_at s3 HAt.out; have zb := lt_of_heap s3; go_simp; first | done | (with_reducible rfl))
   try simp only [zA, zB, zC, zD, zE]
   refine tk (i := 13) (v := ?v13x26) (some 17) rfl rfl (Or.inl ⟨by kernel_rfl, ?h13x26⟩) ?r13x26
   case h13x26 => (intro w' hSw; obtain ⟨s1, s2, s3⟩ := hSw; obtain ⟨q0, q1, q2, q3, _⟩ := box4 s1; have zg := lt_of_heap s1; obtain ⟨y0, y1, y2, _, _, _⟩ := box3 s2; have zo := lt_of_heap s2; have ca := slot_at s3 HAt.out; have zb := lt_of_heap s3; go_simp; first | done | (with_reducible rfl))
   try simp only [zA, zB, zC, zD, zE]
   refine tk (i := 14) (v := ?v14x27) (some 18) rfl rfl (Or.inl ⟨by kernel_rfl, ?h14x27⟩) ?r14x27
   case h14x27 => (intro w' hSw; obtain ⟨s1, s2, s3⟩ := hSw; obtain ⟨q0, q1, q2, q3, _⟩ := box4 s1; have zg := lt_of_heap s1; obtain ⟨y0, y1, y2, _, _, _⟩ := box3 s2; have zo := lt_of_heap s2; have ca := slot_at s3 HAt.out; have zb := lt_of_heap s3; go_simp; first | done | (with_reducible rfl))
   try simp only [zA, zB, zC, zD, zE]
   refine tk (i := 15) (v := ?v15x28) (some 19) rfl rfl (Or.inl ⟨by kernel_rfl, ?h15x28⟩) ?r15x28
   case h15x28 => (intro w' hSw; obtain ⟨s1, s2, s3⟩ := hSw; obtain ⟨q0, q1, q2, q3, _⟩ := box4 s1; have zg := lt_of_heap s1; obtain ⟨y0, y1, y2, _, _, _⟩ := box3 s2; have zo := lt_of_heap s2; have ca := slot_at s3 HAt.out; have zb := lt_of_heap s3; go_simp; first | done | (with_reducible rfl))
   try simp only [zA, zB, zC, zD, zE]
   refine wpAnyH_done (by kernel_rfl) ?_ _
   obtain ⟨hg4, hr4, hb4⟩ := hS
   have HG4 := Lib.hid hg4
   have HB4 := Lib.hid hB0
   have Hb4 := Lib.hid hb4
   clear hg4 hr4 hb4 hB0
   go_wp2_with fail
   go_end0
   exact ⟨rfl, ⟨none, 0, by rw [HK.out]; exact HG4.out, Cells.nil, fun z hz => by cases hz⟩, .inr ⟨bs, cur, ⟨HSB.out.a, Hb4.out, HSB.out.at_⟩, Hne.out⟩, keep_below HB4.out _⟩
 ·have HHas : Hid (([(a : Int)].all fun x => inB x 0 ((sl.length : Int) - 1)) = false) := Lib.hid (by simp [inB]; omega)
  have HK : Hid (finK ⟨3, a, b⟩ sl = 0) := Lib.hid (by unfold finK; rw [if_neg (fun h => by have h := h.2; rw [show (⟨3, a, b⟩ : Fo).a.toNat = a from Int.toNat_natCast a, List.getElem?_eq_none (by omega)] at h; cases h)])
  clear hlt
  refine wp_region_held_drew (S := fun W => Sta W g A sl.length c none 0 0 false 0 ∧ W.heap[w.heap.size]? = some (.cells #[.int .u8 3, .int .i64 (a : Int), .int .i64 (b : Int)] 56 (0, 0))) (by kernel_rfl) (show Sta w1.drew g A sl.length c none 0 0 false 0 ∧ w1.drew.heap[w.heap.size]? = some (.cells #[.int .u8 3, .int .i64 (a : Int), .int .i64 (b : Int)] 56 (0, 0)) from ⟨HG1.out, HR.out⟩) ?_
  intro hS
  have hB0 : Below w.heap.size w w1.drew := below_drewN HB.out 1
  generalize w1.drew = y0 at hS hB0 ⊢
  refine tk (i := 0) (v := ?v0x29) (some 4) rfl rfl (Or.inl ⟨by kernel_rfl, ?h0x29⟩) ?r0x29
  case h0x29 => (intro w' hSw; obtain ⟨s1, s2⟩ := hSw; obtain ⟨q0, q1, q2, q3, _⟩ := box4 s1; have zg := lt_of_heap s1; obtain ⟨y0, y1, y2, _, _, _⟩ := box3 s2; have zo := lt_of_heap s2; go_simp; first | done | (with_reducible rfl))
  try simp only [zA, zB, zC, zD, zE]
  refine tk (i := 1) (v := ?v1x30) (some 5) rfl rfl (Or.inl ⟨by kernel_rfl, ?h1x30⟩) ?r1x30
  case h1x30 => (intro w' hSw; obtain ⟨s1, s2⟩ := hSw; obtain ⟨q0, q1, q2, q3, _⟩ := box4 s1; have zg := lt_of_heap s1; obtain ⟨y0, y1, y2, _, _, _⟩ := box3 s2; have zo := lt_of_heap s2; go_simp; first | done | (with_reducible rfl))
  try simp only [zA, zB, zC, zD, zE]
  refine tk (i := 2) (v := ?v2x31) (some 6) rfl rfl (Or.inl ⟨by kernel_rfl, ?h2x31⟩) ?r2x31
  case h2x31 => (intro w' hSw; obtain ⟨s1, s2⟩ := hSw; obtain ⟨q0, q1, q2, q3, _⟩ := box4 s1; have zg := lt_of_heap s1; obtain ⟨y0, y1, y2, _, _, _⟩ := box3 s2; have zo := lt_of_heap s2; go_simp; first | done | (with_reducible rfl))
  try simp only [zA, zB, zC, zD, zE]
  refine wpAnyH_ready (rs := [3]) (by kernel_rfl) (by simp) ?_
  refine AllReadyH.cons rfl (fun K hK => ?_) AllReadyH.nil
  go_simp
  refine k_alloc (fun yL hL hb => ?_)
  have hgl : w.heap.size ≤ y0.heap.size := hB0.size
  obtain ⟨gL, HgL⟩ : ∃ x, x = y0.heap.size := ⟨_, rfl⟩
  replace hB0 := below_only hB0 hb
  have hC : Cells yL (some ⟨y0.heap.size, 0, none⟩) ([(a : Int)].flatMap nCells) := cells_of hL
  rw [← HgL] at hL hC ⊢
  clear HgL hL hgl
  refine hK.out _ _ (⟨row_below hS.1 hb, row_below hS.2 hb⟩) (fun hS => ?_)
  clear hK K
  try simp only [zA, zB, zC, zD, zE]
  clear hb
  refine wpAnyH_ready (rs := [4]) (by kernel_rfl) (by simp) ?_
  refine AllReadyH.cons rfl (fun K hK => ?_) AllReadyH.nil
  go_simp
  refine (has_any g sl.length c A none 0 0 false 0 _ 1 [(a : Int)] yL (by simp) hC hS.1 HN.out).mono ?_
  rintro r yH ⟨rfl, hb⟩
  rw [show ([(a : Int)].all fun x => inB x 0 ((sl.length : Int) - 1)) = false from HHas.out]
  go_simp
  clear hC
  replace hB0 := below_only hB0 hb
  refine hK.out _ _ (⟨row_below hS.1 hb, row_below hS.2 hb⟩) (fun hS => ?_)
  clear hK K
  try simp only [zA, zB, zC, zD, zE]
  clear hb
  refine tk (i := 5) (v := ?v5x32) (some 9) rfl rfl (Or.inl ⟨by kernel_rfl, ?h5x32⟩) ?r5x32
  case h5x32 => (intro w' hSw; obtain ⟨s1, s2⟩ := hSw; obtain ⟨q0, q1, q2, q3, _⟩ := box4 s1; have zg := lt_of_heap s1; obtain ⟨y0, y1, y2, _, _, _⟩ := box3 s2; have zo := lt_of_heap s2; go_simp; first | done | (with_reducible rfl))
  try simp only [zA, zB, zC, zD, zE]
  refine tk (i := 6) (v := undef) (some 10) rfl rfl (Or.inr ⟨by kernel_rfl, rfl⟩) ?_
  try simp only [zA, zB, zC, zD, zE]
  refine tk (i := 7) (v := undef) (some 11) rfl rfl (Or.inr ⟨by kernel_rfl, rfl⟩) ?_
  try simp only [zA, zB, zC, zD, zE]
  refine tk (i := 8) (v := undef) (some 12) rfl rfl (Or.inr ⟨by kernel_rfl, rfl⟩) ?_
  try simp only [zA, zB, zC, zD, zE]
  refine tk (i := 9) (v := undef) (some 13) rfl rfl (Or.inr ⟨by kernel_rfl, rfl⟩) ?_
  try simp only [zA, zB, zC, zD, zE]
  refine tk (i := 10) (v := undef) (some 14) rfl rfl (Or.inr ⟨by kernel_rfl, rfl⟩) ?_
  try simp only [zA, zB, zC, zD, zE]
  refine tk (i := 11) (v := undef) (some 15) rfl rfl (Or.inr ⟨by kernel_rfl, rfl⟩) ?_
  try simp only [zA, zB, zC, zD, zE]
  refine tk (i := 12) (v := undef) (some 16) rfl rfl (Or.inr ⟨by kernel_rfl, rfl⟩) ?_
  try simp only [zA, zB, zC, zD, zE]
  refine tk (i := 13) (v := undef) (some 17) rfl rfl (Or.inr ⟨by kernel_rfl, rfl⟩) ?_
  try simp only [zA, zB, zC, zD, zE]
  refine tk (i := 14) (v := undef) (some 18) rfl rfl (Or.inr ⟨by kernel_rfl, rfl⟩) ?_
  try simp only [zA, zB, zC, zD, zE]
  refine tk (i := 15) (v := ?v15x33) (some 19) rfl rfl (Or.inl ⟨by kernel_rfl, ?h15x33⟩) ?r15x33
  case h15x33 => (intro w' hSw; obtain ⟨s1, s2⟩ := hSw; obtain ⟨q0, q1, q2, q3, _⟩ := box4 s1; have zg := lt_of_heap s1; obtain ⟨y0, y1, y2, _, _, _⟩ := box3 s2; have zo := lt_of_heap s2; go_simp; first | done | (with_reducible rfl))
  try simp only [zA, zB, zC, zD, zE]
  refine wpAnyH_done (by kernel_rfl) ?_ _
  obtain ⟨hg4, hr4⟩ := hS
  have HG4 := Lib.hid hg4
  have HB4 := Lib.hid hB0
  clear hg4 hr4 hB0
  go_wp2_with fail
  go_end0
  exact ⟨rfl, ⟨none, 0, by rw [HK.out]; exact HG4.out, Cells.nil, fun z hz => by cases hz⟩, HS.out.kept (keep_below HB4.out []) (fun z _ => by simp), keep_below HB4.out _⟩
abbrev kdArr : Array Value := #[.int .i64 99, .int .i64 0, .func (.func 153) #[] #[], .int .i64 5, .int .i64 0, .func (.func 154) #[] #[], .int .i64 5, .int .i64 5, .func (.func 156) #[] #[], .int .i64 5, .int .i64 8, .func (.func 157) #[] #[], .int .i64 0, .int .i64 0, .func (.func 158) #[] #[]]
theorem infoKds : (Tryz.prog.info? 202).map (·.size) = some 15 := by kernel_rfl
theorem undKds : Tryz.prog.underlying 202 = some (.array 5 201) := by kernel_rfl
set_option maxRecDepth 100000 in
set_option maxHeartbeats 4000000 in
theorem kinds_any (w : World) : Calls Tryz.prog 149 #[] w fun r w' => r = .returned (.agg kdArr) ∧ Below w.heap.size w w' := by
 go_enter Tryz.func149, Tryz.ntmps149
 go_wp2_with (first | (refine wpList_store_row rfl 202 (.tmp 0) (.tmp 6) rfl w.heap.size kdArr rfl rfl 202 _ (row_new _ _ _) infoKds (by rfl) (by simp [Value.oneCell']) ?_))
 refine bodyPost_ret (results_cell_row (fn := Tryz.f149) rfl _ _ w.heap.size 202 kdArr (0, 0) _ rfl (setRow_heap _ _ _ _ _ (0, 0) (row_new _ _ _)) undKds rfl infoKds) rfl ?_
 exact ⟨rfl, below_setRow (by go_grown) (Nat.le_refl _) _⟩
end Go.Proofs.YtbijaloeilnjoaaGreat
