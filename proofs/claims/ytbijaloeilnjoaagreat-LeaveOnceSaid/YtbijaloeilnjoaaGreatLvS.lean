/- Layer 18: the walk of fin.Step. (Printed by gen_lvs.py.) -/
import Derived.Test.YtbijaloeilnjoaaGreatLvL
namespace Go.Proofs.YtbijaloeilnjoaaGreat
open Go.RowKit
set_option linter.unusedVariables false
set_option linter.unusedSimpArgs false

theorem results_tmp4 {fn : Func} {t u v x : Tmp} (h : fn.results = #[.tmp t, .tmp u, .tmp v, .tmp x]) (tmps : Array Value) (P : Program) (w : World) :
  (results fn tmps).run P w = .ok (.tuple #[tmps.getD t undef, tmps.getD u undef, tmps.getD v undef, tmps.getD x undef]) w := by
 simp [results, h]
theorem slOk_of_own {w : World} {base : Nat} {v : Value} {sl : List Int} (h : w.ownsRow base 36 1 v sl.length (sl.flatMap uCells)) : ∃ A c, v = .slice A sl.length c ∧ (∀ z, A = some z → base ≤ z.block) ∧ (sl = [] ∨ ∃ bs cur, SlB w A sl bs cur) := by
 rcases h.2 with ⟨rfl, h0⟩ | ⟨g, cap, cur, rfl, hb, hr, hn, _, hs, ht⟩
 ·have h1 : sl = [] := List.eq_nil_of_length_eq_zero h0
  exact ⟨none, 0, (by rw [h1]; rfl), (fun z hz => by cases hz), .inl h1⟩
 ·refine ⟨_, cap, rfl, (fun z hz => by injection hz with hz; subst hz; exact hb), .inr ⟨g, cur, rfl, hr, fun k x hk => ?_⟩⟩
  have hl := (List.getElem?_eq_some_iff.1 hk).1
  have h1 := flat_get uCells 1 (fun _ => rfl) sl k 0 (by omega)
  rw [Nat.mul_one, Nat.add_zero, hk] at h1
  have h2 : (cur.toList.take (sl.length * 1))[k]? = some (Value.int .u64 x) := by rw [ht, h1]; rfl
  rw [List.getElem?_take, if_pos (by omega)] at h2
  simpa using h2
theorem own_lt {w : World} {base : Nat} {e : TypeId} {size n c : Nat} {A : Option Addr} {xs : List Value} (h : w.ownsRow base e size (.slice A n c) n xs) : ∀ z, A = some z → z.block < w.heap.size := fun z hz => by
 rcases h.2 with ⟨h1, _⟩ | ⟨g, cap, cur, h1, _, hr, _⟩
 ·injection h1 with h1; rw [hz] at h1; cases h1
 ·injection h1 with h1
  rw [hz] at h1
  injection h1 with h1
  subst h1
  exact lt_of_heap hr
theorem u_one (l : List Int) : ∀ v ∈ l.flatMap uCells, v.oneCell' = true := by
 intro v hv
 obtain ⟨x, _, hx⟩ := List.mem_flatMap.1 hv
 simp at hx
 subst hx
 rfl
abbrev foA (a b c : Int) : Array Value := #[.int .u8 a, .int .i64 b, .int .i64 c]
theorem fo3_one (a b c : Int) : (#[Value.int .u8 a, .int .i64 b, .int .i64 c].all (·.oneCell')) = true := by simp [Value.oneCell']
theorem infoFo : (Tryz.prog.info? 56).map (·.size) = some 3 := by kernel_rfl
/-- what an op of the finalizers does -/
theorem kAll_any (g c : Nat) (A : Option Addr) (sl : List Int) (o : Fo) (w : World) (ok : FoOk o) (hn : sl.length ≤ 6) (hg : Sta w g A sl.length c none 0 0 false 0) (hs : SlOk w g A sl) :
  (o.op = 0 → Calls Tryz.prog 153 #[.pointer (some ⟨g, 0, none⟩), foV o] w fun r w' => r = .returned (.tuple #[]) ∧ KPost w w' g A c sl o) ∧
  (o.op = 1 → Calls Tryz.prog 154 #[.pointer (some ⟨g, 0, none⟩), foV o] w fun r w' => r = .returned (.tuple #[]) ∧ KPost w w' g A c sl o) ∧
  (o.op = 2 → Calls Tryz.prog 156 #[.pointer (some ⟨g, 0, none⟩), foV o] w fun r w' => r = .returned (.tuple #[]) ∧ KPost w w' g A c sl o) ∧
  (o.op = 3 → Calls Tryz.prog 157 #[.pointer (some ⟨g, 0, none⟩), foV o] w fun r w' => r = .returned (.tuple #[]) ∧ KPost w w' g A c sl o) ∧
  (o.op = 4 → Calls Tryz.prog 158 #[.pointer (some ⟨g, 0, none⟩), foV o] w fun r w' => r = .returned (.tuple #[]) ∧ KPost w w' g A c sl o) := by
 obtain ⟨op, a, b⟩ := o
 obtain ⟨_, ⟨ha0, ha1⟩, ⟨hb0, hb1⟩, hz1, hz2⟩ := ok
 dsimp only at *
 obtain ⟨a, rfl⟩ := Int.eq_ofNat_of_zero_le ha0
 obtain ⟨b, rfl⟩ := Int.eq_ofNat_of_zero_le hb0
 refine ⟨?_, ?_, ?_, ?_, ?_⟩
 ·rintro rfl
  obtain rfl : b = 0 := by have := hz1 (.inl rfl); omega
  exact k1_any g c A sl w a (by omega) hg hs
 ·rintro rfl
  obtain rfl : b = 0 := by have := hz1 (.inr rfl); omega
  exact k2_any g c A sl w a (by omega) hn hg hs
 ·rintro rfl
  exact k3_any g c A sl w a b (by omega) (by omega) hn hg hs
 ·rintro rfl
  exact k4_any g c A sl w a b (by omega) (by omega) hn hg hs
 ·rintro rfl
  obtain ⟨h1, h2⟩ := hz2 rfl
  obtain rfl : a = 0 := by omega
  obtain rfl : b = 0 := by omega
  exact k5_any g c A sl w hg hs
set_option maxRecDepth 100000 in
set_option maxHeartbeats 4000000 in
theorem finStep_any (A : Option Addr) (c : Nat) (ops : List Fo) (k : Nat) (B : Option Addr) (cB : Nat) (sl : List Int) (w : World) (o : Fo) (ho : Cells w A (ops.flatMap foCells)) (hl : ops.length ≤ 8) (hk : ops[k]? = some o) (ok : FoOk o) (hs : Cells w B (sl.flatMap uCells)) (hn : sl.length ≤ 6) :
  Calls Tryz.prog 131 #[.slice A ops.length c, .int .i64 k, .slice B sl.length cB] w fun r w' => ∃ A2 c2 A3 c3, r = .returned (.tuple #[.int .i64 (finN o k sl : Nat), .slice A2 sl.length c2, .slice A3 (finS o).length c3, .bool (finH o)]) ∧ Cells w' A2 ((finW o sl).flatMap uCells) ∧ Cells w' A3 ((finS o).flatMap nCells) ∧ (∀ z, A2 = some z → w.heap.size ≤ z.block) ∧ (∀ z, A3 = some z → w.heap.size ≤ z.block) ∧ Below w.heap.size w w' := by
 obtain ⟨i0, hi0, hz0, hz1, hz2⟩ := info_parts infoU64
 have hkl := (List.getElem?_eq_some_iff.1 hk).1
 have klI : (k : Int) < (ops.length : Int) := by omega
 have k0I : (0 : Int) ≤ (k : Int) := by omega
 have opI : (ops.length : Int) ≤ 8 := by omega
 have HKI : Hid (inB (k : Int) 0 ((ops.length : Int) - 1) = true) := Lib.hid (decide_eq_true (by omega))
 obtain ⟨b, off, rfl, hbl, hc⟩ := fo_at ho (by omega)
 obtain ⟨e0, e1, e2⟩ := hc k o hk
 have HE := Lib.hid (And.intro e0 (And.intro e1 e2))
 have Hbl := Lib.hid hbl
 have HN := Lib.hid hn
 have HOk := Lib.hid ok
 have HKN : Hid ((k : Int) + 1 + finK o sl = ((finN o k sl : Nat) : Int) ∧ 0 ≤ finK o sl ∧ finK o sl ≤ 7) := Lib.hid (by
  have := ok.b
  unfold finK finN
  by_cases h : o.op = 3 ∧ sl[o.a.toNat]? = some 0
  ·rw [if_pos h, if_pos h]; omega
  ·rw [if_neg h, if_neg h]; omega)
 have hs' := hs
 clear ho hk hc e0 e1 e2 hbl hkl hl hn
 go_enter Tryz.func131, Tryz.ntmps131
 go_upto_region 2 with (at_builtin; refine wpList_append_any _ rfl _ _ _ rfl w.heap.size 36 i0 _ 1 8 Tryz.underlying71 hi0 hz0 hz1 hz2 rfl (by omega) (.slice (some ⟨w.heap.size, 0, none⟩) 0 0) 0 [] rfl (World.ownsRow_lit (e := 36) _ _ 0 (Nat.le_refl _) (by simp [maxLen]) rfl) B sl.length cB (sl.flatMap uCells) rfl (flat_length uCells 1 (fun _ => rfl) sl) (Cells.alloc hs' _) (u_one sl) (by have := HN.out; simp only [maxLen]; omega) (by have := HN.out; omega) (by simp) ?_; intro v1 w1 hown hg hat; rw [List.nil_append, Nat.zero_add] at hown; have HB0 := Lib.hid (show Below w.heap.size w w1 from ((Below.refl _ _).alloc (Nat.le_refl _) _).grown hg (by simp) (by simp [Value.ownBlock])); obtain ⟨A1, c1, rfl, hfar, hsl⟩ := slOk_of_own hown; have hup := own_lt hown; clear hown hg hat)
 refine one_row w1 _ _ ?_
 intro w2 hr hb
 obtain ⟨g, Hg⟩ : ∃ x, x = w1.heap.size := ⟨_, rfl⟩
 have HSl : Hid (SlOk w2 g A1 sl) := Lib.hid (hsl.imp id fun ⟨bs, cur, h⟩ => ⟨bs, cur, ⟨h.a, row_below h.row hb, h.at_⟩, by have := lt_of_heap h.row; omega⟩)
 rw [← Hg] at hr ⊢
 have HG : Hid (Sta w2 g A1 sl.length c1 none 0 0 false 0) := Lib.hid hr
 have Hgw : Hid (w.heap.size ≤ g) := Lib.hid (by rw [Hg]; exact HB0.out.size)
 have HF := Lib.hid hfar
 have HB := Lib.hid (below_only HB0.out hb)
 have HFu : Hid (∀ z, A1 = some z → z.block < w2.heap.size) := Lib.hid (fun z hz => by
  have h1 := hup z hz
  have h2 := hb.size
  omega)
 clear hr hb hfar hsl HB0 Hg hs' hs hup
 go_wp2_with fail
 refine (within_any _ _ _ _).mono ?_
 rintro r w3 ⟨rfl, rfl⟩
 rw [HKI.out]
 go_upto_region 4 with fail
 obtain ⟨ob, oa, oq⟩ := o
 obtain ⟨e0, e1, e2⟩ := HE.out
 dsimp only at e0 e1 e2
 have HC : Hid (w3.cell? ⟨b, off + k * 3, none⟩ = some (.int .u8 ob) ∧ w3.cell? ⟨b, off + k * 3 + 1, none⟩ = some (.int .i64 oa) ∧ w3.cell? ⟨b, off + k * 3 + 2, none⟩ = some (.int .i64 oq) ∧ b < w3.heap.size) := Lib.hid ⟨(HB.out.cell (p := ⟨b, off + k * 3, none⟩) Hbl.out).trans e0, (HB.out.cell (p := ⟨b, off + k * 3 + 1, none⟩) Hbl.out).trans e1, (HB.out.cell (p := ⟨b, off + k * 3 + 2, none⟩) Hbl.out).trans e2, Nat.lt_of_lt_of_le Hbl.out HB.out.size⟩
 clear e0 e1 e2 HE
 try simp only [Act.put]
 go_cut [11, 12] from 29 to 33 (fun va vb wx => ∃ gO gK, va = .pointer (some ⟨gO, 0, none⟩) ∧ vb = .pointer (some ⟨gK, 0, none⟩) ∧ w3.heap.size ≤ gO ∧ w3.heap.size ≤ gK ∧ wx.heap[gO]? = some (.cells (foA ob oa oq) 56 (0, 0)) ∧ wx.heap[gK]? = some (.cells kdArr 202 (0, 0)) ∧ Below w3.heap.size w3 wx)
 case first =>
  as_aux_lemma =>
   have hC3 := HC.out.2.2.2
   refine wp_region_held_drew (S := fun W => W.cell? ⟨b, off + k * 3, none⟩ = some (.int .u8 ob) ∧ W.cell? ⟨b, off + k * 3 + 1, none⟩ = some (.int .i64 oa) ∧ W.cell? ⟨b, off + k * 3 + 2, none⟩ = some (.int .i64 oq) ∧ b < W.heap.size) (by kernel_rfl) (show w3.drew.cell? _ = _ ∧ w3.drew.cell? _ = _ ∧ w3.drew.cell? _ = _ ∧ b < w3.drew.heap.size from HC.out) ?_
   intro hS
   have hB0 : Below w3.heap.size w3 w3.drew := Below.drew (Below.refl _ _)
   generalize w3.drew = y0 at hS hB0 ⊢
   refine tk (i := 0) (v := ?v0x1) (some 29) rfl rfl (Or.inl ⟨by kernel_rfl, ?h0x1⟩) ?r0x1
   case h0x1 => (intro w' hSw; obtain ⟨c0, c1', c2', zb⟩ := hSw; go_simp; first | done | (with_reducible rfl))
   try simp only [zA, zB, zC, zD, zE]
   refine tk (i := 1) (v := ?v1x2) (some 30) rfl rfl (Or.inl ⟨by kernel_rfl, ?h1x2⟩) ?r1x2
   case h1x2 => (intro w' hSw; obtain ⟨c0, c1', c2', zb⟩ := hSw; go_simp; first | done | (with_reducible rfl))
   try simp only [zA, zB, zC, zD, zE]
   refine tk (i := 2) (v := ?v2x3) (some 31) rfl rfl (Or.inl ⟨by kernel_rfl, ?h2x3⟩) ?r2x3
   case h2x3 => (intro w' hSw; obtain ⟨c0, c1', c2', zb⟩ := hSw; go_simp; first | done | (with_reducible rfl))
   try simp only [zA, zB, zC, zD, zE]
   refine tk (i := 3) (v := ?v3x4) (some 32) rfl rfl (Or.inl ⟨by kernel_rfl, ?h3x4⟩) ?r3x4
   case h3x4 => (intro w' hSw; obtain ⟨c0, c1', c2', zb⟩ := hSw; go_simp; first | done | (with_reducible rfl))
   try simp only [zA, zB, zC, zD, zE]
   refine wpAnyH_ready (rs := [4, 5, 6]) (by kernel_rfl) (by simp) ?_
   refine AllReadyH.cons rfl (fun K hK => ?_) (AllReadyH.cons rfl (fun K hK => ?_) (AllReadyH.cons rfl (fun K hK => ?_) AllReadyH.nil))
   ·skip
    go_simp
    refine (kinds_any _).mono ?_
    rintro e' yC ⟨rfl, hb⟩
    go_simp
    replace hB0 := below_only hB0 hb
    refine hK.out _ _ (⟨(hb.cell (p := ⟨b, off + k * 3, none⟩) hS.2.2.2).trans hS.1, (hb.cell (p := ⟨b, off + k * 3 + 1, none⟩) hS.2.2.2).trans hS.2.1, (hb.cell (p := ⟨b, off + k * 3 + 2, none⟩) hS.2.2.2).trans hS.2.2.1, Nat.lt_of_lt_of_le hS.2.2.2 hb.size⟩) (fun hS => ?_)
    clear hK K
    try simp only [zA, zB, zC, zD, zE]
    clear hb
    refine wpAnyH_ready (rs := [5, 6]) (by kernel_rfl) (by simp) ?_
    refine AllReadyH.cons rfl (fun K hK => ?_) (AllReadyH.cons rfl (fun K hK => ?_) AllReadyH.nil)
    ·skip
     go_simp
     refine k_alloc (fun yA hO hb => ?_)
     obtain ⟨gO, HgO⟩ : ∃ x, x = yC.heap.size := ⟨_, rfl⟩
     have hgeO : w3.heap.size ≤ gO := by rw [HgO]; exact hB0.size
     replace hB0 := below_only hB0 hb
     rw [← HgO] at hO ⊢
     clear HgO
     refine hK.out _ _ (⟨(hb.cell (p := ⟨b, off + k * 3, none⟩) hS.2.2.2).trans hS.1, (hb.cell (p := ⟨b, off + k * 3 + 1, none⟩) hS.2.2.2).trans hS.2.1, (hb.cell (p := ⟨b, off + k * 3 + 2, none⟩) hS.2.2.2).trans hS.2.2.1, Nat.lt_of_lt_of_le hS.2.2.2 hb.size⟩) (fun hS => ?_)
     clear hK K
     try simp only [zA, zB, zC, zD, zE]
     clear hb
     refine wpAnyH_ready (rs := [6]) (by kernel_rfl) (by simp) ?_
     refine AllReadyH.cons rfl (fun K hK => ?_) AllReadyH.nil
     go_simp
     refine k_alloc (fun yB hKd hb => ?_)
     obtain ⟨gK, HgK⟩ : ∃ x, x = yA.heap.size := ⟨_, rfl⟩
     have hgeK : w3.heap.size ≤ gK := by rw [HgK]; exact hB0.size
     have hne : gO ≠ gK := by have := lt_of_heap hO; omega
     replace hB0 := below_only hB0 hb
     replace hO := row_below hO hb
     rw [← HgK] at hKd ⊢
     clear HgK
     refine hK.out _ _ (⟨(hb.cell (p := ⟨b, off + k * 3, none⟩) hS.2.2.2).trans hS.1, (hb.cell (p := ⟨b, off + k * 3 + 1, none⟩) hS.2.2.2).trans hS.2.1, (hb.cell (p := ⟨b, off + k * 3 + 2, none⟩) hS.2.2.2).trans hS.2.2.1, Nat.lt_of_lt_of_le hS.2.2.2 hb.size⟩) (fun hS => ?_)
     clear hK K
     try simp only [zA, zB, zC, zD, zE]
     clear hb
     refine wpAnyH_ready (rs := [7]) (by kernel_rfl) (by simp) ?_
     refine AllReadyH.cons rfl (fun K hK => ?_) AllReadyH.nil
     refine step_store_row none rfl rfl 56 (.tmp 11) (.tmp 32) rfl gO (foA ob oa oq) rfl rfl 56 _ hO infoFo rfl (fo3_one _ _ _) ?_
     have hw : (yB.setRow gO (foA ob oa oq)).heap[gO]? = some (.cells (foA ob oa oq) 56 (0, 0)) := setRow_heap _ _ _ _ _ _ hO
     have hbw : Below w3.heap.size w3 (yB.setRow gO (foA ob oa oq)) := below_setRow hB0 hgeO _
     have hk := (setRow_other yB gO gK (foA ob oa oq) (fun e => hne e.symm)).trans hKd
     have hbb : b ≠ gO := by have h1 := hC3; omega
     have hs0 := fun (i : Nat) => (World.cell?_of_block (a := ⟨b, i, none⟩) (setRow_other yB gO b (foA ob oa oq) hbb))
     have hsz : b < (yB.setRow gO (foA ob oa oq)).heap.size := Nat.lt_of_lt_of_le hC3 hbw.size
     generalize yB.setRow gO (foA ob oa oq) = yD at hw hbw hs0 hsz hk ⊢
     replace hO := hw
     replace hB0 := hbw
     replace hKd := hk
     clear hk
     refine hK.out _ _ (⟨(hs0 _).trans hS.1, (hs0 _).trans hS.2.1, (hs0 _).trans hS.2.2.1, hsz⟩) (fun hS => ?_)
     clear hK K
     try simp only [zA, zB, zC, zD, zE]
     clear hw hbw hs0 hsz hbb
     refine wpAnyH_ready (rs := [8]) (by kernel_rfl) (by simp) ?_
     refine AllReadyH.cons rfl (fun K hK => ?_) AllReadyH.nil
     refine step_store_row none rfl rfl 202 (.tmp 12) (.tmp 33) rfl gK kdArr rfl rfl 202 _ hKd infoKds rfl (by simp [Value.oneCell']) ?_
     have hw : (yD.setRow gK kdArr).heap[gK]? = some (.cells kdArr 202 (0, 0)) := setRow_heap _ _ _ _ _ _ hKd
     have hbw : Below w3.heap.size w3 (yD.setRow gK kdArr) := below_setRow hB0 hgeK _
     have hk := (setRow_other yD gK gO kdArr hne).trans hO
     have hbb : b ≠ gK := by have h1 := hC3; omega
     have hs0 := fun (i : Nat) => (World.cell?_of_block (a := ⟨b, i, none⟩) (setRow_other yD gK b kdArr hbb))
     have hsz : b < (yD.setRow gK kdArr).heap.size := Nat.lt_of_lt_of_le hC3 hbw.size
     generalize yD.setRow gK kdArr = yE at hw hbw hs0 hsz hk ⊢
     replace hKd := hw
     replace hB0 := hbw
     replace hO := hk
     clear hk
     refine hK.out _ _ (⟨(hs0 _).trans hS.1, (hs0 _).trans hS.2.1, (hs0 _).trans hS.2.2.1, hsz⟩) (fun hS => ?_)
     clear hK K
     try simp only [zA, zB, zC, zD, zE]
     clear hw hbw hs0 hsz hbb
     refine wpAnyH_done (by kernel_rfl) ?_ _
     go_wp2_with fail
     go_meet
     exact ⟨gO, gK, rfl, rfl, hgeO, hgeK, hO, hKd, hB0⟩
    ·skip
     go_simp
     refine k_alloc (fun yB hKd hb => ?_)
     obtain ⟨gK, HgK⟩ : ∃ x, x = yC.heap.size := ⟨_, rfl⟩
     have hgeK : w3.heap.size ≤ gK := by rw [HgK]; exact hB0.size
     replace hB0 := below_only hB0 hb
     rw [← HgK] at hKd ⊢
     clear HgK
     refine hK.out _ _ (⟨(hb.cell (p := ⟨b, off + k * 3, none⟩) hS.2.2.2).trans hS.1, (hb.cell (p := ⟨b, off + k * 3 + 1, none⟩) hS.2.2.2).trans hS.2.1, (hb.cell (p := ⟨b, off + k * 3 + 2, none⟩) hS.2.2.2).trans hS.2.2.1, Nat.lt_of_lt_of_le hS.2.2.2 hb.size⟩) (fun hS => ?_)
     clear hK K
     try simp only [zA, zB, zC, zD, zE]
     clear hb
     refine wpAnyH_ready (rs := [5]) (by kernel_rfl) (by simp) ?_
     refine AllReadyH.cons rfl (fun K hK => ?_) AllReadyH.nil
     go_simp
     refine k_alloc (fun yA hO hb => ?_)
     obtain ⟨gO, HgO⟩ : ∃ x, x = yB.heap.size := ⟨_, rfl⟩
     have hgeO : w3.heap.size ≤ gO := by rw [HgO]; exact hB0.size
     have hne : gO ≠ gK := by have := lt_of_heap hKd; omega
     replace hB0 := below_only hB0 hb
     replace hKd := row_below hKd hb
     rw [← HgO] at hO ⊢
     clear HgO
     refine hK.out _ _ (⟨(hb.cell (p := ⟨b, off + k * 3, none⟩) hS.2.2.2).trans hS.1, (hb.cell (p := ⟨b, off + k * 3 + 1, none⟩) hS.2.2.2).trans hS.2.1, (hb.cell (p := ⟨b, off + k * 3 + 2, none⟩) hS.2.2.2).trans hS.2.2.1, Nat.lt_of_lt_of_le hS.2.2.2 hb.size⟩) (fun hS => ?_)
     clear hK K
     try simp only [zA, zB, zC, zD, zE]
     clear hb
     refine wpAnyH_ready (rs := [7]) (by kernel_rfl) (by simp) ?_
     refine AllReadyH.cons rfl (fun K hK => ?_) AllReadyH.nil
     refine step_store_row none rfl rfl 56 (.tmp 11) (.tmp 32) rfl gO (foA ob oa oq) rfl rfl 56 _ hO infoFo rfl (fo3_one _ _ _) ?_
     have hw : (yA.setRow gO (foA ob oa oq)).heap[gO]? = some (.cells (foA ob oa oq) 56 (0, 0)) := setRow_heap _ _ _ _ _ _ hO
     have hbw : Below w3.heap.size w3 (yA.setRow gO (foA ob oa oq)) := below_setRow hB0 hgeO _
     have hk := (setRow_other yA gO gK (foA ob oa oq) (fun e => hne e.symm)).trans hKd
     have hbb : b ≠ gO := by have h1 := hC3; omega
     have hs0 := fun (i : Nat) => (World.cell?_of_block (a := ⟨b, i, none⟩) (setRow_other yA gO b (foA ob oa oq) hbb))
     have hsz : b < (yA.setRow gO (foA ob oa oq)).heap.size := Nat.lt_of_lt_of_le hC3 hbw.size
     generalize yA.setRow gO (foA ob oa oq) = yD at hw hbw hs0 hsz hk ⊢
     replace hO := hw
     replace hB0 := hbw
     replace hKd := hk
     clear hk
     refine hK.out _ _ (⟨(hs0 _).trans hS.1, (hs0 _).trans hS.2.1, (hs0 _).trans hS.2.2.1, hsz⟩) (fun hS => ?_)
     clear hK K
     try simp only [zA, zB, zC, zD, zE]
     clear hw hbw hs0 hsz hbb
     refine wpAnyH_ready (rs := [8]) (by kernel_rfl) (by simp) ?_
     refine AllReadyH.cons rfl (fun K hK => ?_) AllReadyH.nil
     refine step_store_row none rfl rfl 202 (.tmp 12) (.tmp 33) rfl gK kdArr rfl rfl 202 _ hKd infoKds rfl (by simp [Value.oneCell']) ?_
     have hw : (yD.setRow gK kdArr).heap[gK]? = some (.cells kdArr 202 (0, 0)) := setRow_heap _ _ _ _ _ _ hKd
     have hbw : Below w3.heap.size w3 (yD.setRow gK kdArr) := below_setRow hB0 hgeK _
     have hk := (setRow_other yD gK gO kdArr hne).trans hO
     have hbb : b ≠ gK := by have h1 := hC3; omega
     have hs0 := fun (i : Nat) => (World.cell?_of_block (a := ⟨b, i, none⟩) (setRow_other yD gK b kdArr hbb))
     have hsz : b < (yD.setRow gK kdArr).heap.size := Nat.lt_of_lt_of_le hC3 hbw.size
     generalize yD.setRow gK kdArr = yE at hw hbw hs0 hsz hk ⊢
     replace hKd := hw
     replace hB0 := hbw
     replace hO := hk
     clear hk
     refine hK.out _ _ (⟨(hs0 _).trans hS.1, (hs0 _).trans hS.2.1, (hs0 _).trans hS.2.2.1, hsz⟩) (fun hS => ?_)
     clear hK K
     try simp only [zA, zB, zC, zD, zE]
     clear hw hbw hs0 hsz hbb
     refine wpAnyH_done (by kernel_rfl) ?_ _
     go_wp2_with fail
     go_meet
     exact ⟨gO, gK, rfl, rfl, hgeO, hgeK, hO, hKd, hB0⟩
   ·skip
    go_simp
    refine k_alloc (fun yA hO hb => ?_)
    obtain ⟨gO, HgO⟩ : ∃ x, x = y0.heap.size := ⟨_, rfl⟩
    have hgeO : w3.heap.size ≤ gO := by rw [HgO]; exact hB0.size
    replace hB0 := below_only hB0 hb
    rw [← HgO] at hO ⊢
    clear HgO
    refine hK.out _ _ (⟨(hb.cell (p := ⟨b, off + k * 3, none⟩) hS.2.2.2).trans hS.1, (hb.cell (p := ⟨b, off + k * 3 + 1, none⟩) hS.2.2.2).trans hS.2.1, (hb.cell (p := ⟨b, off + k * 3 + 2, none⟩) hS.2.2.2).trans hS.2.2.1, Nat.lt_of_lt_of_le hS.2.2.2 hb.size⟩) (fun hS => ?_)
    clear hK K
    try simp only [zA, zB, zC, zD, zE]
    clear hb
    refine wpAnyH_ready (rs := [4, 6]) (by kernel_rfl) (by simp) ?_
    refine AllReadyH.cons rfl (fun K hK => ?_) (AllReadyH.cons rfl (fun K hK => ?_) AllReadyH.nil)
    ·skip
     go_simp
     refine (kinds_any _).mono ?_
     rintro e' yC ⟨rfl, hb⟩
     go_simp
     replace hB0 := below_only hB0 hb
     replace hO := row_below hO hb
     refine hK.out _ _ (⟨(hb.cell (p := ⟨b, off + k * 3, none⟩) hS.2.2.2).trans hS.1, (hb.cell (p := ⟨b, off + k * 3 + 1, none⟩) hS.2.2.2).trans hS.2.1, (hb.cell (p := ⟨b, off + k * 3 + 2, none⟩) hS.2.2.2).trans hS.2.2.1, Nat.lt_of_lt_of_le hS.2.2.2 hb.size⟩) (fun hS => ?_)
     clear hK K
     try simp only [zA, zB, zC, zD, zE]
     clear hb
     refine wpAnyH_ready (rs := [6]) (by kernel_rfl) (by simp) ?_
     refine AllReadyH.cons rfl (fun K hK => ?_) AllReadyH.nil
     go_simp
     refine k_alloc (fun yB hKd hb => ?_)
     obtain ⟨gK, HgK⟩ : ∃ x, x = yC.heap.size := ⟨_, rfl⟩
     have hgeK : w3.heap.size ≤ gK := by rw [HgK]; exact hB0.size
     have hne : gO ≠ gK := by have := lt_of_heap hO; omega
     replace hB0 := below_only hB0 hb
     replace hO := row_below hO hb
     rw [← HgK] at hKd ⊢
     clear HgK
     refine hK.out _ _ (⟨(hb.cell (p := ⟨b, off + k * 3, none⟩) hS.2.2.2).trans hS.1, (hb.cell (p := ⟨b, off + k * 3 + 1, none⟩) hS.2.2.2).trans hS.2.1, (hb.cell (p := ⟨b, off + k * 3 + 2, none⟩) hS.2.2.2).trans hS.2.2.1, Nat.lt_of_lt_of_le hS.2.2.2 hb.size⟩) (fun hS => ?_)
     clear hK K
     try simp only [zA, zB, zC, zD, zE]
     clear hb
     refine wpAnyH_ready (rs := [7]) (by kernel_rfl) (by simp) ?_
     refine AllReadyH.cons rfl (fun K hK => ?_) AllReadyH.nil
     refine step_store_row none rfl rfl 56 (.tmp 11) (.tmp 32) rfl gO (foA ob oa oq) rfl rfl 56 _ hO infoFo rfl (fo3_one _ _ _) ?_
     have hw : (yB.setRow gO (foA ob oa oq)).heap[gO]? = some (.cells (foA ob oa oq) 56 (0, 0)) := setRow_heap _ _ _ _ _ _ hO
     have hbw : Below w3.heap.size w3 (yB.setRow gO (foA ob oa oq)) := below_setRow hB0 hgeO _
     have hk := (setRow_other yB gO gK (foA ob oa oq) (fun e => hne e.symm)).trans hKd
     have hbb : b ≠ gO := by have h1 := hC3; omega
     have hs0 := fun (i : Nat) => (World.cell?_of_block (a := ⟨b, i, none⟩) (setRow_other yB gO b (foA ob oa oq) hbb))
     have hsz : b < (yB.setRow gO (foA ob oa oq)).heap.size := Nat.lt_of_lt_of_le hC3 hbw.size
     generalize yB.setRow gO (foA ob oa oq) = yD at hw hbw hs0 hsz hk ⊢
     replace hO := hw
     replace hB0 := hbw
     replace hKd := hk
     clear hk
     refine hK.out _ _ (⟨(hs0 _).trans hS.1, (hs0 _).trans hS.2.1, (hs0 _).trans hS.2.2.1, hsz⟩) (fun hS => ?_)
     clear hK K
     try simp only [zA, zB, zC, zD, zE]
     clear hw hbw hs0 hsz hbb
     refine wpAnyH_ready (rs := [8]) (by kernel_rfl) (by simp) ?_
     refine AllReadyH.cons rfl (fun K hK => ?_) AllReadyH.nil
     refine step_store_row none rfl rfl 202 (.tmp 12) (.tmp 33) rfl gK kdArr rfl rfl 202 _ hKd infoKds rfl (by simp [Value.oneCell']) ?_
     have hw : (yD.setRow gK kdArr).heap[gK]? = some (.cells kdArr 202 (0, 0)) := setRow_heap _ _ _ _ _ _ hKd
     have hbw : Below w3.heap.size w3 (yD.setRow gK kdArr) := below_setRow hB0 hgeK _
     have hk := (setRow_other yD gK gO kdArr hne).trans hO
     have hbb : b ≠ gK := by have h1 := hC3; omega
     have hs0 := fun (i : Nat) => (World.cell?_of_block (a := ⟨b, i, none⟩) (setRow_other yD gK b kdArr hbb))
     have hsz : b < (yD.setRow gK kdArr).heap.size := Nat.lt_of_lt_of_le hC3 hbw.size
     generalize yD.setRow gK kdArr = yE at hw hbw hs0 hsz hk ⊢
     replace hKd := hw
     replace hB0 := hbw
     replace hO := hk
     clear hk
     refine hK.out _ _ (⟨(hs0 _).trans hS.1, (hs0 _).trans hS.2.1, (hs0 _).trans hS.2.2.1, hsz⟩) (fun hS => ?_)
     clear hK K
     try simp only [zA, zB, zC, zD, zE]
     clear hw hbw hs0 hsz hbb
     refine wpAnyH_done (by kernel_rfl) ?_ _
     go_wp2_with fail
     go_meet
     exact ⟨gO, gK, rfl, rfl, hgeO, hgeK, hO, hKd, hB0⟩
    ·skip
     go_simp
     refine k_alloc (fun yB hKd hb => ?_)
     obtain ⟨gK, HgK⟩ : ∃ x, x = yA.heap.size := ⟨_, rfl⟩
     have hgeK : w3.heap.size ≤ gK := by rw [HgK]; exact hB0.size
     have hne : gO ≠ gK := by have := lt_of_heap hO; omega
     replace hB0 := below_only hB0 hb
     replace hO := row_below hO hb
     rw [← HgK] at hKd ⊢
     clear HgK
     refine hK.out _ _ (⟨(hb.cell (p := ⟨b, off + k * 3, none⟩) hS.2.2.2).trans hS.1, (hb.cell (p := ⟨b, off + k * 3 + 1, none⟩) hS.2.2.2).trans hS.2.1, (hb.cell (p := ⟨b, off + k * 3 + 2, none⟩) hS.2.2.2).trans hS.2.2.1, Nat.lt_of_lt_of_le hS.2.2.2 hb.size⟩) (fun hS => ?_)
     clear hK K
     try simp only [zA, zB, zC, zD, zE]
     clear hb
     refine wpAnyH_ready (rs := [4]) (by kernel_rfl) (by simp) ?_
     refine AllReadyH.cons rfl (fun K hK => ?_) AllReadyH.nil
     go_simp
     refine (kinds_any _).mono ?_
     rintro e' yC ⟨rfl, hb⟩
     go_simp
     replace hB0 := below_only hB0 hb
     replace hO := row_below hO hb
     replace hKd := row_below hKd hb
     refine hK.out _ _ (⟨(hb.cell (p := ⟨b, off + k * 3, none⟩) hS.2.2.2).trans hS.1, (hb.cell (p := ⟨b, off + k * 3 + 1, none⟩) hS.2.2.2).trans hS.2.1, (hb.cell (p := ⟨b, off + k * 3 + 2, none⟩) hS.2.2.2).trans hS.2.2.1, Nat.lt_of_lt_of_le hS.2.2.2 hb.size⟩) (fun hS => ?_)
     clear hK K
     try simp only [zA, zB, zC, zD, zE]
     clear hb
     refine wpAnyH_ready (rs := [7]) (by kernel_rfl) (by simp) ?_
     refine AllReadyH.cons rfl (fun K hK => ?_) AllReadyH.nil
     refine step_store_row none rfl rfl 56 (.tmp 11) (.tmp 32) rfl gO (foA ob oa oq) rfl rfl 56 _ hO infoFo rfl (fo3_one _ _ _) ?_
     have hw : (yC.setRow gO (foA ob oa oq)).heap[gO]? = some (.cells (foA ob oa oq) 56 (0, 0)) := setRow_heap _ _ _ _ _ _ hO
     have hbw : Below w3.heap.size w3 (yC.setRow gO (foA ob oa oq)) := below_setRow hB0 hgeO _
     have hk := (setRow_other yC gO gK (foA ob oa oq) (fun e => hne e.symm)).trans hKd
     have hbb : b ≠ gO := by have h1 := hC3; omega
     have hs0 := fun (i : Nat) => (World.cell?_of_block (a := ⟨b, i, none⟩) (setRow_other yC gO b (foA ob oa oq) hbb))
     have hsz : b < (yC.setRow gO (foA ob oa oq)).heap.size := Nat.lt_of_lt_of_le hC3 hbw.size
     generalize yC.setRow gO (foA ob oa oq) = yD at hw hbw hs0 hsz hk ⊢
     replace hO := hw
     replace hB0 := hbw
     replace hKd := hk
     clear hk
     refine hK.out _ _ (⟨(hs0 _).trans hS.1, (hs0 _).trans hS.2.1, (hs0 _).trans hS.2.2.1, hsz⟩) (fun hS => ?_)
     clear hK K
     try simp only [zA, zB, zC, zD, zE]
     clear hw hbw hs0 hsz hbb
     refine wpAnyH_ready (rs := [8]) (by kernel_rfl) (by simp) ?_
     refine AllReadyH.cons rfl (fun K hK => ?_) AllReadyH.nil
     refine step_store_row none rfl rfl 202 (.tmp 12) (.tmp 33) rfl gK kdArr rfl rfl 202 _ hKd infoKds rfl (by simp [Value.oneCell']) ?_
     have hw : (yD.setRow gK kdArr).heap[gK]? = some (.cells kdArr 202 (0, 0)) := setRow_heap _ _ _ _ _ _ hKd
     have hbw : Below w3.heap.size w3 (yD.setRow gK kdArr) := below_setRow hB0 hgeK _
     have hk := (setRow_other yD gK gO kdArr hne).trans hO
     have hbb : b ≠ gK := by have h1 := hC3; omega
     have hs0 := fun (i : Nat) => (World.cell?_of_block (a := ⟨b, i, none⟩) (setRow_other yD gK b kdArr hbb))
     have hsz : b < (yD.setRow gK kdArr).heap.size := Nat.lt_of_lt_of_le hC3 hbw.size
     generalize yD.setRow gK kdArr = yE at hw hbw hs0 hsz hk ⊢
     replace hKd := hw
     replace hB0 := hbw
     replace hO := hk
     clear hk
     refine hK.out _ _ (⟨(hs0 _).trans hS.1, (hs0 _).trans hS.2.1, (hs0 _).trans hS.2.2.1, hsz⟩) (fun hS => ?_)
     clear hK K
     try simp only [zA, zB, zC, zD, zE]
     clear hw hbw hs0 hsz hbb
     refine wpAnyH_done (by kernel_rfl) ?_ _
     go_wp2_with fail
     go_meet
     exact ⟨gO, gK, rfl, rfl, hgeO, hgeK, hO, hKd, hB0⟩
   ·skip
    go_simp
    refine k_alloc (fun yB hKd hb => ?_)
    obtain ⟨gK, HgK⟩ : ∃ x, x = y0.heap.size := ⟨_, rfl⟩
    have hgeK : w3.heap.size ≤ gK := by rw [HgK]; exact hB0.size
    replace hB0 := below_only hB0 hb
    rw [← HgK] at hKd ⊢
    clear HgK
    refine hK.out _ _ (⟨(hb.cell (p := ⟨b, off + k * 3, none⟩) hS.2.2.2).trans hS.1, (hb.cell (p := ⟨b, off + k * 3 + 1, none⟩) hS.2.2.2).trans hS.2.1, (hb.cell (p := ⟨b, off + k * 3 + 2, none⟩) hS.2.2.2).trans hS.2.2.1, Nat.lt_of_lt_of_le hS.2.2.2 hb.size⟩) (fun hS => ?_)
    clear hK K
    try simp only [zA, zB, zC, zD, zE]
    clear hb
    refine wpAnyH_ready (rs := [4, 5]) (by kernel_rfl) (by simp) ?_
    refine AllReadyH.cons rfl (fun K hK => ?_) (AllReadyH.cons rfl (fun K hK => ?_) AllReadyH.nil)
    ·skip
     go_simp
     refine (kinds_any _).mono ?_
     rintro e' yC ⟨rfl, hb⟩
     go_simp
     replace hB0 := below_only hB0 hb
     replace hKd := row_below hKd hb
     refine hK.out _ _ (⟨(hb.cell (p := ⟨b, off + k * 3, none⟩) hS.2.2.2).trans hS.1, (hb.cell (p := ⟨b, off + k * 3 + 1, none⟩) hS.2.2.2).trans hS.2.1, (hb.cell (p := ⟨b, off + k * 3 + 2, none⟩) hS.2.2.2).trans hS.2.2.1, Nat.lt_of_lt_of_le hS.2.2.2 hb.size⟩) (fun hS => ?_)
     clear hK K
     try simp only [zA, zB, zC, zD, zE]
     clear hb
     refine wpAnyH_ready (rs := [5]) (by kernel_rfl) (by simp) ?_
     refine AllReadyH.cons rfl (fun K hK => ?_) AllReadyH.nil
     go_simp
     refine k_alloc (fun yA hO hb => ?_)
     obtain ⟨gO, HgO⟩ : ∃ x, x = yC.heap.size := ⟨_, rfl⟩
     have hgeO : w3.heap.size ≤ gO := by rw [HgO]; exact hB0.size
     have hne : gO ≠ gK := by have := lt_of_heap hKd; omega
     replace hB0 := below_only hB0 hb
     replace hKd := row_below hKd hb
     rw [← HgO] at hO ⊢
     clear HgO
     refine hK.out _ _ (⟨(hb.cell (p := ⟨b, off + k * 3, none⟩) hS.2.2.2).trans hS.1, (hb.cell (p := ⟨b, off + k * 3 + 1, none⟩) hS.2.2.2).trans hS.2.1, (hb.cell (p := ⟨b, off + k * 3 + 2, none⟩) hS.2.2.2).trans hS.2.2.1, Nat.lt_of_lt_of_le hS.2.2.2 hb.size⟩) (fun hS => ?_)
     clear hK K
     try simp only [zA, zB, zC, zD, zE]
     clear hb
     refine wpAnyH_ready (rs := [7]) (by kernel_rfl) (by simp) ?_
     refine AllReadyH.cons rfl (fun K hK => ?_) AllReadyH.nil
     refine step_store_row none rfl rfl 56 (.tmp 11) (.tmp 32) rfl gO (foA ob oa oq) rfl rfl 56 _ hO infoFo rfl (fo3_one _ _ _) ?_
     have hw : (yA.setRow gO (foA ob oa oq)).heap[gO]? = some (.cells (foA ob oa oq) 56 (0, 0)) := setRow_heap _ _ _ _ _ _ hO
     have hbw : Below w3.heap.size w3 (yA.setRow gO (foA ob oa oq)) := below_setRow hB0 hgeO _
     have hk := (setRow_other yA gO gK (foA ob oa oq) (fun e => hne e.symm)).trans hKd
     have hbb : b ≠ gO := by have h1 := hC3; omega
     have hs0 := fun (i : Nat) => (World.cell?_of_block (a := ⟨b, i, none⟩) (setRow_other yA gO b (foA ob oa oq) hbb))
     have hsz : b < (yA.setRow gO (foA ob oa oq)).heap.size := Nat.lt_of_lt_of_le hC3 hbw.size
     generalize yA.setRow gO (foA ob oa oq) = yD at hw hbw hs0 hsz hk ⊢
     replace hO := hw
     replace hB0 := hbw
     replace hKd := hk
     clear hk
     refine hK.out _ _ (⟨(hs0 _).trans hS.1, (hs0 _).trans hS.2.1, (hs0 _).trans hS.2.2.1, hsz⟩) (fun hS => ?_)
     clear hK K
     try simp only [zA, zB, zC, zD, zE]
     clear hw hbw hs0 hsz hbb
     refine wpAnyH_ready (rs := [8]) (by kernel_rfl) (by simp) ?_
     refine AllReadyH.cons rfl (fun K hK => ?_) AllReadyH.nil
     refine step_store_row none rfl rfl 202 (.tmp 12) (.tmp 33) rfl gK kdArr rfl rfl 202 _ hKd infoKds rfl (by simp [Value.oneCell']) ?_
     have hw : (yD.setRow gK kdArr).heap[gK]? = some (.cells kdArr 202 (0, 0)) := setRow_heap _ _ _ _ _ _ hKd
     have hbw : Below w3.heap.size w3 (yD.setRow gK kdArr) := below_setRow hB0 hgeK _
     have hk := (setRow_other yD gK gO kdArr hne).trans hO
     have hbb : b ≠ gK := by have h1 := hC3; omega
     have hs0 := fun (i : Nat) => (World.cell?_of_block (a := ⟨b, i, none⟩) (setRow_other yD gK b kdArr hbb))
     have hsz : b < (yD.setRow gK kdArr).heap.size := Nat.lt_of_lt_of_le hC3 hbw.size
     generalize yD.setRow gK kdArr = yE at hw hbw hs0 hsz hk ⊢
     replace hKd := hw
     replace hB0 := hbw
     replace hO := hk
     clear hk
     refine hK.out _ _ (⟨(hs0 _).trans hS.1, (hs0 _).trans hS.2.1, (hs0 _).trans hS.2.2.1, hsz⟩) (fun hS => ?_)
     clear hK K
     try simp only [zA, zB, zC, zD, zE]
     clear hw hbw hs0 hsz hbb
     refine wpAnyH_done (by kernel_rfl) ?_ _
     go_wp2_with fail
     go_meet
     exact ⟨gO, gK, rfl, rfl, hgeO, hgeK, hO, hKd, hB0⟩
    ·skip
     go_simp
     refine k_alloc (fun yA hO hb => ?_)
     obtain ⟨gO, HgO⟩ : ∃ x, x = yB.heap.size := ⟨_, rfl⟩
     have hgeO : w3.heap.size ≤ gO := by rw [HgO]; exact hB0.size
     have hne : gO ≠ gK := by have := lt_of_heap hKd; omega
     replace hB0 := below_only hB0 hb
     replace hKd := row_below hKd hb
     rw [← HgO] at hO ⊢
     clear HgO
     refine hK.out _ _ (⟨(hb.cell (p := ⟨b, off + k * 3, none⟩) hS.2.2.2).trans hS.1, (hb.cell (p := ⟨b, off + k * 3 + 1, none⟩) hS.2.2.2).trans hS.2.1, (hb.cell (p := ⟨b, off + k * 3 + 2, none⟩) hS.2.2.2).trans hS.2.2.1, Nat.lt_of_lt_of_le hS.2.2.2 hb.size⟩) (fun hS => ?_)
     clear hK K
     try simp only [zA, zB, zC, zD, zE]
     clear hb
     refine wpAnyH_ready (rs := [4]) (by kernel_rfl) (by simp) ?_
     refine AllReadyH.cons rfl (fun K hK => ?_) AllReadyH.nil
     go_simp
     refine (kinds_any _).mono ?_
     rintro e' yC ⟨rfl, hb⟩
     go_simp
     replace hB0 := below_only hB0 hb
     replace hO := row_below hO hb
     replace hKd := row_below hKd hb
     refine hK.out _ _ (⟨(hb.cell (p := ⟨b, off + k * 3, none⟩) hS.2.2.2).trans hS.1, (hb.cell (p := ⟨b, off + k * 3 + 1, none⟩) hS.2.2.2).trans hS.2.1, (hb.cell (p := ⟨b, off + k * 3 + 2, none⟩) hS.2.2.2).trans hS.2.2.1, Nat.lt_of_lt_of_le hS.2.2.2 hb.size⟩) (fun hS => ?_)
     clear hK K
     try simp only [zA, zB, zC, zD, zE]
     clear hb
     refine wpAnyH_ready (rs := [7]) (by kernel_rfl) (by simp) ?_
     refine AllReadyH.cons rfl (fun K hK => ?_) AllReadyH.nil
     refine step_store_row none rfl rfl 56 (.tmp 11) (.tmp 32) rfl gO (foA ob oa oq) rfl rfl 56 _ hO infoFo rfl (fo3_one _ _ _) ?_
     have hw : (yC.setRow gO (foA ob oa oq)).heap[gO]? = some (.cells (foA ob oa oq) 56 (0, 0)) := setRow_heap _ _ _ _ _ _ hO
     have hbw : Below w3.heap.size w3 (yC.setRow gO (foA ob oa oq)) := below_setRow hB0 hgeO _
     have hk := (setRow_other yC gO gK (foA ob oa oq) (fun e => hne e.symm)).trans hKd
     have hbb : b ≠ gO := by have h1 := hC3; omega
     have hs0 := fun (i : Nat) => (World.cell?_of_block (a := ⟨b, i, none⟩) (setRow_other yC gO b (foA ob oa oq) hbb))
     have hsz : b < (yC.setRow gO (foA ob oa oq)).heap.size := Nat.lt_of_lt_of_le hC3 hbw.size
     generalize yC.setRow gO (foA ob oa oq) = yD at hw hbw hs0 hsz hk ⊢
     replace hO := hw
     replace hB0 := hbw
     replace hKd := hk
     clear hk
     refine hK.out _ _ (⟨(hs0 _).trans hS.1, (hs0 _).trans hS.2.1, (hs0 _).trans hS.2.2.1, hsz⟩) (fun hS => ?_)
     clear hK K
     try simp only [zA, zB, zC, zD, zE]
     clear hw hbw hs0 hsz hbb
     refine wpAnyH_ready (rs := [8]) (by kernel_rfl) (by simp) ?_
     refine AllReadyH.cons rfl (fun K hK => ?_) AllReadyH.nil
     refine step_store_row none rfl rfl 202 (.tmp 12) (.tmp 33) rfl gK kdArr rfl rfl 202 _ hKd infoKds rfl (by simp [Value.oneCell']) ?_
     have hw : (yD.setRow gK kdArr).heap[gK]? = some (.cells kdArr 202 (0, 0)) := setRow_heap _ _ _ _ _ _ hKd
     have hbw : Below w3.heap.size w3 (yD.setRow gK kdArr) := below_setRow hB0 hgeK _
     have hk := (setRow_other yD gK gO kdArr hne).trans hO
     have hbb : b ≠ gK := by have h1 := hC3; omega
     have hs0 := fun (i : Nat) => (World.cell?_of_block (a := ⟨b, i, none⟩) (setRow_other yD gK b kdArr hbb))
     have hsz : b < (yD.setRow gK kdArr).heap.size := Nat.lt_of_lt_of_le hC3 hbw.size
     generalize yD.setRow gK kdArr = yE at hw hbw hs0 hsz hk ⊢
     replace hKd := hw
     replace hB0 := hbw
     replace hO := hk
     clear hk
     refine hK.out _ _ (⟨(hs0 _).trans hS.1, (hs0 _).trans hS.2.1, (hs0 _).trans hS.2.2.1, hsz⟩) (fun hS => ?_)
     clear hK K
     try simp only [zA, zB, zC, zD, zE]
     clear hw hbw hs0 hsz hbb
     refine wpAnyH_done (by kernel_rfl) ?_ _
     go_wp2_with fail
     go_meet
     exact ⟨gO, gK, rfl, rfl, hgeO, hgeK, hO, hKd, hB0⟩
 case rest =>
  obtain ⟨gO, gK, rfl, rfl, hO, hK, hro, hrk, hb⟩ := hcut
  obtain ⟨w4, hwx⟩ : ∃ x, x = wc := ⟨_, rfl⟩
  subst hwx
  have HG4 : Hid (Sta w4 g A1 sl.length c1 none 0 0 false 0) := Lib.hid (row_below HG.out hb)
  have HSl4 := Lib.hid (HSl.out.below hb)
  have HgO : Hid (gO ≠ g ∧ gK ≠ g ∧ ∀ z, A1 = some z → sl ≠ [] → z.block ≠ gO ∧ z.block ≠ gK) := Lib.hid ⟨by have := lt_of_heap HG.out; omega, by have := lt_of_heap HG.out; omega, fun z hz h0 => by
   rcases HSl.out with h | ⟨bs, cur, h, _⟩
   ·exact absurd h h0
   ·have h1 := h.a
    rw [hz] at h1
    injection h1 with h1
    subst h1
    have := lt_of_heap h.row
    dsimp only
    omega⟩
  have HRO := Lib.hid hro
  have HRK := Lib.hid hrk
  have HB4 := Lib.hid (below_only HB.out hb)
  have HKA := fun (W : World) (h1 : Sta W g A1 sl.length c1 none 0 0 false 0) (h2 : SlOk W g A1 sl) => Lib.hid (kAll_any g c1 A1 sl ⟨ob, oa, oq⟩ W HOk.out HN.out h1 h2)
  have HNb : Hid (∀ j, j = gO ∨ j = gK → j ∉ abK g A1) := Lib.hid (fun j hj hm => by
   have hgl := lt_of_heap HG.out
   have h0 : w3.heap.size ≤ j := by rcases hj with rfl | rfl <;> assumption
   unfold abK at hm
   rcases List.mem_cons.1 hm with h | h
   ·omega
   ·cases hA : A1 with
    | none => rw [hA] at h; simp at h
    | some z =>
     rw [hA] at h
     simp at h
     have := HFu.out z hA
     omega)
  have HLo : Hid (∀ j, j ∈ abK g A1 → w.heap.size ≤ j) := Lib.hid (fun j hm => by
   unfold abK at hm
   rcases List.mem_cons.1 hm with h | h
   ·rw [h]; exact Hgw.out
   ·cases hA : A1 with
    | none => rw [hA] at h; simp at h
    | some z =>
     rw [hA] at h
     simp at h
     rw [h]; exact HF.out z hA)
  clear hO hK hro hrk hb HG HSl HB HC HgO
  have hob : ob = 0 ∨ ob = 1 ∨ ob = 2 ∨ ob = 3 ∨ ob = 4 := by have := HOk.out.op; dsimp only at this; omega
  obtain ⟨y0, y1, y2, _⟩ := box3 HRO.out
  have zo := lt_of_heap HRO.out
  rcases hob with rfl | rfl | rfl | rfl | rfl
  ·skip
   go_upto_region 6 with fail
   clear y0 y1 y2 zo
   refine wp_region_held_drew (S := fun W => W.heap[gO]? = some (.cells (foA 0 oa oq) 56 (0, 0)) ∧ W.heap[gK]? = some (.cells kdArr 202 (0, 0))) (by kernel_rfl) (show w4.drew.heap[gO]? = _ ∧ w4.drew.heap[gK]? = _ from ⟨HRO.out, HRK.out⟩) ?_
   intro hS
   have hK0 : Keep (abK g A1) w4 w4.drew := (Keep.refl _ _).drew
   have hG0 : Sta w4.drew g A1 sl.length c1 none 0 0 false 0 := HG4.out
   have hL0 : SlOk w4.drew g A1 sl := HSl4.out.below (Below.drew (Below.refl _ _))
   have hB0 : Below w.heap.size w w4.drew := below_drewN HB4.out 1
   generalize w4.drew = y0 at hS hK0 hG0 hL0 hB0 ⊢
   refine tk (i := 0) (v := ?v0x5) (some 38) rfl rfl (Or.inl ⟨by kernel_rfl, ?h0x5⟩) ?r0x5
   case h0x5 => (intro w' hSw; obtain ⟨s1, s2⟩ := hSw; obtain ⟨y0, y1, y2, _⟩ := box3 s1; have zo := lt_of_heap s1; have zk := lt_of_heap s2; have fk : w'.cell? ⟨gK, 2, none⟩ = some (.func (.func 153) #[] #[]) := (by rw [row_cell s2]; rfl); go_simp; first | done | (with_reducible rfl))
   try simp only [zA, zB, zC, zD, zE]
   refine tk (i := 1) (v := ?v1x6) (some 39) rfl rfl (Or.inl ⟨by kernel_rfl, ?h1x6⟩) ?r1x6
   case h1x6 => (intro w' hSw; obtain ⟨s1, s2⟩ := hSw; obtain ⟨y0, y1, y2, _⟩ := box3 s1; have zo := lt_of_heap s1; have zk := lt_of_heap s2; have fk : w'.cell? ⟨gK, 2, none⟩ = some (.func (.func 153) #[] #[]) := (by rw [row_cell s2]; rfl); go_simp; first | done | (with_reducible rfl))
   try simp only [zA, zB, zC, zD, zE]
   refine tk (i := 2) (v := ?v2x7) (some 40) rfl rfl (Or.inl ⟨by kernel_rfl, ?h2x7⟩) ?r2x7
   case h2x7 => (intro w' hSw; obtain ⟨s1, s2⟩ := hSw; obtain ⟨y0, y1, y2, _⟩ := box3 s1; have zo := lt_of_heap s1; have zk := lt_of_heap s2; have fk : w'.cell? ⟨gK, 2, none⟩ = some (.func (.func 153) #[] #[]) := (by rw [row_cell s2]; rfl); go_simp; first | done | (with_reducible rfl))
   try simp only [zA, zB, zC, zD, zE]
   refine tk (i := 3) (v := ?v3x8) (some 41) rfl rfl (Or.inl ⟨by kernel_rfl, ?h3x8⟩) ?r3x8
   case h3x8 => (intro w' hSw; obtain ⟨s1, s2⟩ := hSw; obtain ⟨y0, y1, y2, _⟩ := box3 s1; have zo := lt_of_heap s1; have zk := lt_of_heap s2; have fk : w'.cell? ⟨gK, 2, none⟩ = some (.func (.func 153) #[] #[]) := (by rw [row_cell s2]; rfl); go_simp; first | done | (with_reducible rfl))
   try simp only [zA, zB, zC, zD, zE]
   refine tk (i := 4) (v := ?v4x9) (some 42) rfl rfl (Or.inl ⟨by kernel_rfl, ?h4x9⟩) ?r4x9
   case h4x9 => (intro w' hSw; obtain ⟨s1, s2⟩ := hSw; obtain ⟨y0, y1, y2, _⟩ := box3 s1; have zo := lt_of_heap s1; have zk := lt_of_heap s2; have fk : w'.cell? ⟨gK, 2, none⟩ = some (.func (.func 153) #[] #[]) := (by rw [row_cell s2]; rfl); go_simp; first | done | (with_reducible rfl))
   try simp only [zA, zB, zC, zD, zE]
   refine tk (i := 5) (v := ?v5x10) (some 43) rfl rfl (Or.inl ⟨by kernel_rfl, ?h5x10⟩) ?r5x10
   case h5x10 => (intro w' hSw; obtain ⟨s1, s2⟩ := hSw; obtain ⟨y0, y1, y2, _⟩ := box3 s1; have zo := lt_of_heap s1; have zk := lt_of_heap s2; have fk : w'.cell? ⟨gK, 2, none⟩ = some (.func (.func 153) #[] #[]) := (by rw [row_cell s2]; rfl); go_simp; first | done | (with_reducible rfl))
   try simp only [zA, zB, zC, zD, zE]
   refine tk (i := 6) (v := ?v6x11) (some 44) rfl rfl (Or.inl ⟨by kernel_rfl, ?h6x11⟩) ?r6x11
   case h6x11 => (intro w' hSw; obtain ⟨s1, s2⟩ := hSw; obtain ⟨y0, y1, y2, _⟩ := box3 s1; have zo := lt_of_heap s1; have zk := lt_of_heap s2; have fk : w'.cell? ⟨gK, 2, none⟩ = some (.func (.func 153) #[] #[]) := (by rw [row_cell s2]; rfl); go_simp; first | done | (with_reducible rfl))
   try simp only [zA, zB, zC, zD, zE]
   refine wpAnyH_ready (rs := [7]) (by kernel_rfl) (by simp) ?_
   refine AllReadyH.cons rfl (fun K hK => ?_) AllReadyH.nil
   go_simp
   refine ((HKA y0 hG0 hL0).out.1 rfl).mono ?_
   rintro e' yK ⟨rfl, hp⟩
   go_simp
   obtain ⟨⟨B3, d3, hst, hc3, hf3⟩, hsl, hkp⟩ := hp
   have hnb : ∀ j, j = gO ∨ j = gK → j ∉ abK g A1 := HNb.out
   refine hK.out _ _ (⟨hkp.row hS.1 (hnb _ (.inl rfl)), hkp.row hS.2 (hnb _ (.inr rfl))⟩) (fun hS => ?_)
   clear hK K
   try simp only [zA, zB, zC, zD, zE]
   refine wpAnyH_done (by kernel_rfl) ?_ _
   have HS5 := Lib.hid hst
   have HL5 := Lib.hid hsl
   have HC5 := Lib.hid hc3
   have HF5 : Hid (∀ z, B3 = some z → w.heap.size ≤ z.block) := Lib.hid (fun z hz => Nat.le_trans hB0.size (hf3 z hz))
   have HB5 : Hid (Below w.heap.size w yK) := Lib.hid (Keep.under hB0 hkp hB0.size (fun j hj => HLo.out j hj))
   clear hst hc3 hf3 hsl hkp hS hK0 hG0 hL0 hB0 hnb
   obtain ⟨x0, x1, x2, x3, _⟩ := box4 HS5.out
   have zg := lt_of_heap HS5.out
   obtain ⟨ki, Hki⟩ : ∃ x, Hid (finK ⟨0, oa, oq⟩ sl = x) := ⟨_, Lib.hid rfl⟩
   obtain ⟨nS, HnS⟩ : ∃ x, Hid ((finS ⟨0, oa, oq⟩).length = x) := ⟨_, Lib.hid rfl⟩
   obtain ⟨hh, Hhh⟩ : ∃ x, Hid (finH ⟨0, oa, oq⟩ = x) := ⟨_, Lib.hid rfl⟩
   rw [Hki.out] at x3
   rw [HnS.out] at x1
   rw [Hhh.out] at x2
   have hkb := HKN.out
   rw [Hki.out] at hkb
   have HK9 := Lib.hid hkb.1
   obtain ⟨_, kb0, kb1⟩ := hkb
   go_wp2_with fail
   go_quiet (fail)
   go_wp2
   refine bodyPost_ret (results_tmp4 rfl _ _ _) rfl ?_
   exact ⟨A1, c1, B3, d3, by rw [HnS.out, Hhh.out, ← HK9.out]; rfl, HL5.out.cells, HC5.out, HF.out, HF5.out, by first | exact HB5.out | exact below_drewN HB5.out _⟩
  ·skip
   go_upto_region 6 with fail
   clear y0 y1 y2 zo
   refine wp_region_held_drew (S := fun W => W.heap[gO]? = some (.cells (foA 1 oa oq) 56 (0, 0)) ∧ W.heap[gK]? = some (.cells kdArr 202 (0, 0))) (by kernel_rfl) (show w4.drew.heap[gO]? = _ ∧ w4.drew.heap[gK]? = _ from ⟨HRO.out, HRK.out⟩) ?_
   intro hS
   have hK0 : Keep (abK g A1) w4 w4.drew := (Keep.refl _ _).drew
   have hG0 : Sta w4.drew g A1 sl.length c1 none 0 0 false 0 := HG4.out
   have hL0 : SlOk w4.drew g A1 sl := HSl4.out.below (Below.drew (Below.refl _ _))
   have hB0 : Below w.heap.size w w4.drew := below_drewN HB4.out 1
   generalize w4.drew = y0 at hS hK0 hG0 hL0 hB0 ⊢
   refine tk (i := 0) (v := ?v0x12) (some 38) rfl rfl (Or.inl ⟨by kernel_rfl, ?h0x12⟩) ?r0x12
   case h0x12 => (intro w' hSw; obtain ⟨s1, s2⟩ := hSw; obtain ⟨y0, y1, y2, _⟩ := box3 s1; have zo := lt_of_heap s1; have zk := lt_of_heap s2; have fk : w'.cell? ⟨gK, 5, none⟩ = some (.func (.func 154) #[] #[]) := (by rw [row_cell s2]; rfl); go_simp; first | done | (with_reducible rfl))
   try simp only [zA, zB, zC, zD, zE]
   refine tk (i := 1) (v := ?v1x13) (some 39) rfl rfl (Or.inl ⟨by kernel_rfl, ?h1x13⟩) ?r1x13
   case h1x13 => (intro w' hSw; obtain ⟨s1, s2⟩ := hSw; obtain ⟨y0, y1, y2, _⟩ := box3 s1; have zo := lt_of_heap s1; have zk := lt_of_heap s2; have fk : w'.cell? ⟨gK, 5, none⟩ = some (.func (.func 154) #[] #[]) := (by rw [row_cell s2]; rfl); go_simp; first | done | (with_reducible rfl))
   try simp only [zA, zB, zC, zD, zE]
   refine tk (i := 2) (v := ?v2x14) (some 40) rfl rfl (Or.inl ⟨by kernel_rfl, ?h2x14⟩) ?r2x14
   case h2x14 => (intro w' hSw; obtain ⟨s1, s2⟩ := hSw; obtain ⟨y0, y1, y2, _⟩ := box3 s1; have zo := lt_of_heap s1; have zk := lt_of_heap s2; have fk : w'.cell? ⟨gK, 5, none⟩ = some (.func (.func 154) #[] #[]) := (by rw [row_cell s2]; rfl); go_simp; first | done | (with_reducible rfl))
   try simp only [zA, zB, zC, zD, zE]
   refine tk (i := 3) (v := ?v3x15) (some 41) rfl rfl (Or.inl ⟨by kernel_rfl, ?h3x15⟩) ?r3x15
   case h3x15 => (intro w' hSw; obtain ⟨s1, s2⟩ := hSw; obtain ⟨y0, y1, y2, _⟩ := box3 s1; have zo := lt_of_heap s1; have zk := lt_of_heap s2; have fk : w'.cell? ⟨gK, 5, none⟩ = some (.func (.func 154) #[] #[]) := (by rw [row_cell s2]; rfl); go_simp; first | done | (with_reducible rfl))
   try simp only [zA, zB, zC, zD, zE]
   refine tk (i := 4) (v := ?v4x16) (some 42) rfl rfl (Or.inl ⟨by kernel_rfl, ?h4x16⟩) ?r4x16
   case h4x16 => (intro w' hSw; obtain ⟨s1, s2⟩ := hSw; obtain ⟨y0, y1, y2, _⟩ := box3 s1; have zo := lt_of_heap s1; have zk := lt_of_heap s2; have fk : w'.cell? ⟨gK, 5, none⟩ = some (.func (.func 154) #[] #[]) := (by rw [row_cell s2]; rfl); go_simp; first | done | (with_reducible rfl))
   try simp only [zA, zB, zC, zD, zE]
   refine tk (i := 5) (v := ?v5x17) (some 43) rfl rfl (Or.inl ⟨by kernel_rfl, ?h5x17⟩) ?r5x17
   case h5x17 => (intro w' hSw; obtain ⟨s1, s2⟩ := hSw; obtain ⟨y0, y1, y2, _⟩ := box3 s1; have zo := lt_of_heap s1; have zk := lt_of_heap s2; have fk : w'.cell? ⟨gK, 5, none⟩ = some (.func (.func 154) #[] #[]) := (by rw [row_cell s2]; rfl); go_simp; first | done | (with_reducible rfl))
   try simp only [zA, zB, zC, zD, zE]
   refine tk (i := 6) (v := ?v6x18) (some 44) rfl rfl (Or.inl ⟨by kernel_rfl, ?h6x18⟩) ?r6x18
   case h6x18 => (intro w' hSw; obtain ⟨s1, s2⟩ := hSw; obtain ⟨y0, y1, y2, _⟩ := box3 s1; have zo := lt_of_heap s1; have zk := lt_of_heap s2; have fk : w'.cell? ⟨gK, 5, none⟩ = some (.func (.func 154) #[] #[]) := (by rw [row_cell s2]; rfl); go_simp; first | done | (with_reducible rfl))
   try simp only [zA, zB, zC, zD, zE]
   refine wpAnyH_ready (rs := [7]) (by kernel_rfl) (by simp) ?_
   refine AllReadyH.cons rfl (fun K hK => ?_) AllReadyH.nil
   go_simp
   refine ((HKA y0 hG0 hL0).out.2.1 rfl).mono ?_
   rintro e' yK ⟨rfl, hp⟩
   go_simp
   obtain ⟨⟨B3, d3, hst, hc3, hf3⟩, hsl, hkp⟩ := hp
   have hnb : ∀ j, j = gO ∨ j = gK → j ∉ abK g A1 := HNb.out
   refine hK.out _ _ (⟨hkp.row hS.1 (hnb _ (.inl rfl)), hkp.row hS.2 (hnb _ (.inr rfl))⟩) (fun hS => ?_)
   clear hK K
   try simp only [zA, zB, zC, zD, zE]
   refine wpAnyH_done (by kernel_rfl) ?_ _
   have HS5 := Lib.hid hst
   have HL5 := Lib.hid hsl
   have HC5 := Lib.hid hc3
   have HF5 : Hid (∀ z, B3 = some z → w.heap.size ≤ z.block) := Lib.hid (fun z hz => Nat.le_trans hB0.size (hf3 z hz))
   have HB5 : Hid (Below w.heap.size w yK) := Lib.hid (Keep.under hB0 hkp hB0.size (fun j hj => HLo.out j hj))
   clear hst hc3 hf3 hsl hkp hS hK0 hG0 hL0 hB0 hnb
   obtain ⟨x0, x1, x2, x3, _⟩ := box4 HS5.out
   have zg := lt_of_heap HS5.out
   obtain ⟨ki, Hki⟩ : ∃ x, Hid (finK ⟨1, oa, oq⟩ sl = x) := ⟨_, Lib.hid rfl⟩
   obtain ⟨nS, HnS⟩ : ∃ x, Hid ((finS ⟨1, oa, oq⟩).length = x) := ⟨_, Lib.hid rfl⟩
   obtain ⟨hh, Hhh⟩ : ∃ x, Hid (finH ⟨1, oa, oq⟩ = x) := ⟨_, Lib.hid rfl⟩
   rw [Hki.out] at x3
   rw [HnS.out] at x1
   rw [Hhh.out] at x2
   have hkb := HKN.out
   rw [Hki.out] at hkb
   have HK9 := Lib.hid hkb.1
   obtain ⟨_, kb0, kb1⟩ := hkb
   go_wp2_with fail
   go_quiet (fail)
   go_wp2
   refine bodyPost_ret (results_tmp4 rfl _ _ _) rfl ?_
   exact ⟨A1, c1, B3, d3, by rw [HnS.out, Hhh.out, ← HK9.out]; rfl, HL5.out.cells, HC5.out, HF.out, HF5.out, by first | exact HB5.out | exact below_drewN HB5.out _⟩
  ·skip
   go_upto_region 6 with fail
   clear y0 y1 y2 zo
   refine wp_region_held_drew (S := fun W => W.heap[gO]? = some (.cells (foA 2 oa oq) 56 (0, 0)) ∧ W.heap[gK]? = some (.cells kdArr 202 (0, 0))) (by kernel_rfl) (show w4.drew.heap[gO]? = _ ∧ w4.drew.heap[gK]? = _ from ⟨HRO.out, HRK.out⟩) ?_
   intro hS
   have hK0 : Keep (abK g A1) w4 w4.drew := (Keep.refl _ _).drew
   have hG0 : Sta w4.drew g A1 sl.length c1 none 0 0 false 0 := HG4.out
   have hL0 : SlOk w4.drew g A1 sl := HSl4.out.below (Below.drew (Below.refl _ _))
   have hB0 : Below w.heap.size w w4.drew := below_drewN HB4.out 1
   generalize w4.drew = y0 at hS hK0 hG0 hL0 hB0 ⊢
   refine tk (i := 0) (v := ?v0x19) (some 38) rfl rfl (Or.inl ⟨by kernel_rfl, ?h0x19⟩) ?r0x19
   case h0x19 => (intro w' hSw; obtain ⟨s1, s2⟩ := hSw; obtain ⟨y0, y1, y2, _⟩ := box3 s1; have zo := lt_of_heap s1; have zk := lt_of_heap s2; have fk : w'.cell? ⟨gK, 8, none⟩ = some (.func (.func 156) #[] #[]) := (by rw [row_cell s2]; rfl); go_simp; first | done | (with_reducible rfl))
   try simp only [zA, zB, zC, zD, zE]
   refine tk (i := 1) (v := ?v1x20) (some 39) rfl rfl (Or.inl ⟨by kernel_rfl, ?h1x20⟩) ?r1x20
   case h1x20 => (intro w' hSw; obtain ⟨s1, s2⟩ := hSw; obtain ⟨y0, y1, y2, _⟩ := box3 s1; have zo := lt_of_heap s1; have zk := lt_of_heap s2; have fk : w'.cell? ⟨gK, 8, none⟩ = some (.func (.func 156) #[] #[]) := (by rw [row_cell s2]; rfl); go_simp; first | done | (with_reducible rfl))
   try simp only [zA, zB, zC, zD, zE]
   refine tk (i := 2) (v := ?v2x21) (some 40) rfl rfl (Or.inl ⟨by kernel_rfl, ?h2x21⟩) ?r2x21
   case h2x21 => (intro w' hSw; obtain ⟨s1, s2⟩ := hSw; obtain ⟨y0, y1, y2, _⟩ := box3 s1; have zo := lt_of_heap s1; have zk := lt_of_heap s2; have fk : w'.cell? ⟨gK, 8, none⟩ = some (.func (.func 156) #[] #[]) := (by rw [row_cell s2]; rfl); go_simp; first | done | (with_reducible rfl))
   try simp only [zA, zB, zC, zD, zE]
   refine tk (i := 3) (v := ?v3x22) (some 41) rfl rfl (Or.inl ⟨by kernel_rfl, ?h3x22⟩) ?r3x22
   case h3x22 => (intro w' hSw; obtain ⟨s1, s2⟩ := hSw; obtain ⟨y0, y1, y2, _⟩ := box3 s1; have zo := lt_of_heap s1; have zk := lt_of_heap s2; have fk : w'.cell? ⟨gK, 8, none⟩ = some (.func (.func 156) #[] #[]) := (by rw [row_cell s2]; rfl); go_simp; first | done | (with_reducible rfl))
   try simp only [zA, zB, zC, zD, zE]
   refine tk (i := 4) (v := ?v4x23) (some 42) rfl rfl (Or.inl ⟨by kernel_rfl, ?h4x23⟩) ?r4x23
   case h4x23 => (intro w' hSw; obtain ⟨s1, s2⟩ := hSw; obtain ⟨y0, y1, y2, _⟩ := box3 s1; have zo := lt_of_heap s1; have zk := lt_of_heap s2; have fk : w'.cell? ⟨gK, 8, none⟩ = some (.func (.func 156) #[] #[]) := (by rw [row_cell s2]; rfl); go_simp; first | done | (with_reducible rfl))
   try simp only [zA, zB, zC, zD, zE]
   refine tk (i := 5) (v := ?v5x24) (some 43) rfl rfl (Or.inl ⟨by kernel_rfl, ?h5x24⟩) ?r5x24
   case h5x24 => (intro w' hSw; obtain ⟨s1, s2⟩ := hSw; obtain ⟨y0, y1, y2, _⟩ := box3 s1; have zo := lt_of_heap s1; have zk := lt_of_heap s2; have fk : w'.cell? ⟨gK, 8, none⟩ = some (.func (.func 156) #[] #[]) := (by rw [row_cell s2]; rfl); go_simp; first | done | (with_reducible rfl))
   try simp only [zA, zB, zC, zD, zE]
   refine tk (i := 6) (v := ?v6x25) (some 44) rfl rfl (Or.inl ⟨by kernel_rfl, ?h6x25⟩) ?r6x25
   case h6x25 => (intro w' hSw; obtain ⟨s1, s2⟩ := hSw; obtain ⟨y0, y1, y2, _⟩ := box3 s1; have zo := lt_of_heap s1; have zk := lt_of_heap s2; have fk : w'.cell? ⟨gK, 8, none⟩ = some (.func (.func 156) #[] #[]) := (by rw [row_cell s2]; rfl); go_simp; first | done | (with_reducible rfl))
   try simp only [zA, zB, zC, zD, zE]
   refine wpAnyH_ready (rs := [7]) (by kernel_rfl) (by simp) ?_
   refine AllReadyH.cons rfl (fun K hK => ?_) AllReadyH.nil
   go_simp
   refine ((HKA y0 hG0 hL0).out.2.2.1 rfl).mono ?_
   rintro e' yK ⟨rfl, hp⟩
   go_simp
   obtain ⟨⟨B3, d3, hst, hc3, hf3⟩, hsl, hkp⟩ := hp
   have hnb : ∀ j, j = gO ∨ j = gK → j ∉ abK g A1 := HNb.out
   refine hK.out _ _ (⟨hkp.row hS.1 (hnb _ (.inl rfl)), hkp.row hS.2 (hnb _ (.inr rfl))⟩) (fun hS => ?_)
   clear hK K
   try simp only [zA, zB, zC, zD, zE]
   refine wpAnyH_done (by kernel_rfl) ?_ _
   have HS5 := Lib.hid hst
   have HL5 := Lib.hid hsl
   have HC5 := Lib.hid hc3
   have HF5 : Hid (∀ z, B3 = some z → w.heap.size ≤ z.block) := Lib.hid (fun z hz => Nat.le_trans hB0.size (hf3 z hz))
   have HB5 : Hid (Below w.heap.size w yK) := Lib.hid (Keep.under hB0 hkp hB0.size (fun j hj => HLo.out j hj))
   clear hst hc3 hf3 hsl hkp hS hK0 hG0 hL0 hB0 hnb
   obtain ⟨x0, x1, x2, x3, _⟩ := box4 HS5.out
   have zg := lt_of_heap HS5.out
   obtain ⟨ki, Hki⟩ : ∃ x, Hid (finK ⟨2, oa, oq⟩ sl = x) := ⟨_, Lib.hid rfl⟩
   obtain ⟨nS, HnS⟩ : ∃ x, Hid ((finS ⟨2, oa, oq⟩).length = x) := ⟨_, Lib.hid rfl⟩
   obtain ⟨hh, Hhh⟩ : ∃ x, Hid (finH ⟨2, oa, oq⟩ = x) := ⟨_, Lib.hid rfl⟩
   rw [Hki.out] at x3
   rw [HnS.out] at x1
   rw [Hhh.out] at x2
   have hkb := HKN.out
   rw [Hki.out] at hkb
   have HK9 := Lib.hid hkb.1
   obtain ⟨_, kb0, kb1⟩ := hkb
   go_wp2_with fail
   go_quiet (fail)
   go_wp2
   refine bodyPost_ret (results_tmp4 rfl _ _ _) rfl ?_
   exact ⟨A1, c1, B3, d3, by rw [HnS.out, Hhh.out, ← HK9.out]; rfl, HL5.out.cells, HC5.out, HF.out, HF5.out, by first | exact HB5.out | exact below_drewN HB5.out _⟩
  ·skip
   go_upto_region 6 with fail
   clear y0 y1 y2 zo
   refine wp_region_held_drew (S := fun W => W.heap[gO]? = some (.cells (foA 3 oa oq) 56 (0, 0)) ∧ W.heap[gK]? = some (.cells kdArr 202 (0, 0))) (by kernel_rfl) (show w4.drew.heap[gO]? = _ ∧ w4.drew.heap[gK]? = _ from ⟨HRO.out, HRK.out⟩) ?_
   intro hS
   have hK0 : Keep (abK g A1) w4 w4.drew := (Keep.refl _ _).drew
   have hG0 : Sta w4.drew g A1 sl.length c1 none 0 0 false 0 := HG4.out
   have hL0 : SlOk w4.drew g A1 sl := HSl4.out.below (Below.drew (Below.refl _ _))
   have hB0 : Below w.heap.size w w4.drew := below_drewN HB4.out 1
   generalize w4.drew = y0 at hS hK0 hG0 hL0 hB0 ⊢
   refine tk (i := 0) (v := ?v0x26) (some 38) rfl rfl (Or.inl ⟨by kernel_rfl, ?h0x26⟩) ?r0x26
   case h0x26 => (intro w' hSw; obtain ⟨s1, s2⟩ := hSw; obtain ⟨y0, y1, y2, _⟩ := box3 s1; have zo := lt_of_heap s1; have zk := lt_of_heap s2; have fk : w'.cell? ⟨gK, 11, none⟩ = some (.func (.func 157) #[] #[]) := (by rw [row_cell s2]; rfl); go_simp; first | done | (with_reducible rfl))
   try simp only [zA, zB, zC, zD, zE]
   refine tk (i := 1) (v := ?v1x27) (some 39) rfl rfl (Or.inl ⟨by kernel_rfl, ?h1x27⟩) ?r1x27
   case h1x27 => (intro w' hSw; obtain ⟨s1, s2⟩ := hSw; obtain ⟨y0, y1, y2, _⟩ := box3 s1; have zo := lt_of_heap s1; have zk := lt_of_heap s2; have fk : w'.cell? ⟨gK, 11, none⟩ = some (.func (.func 157) #[] #[]) := (by rw [row_cell s2]; rfl); go_simp; first | done | (with_reducible rfl))
   try simp only [zA, zB, zC, zD, zE]
   refine tk (i := 2) (v := ?v2x28) (some 40) rfl rfl (Or.inl ⟨by kernel_rfl, ?h2x28⟩) ?r2x28
   case h2x28 => (intro w' hSw; obtain ⟨s1, s2⟩ := hSw; obtain ⟨y0, y1, y2, _⟩ := box3 s1; have zo := lt_of_heap s1; have zk := lt_of_heap s2; have fk : w'.cell? ⟨gK, 11, none⟩ = some (.func (.func 157) #[] #[]) := (by rw [row_cell s2]; rfl); go_simp; first | done | (with_reducible rfl))
   try simp only [zA, zB, zC, zD, zE]
   refine tk (i := 3) (v := ?v3x29) (some 41) rfl rfl (Or.inl ⟨by kernel_rfl, ?h3x29⟩) ?r3x29
   case h3x29 => (intro w' hSw; obtain ⟨s1, s2⟩ := hSw; obtain ⟨y0, y1, y2, _⟩ := box3 s1; have zo := lt_of_heap s1; have zk := lt_of_heap s2; have fk : w'.cell? ⟨gK, 11, none⟩ = some (.func (.func 157) #[] #[]) := (by rw [row_cell s2]; rfl); go_simp; first | done | (with_reducible rfl))
   try simp only [zA, zB, zC, zD, zE]
   refine tk (i := 4) (v := ?v4x30) (some 42) rfl rfl (Or.inl ⟨by kernel_rfl, ?h4x30⟩) ?r4x30
   case h4x30 => (intro w' hSw; obtain ⟨s1, s2⟩ := hSw; obtain ⟨y0, y1, y2, _⟩ := box3 s1; have zo := lt_of_heap s1; have zk := lt_of_heap s2; have fk : w'.cell? ⟨gK, 11, none⟩ = some (.func (.func 157) #[] #[]) := (by rw [row_cell s2]; rfl); go_simp; first | done | (with_reducible rfl))
   try simp only [zA, zB, zC, zD, zE]
   refine tk (i := 5) (v := ?v5x31) (some 43) rfl rfl (Or.inl ⟨by kernel_rfl, ?h5x31⟩) ?r5x31
   case h5x31 => (intro w' hSw; obtain ⟨s1, s2⟩ := hSw; obtain ⟨y0, y1, y2, _⟩ := box3 s1; have zo := lt_of_heap s1; have zk := lt_of_heap s2; have fk : w'.cell? ⟨gK, 11, none⟩ = some (.func (.func 157) #[] #[]) := (by rw [row_cell s2]; rfl); go_simp; first | done | (with_reducible rfl))
   try simp only [zA, zB, zC, zD, zE]
   refine tk (i := 6) (v := ?v6x32) (some 44) rfl rfl (Or.inl ⟨by kernel_rfl, ?h6x32⟩) ?r6x32
   case h6x32 => (intro w' hSw; obtain ⟨s1, s2⟩ := hSw; obtain ⟨y0, y1, y2, _⟩ := box3 s1; have zo := lt_of_heap s1; have zk := lt_of_heap s2; have fk : w'.cell? ⟨gK, 11, none⟩ = some (.func (.func 157) #[] #[]) := (by rw [row_cell s2]; rfl); go_simp; first | done | (with_reducible rfl))
   try simp only [zA, zB, zC, zD, zE]
   refine wpAnyH_ready (rs := [7]) (by kernel_rfl) (by simp) ?_
   refine AllReadyH.cons rfl (fun K hK => ?_) AllReadyH.nil
   go_simp
   refine ((HKA y0 hG0 hL0).out.2.2.2.1 rfl).mono ?_
   rintro e' yK ⟨rfl, hp⟩
   go_simp
   obtain ⟨⟨B3, d3, hst, hc3, hf3⟩, hsl, hkp⟩ := hp
   have hnb : ∀ j, j = gO ∨ j = gK → j ∉ abK g A1 := HNb.out
   refine hK.out _ _ (⟨hkp.row hS.1 (hnb _ (.inl rfl)), hkp.row hS.2 (hnb _ (.inr rfl))⟩) (fun hS => ?_)
   clear hK K
   try simp only [zA, zB, zC, zD, zE]
   refine wpAnyH_done (by kernel_rfl) ?_ _
   have HS5 := Lib.hid hst
   have HL5 := Lib.hid hsl
   have HC5 := Lib.hid hc3
   have HF5 : Hid (∀ z, B3 = some z → w.heap.size ≤ z.block) := Lib.hid (fun z hz => Nat.le_trans hB0.size (hf3 z hz))
   have HB5 : Hid (Below w.heap.size w yK) := Lib.hid (Keep.under hB0 hkp hB0.size (fun j hj => HLo.out j hj))
   clear hst hc3 hf3 hsl hkp hS hK0 hG0 hL0 hB0 hnb
   obtain ⟨x0, x1, x2, x3, _⟩ := box4 HS5.out
   have zg := lt_of_heap HS5.out
   obtain ⟨ki, Hki⟩ : ∃ x, Hid (finK ⟨3, oa, oq⟩ sl = x) := ⟨_, Lib.hid rfl⟩
   obtain ⟨nS, HnS⟩ : ∃ x, Hid ((finS ⟨3, oa, oq⟩).length = x) := ⟨_, Lib.hid rfl⟩
   obtain ⟨hh, Hhh⟩ : ∃ x, Hid (finH ⟨3, oa, oq⟩ = x) := ⟨_, Lib.hid rfl⟩
   rw [Hki.out] at x3
   rw [HnS.out] at x1
   rw [Hhh.out] at x2
   have hkb := HKN.out
   rw [Hki.out] at hkb
   have HK9 := Lib.hid hkb.1
   obtain ⟨_, kb0, kb1⟩ := hkb
   go_wp2_with fail
   go_quiet (fail)
   go_wp2
   refine bodyPost_ret (results_tmp4 rfl _ _ _) rfl ?_
   exact ⟨A1, c1, B3, d3, by rw [HnS.out, Hhh.out, ← HK9.out]; rfl, HL5.out.cells, HC5.out, HF.out, HF5.out, by first | exact HB5.out | exact below_drewN HB5.out _⟩
  ·skip
   go_upto_region 6 with fail
   clear y0 y1 y2 zo
   refine wp_region_held_drew (S := fun W => W.heap[gO]? = some (.cells (foA 4 oa oq) 56 (0, 0)) ∧ W.heap[gK]? = some (.cells kdArr 202 (0, 0))) (by kernel_rfl) (show w4.drew.heap[gO]? = _ ∧ w4.drew.heap[gK]? = _ from ⟨HRO.out, HRK.out⟩) ?_
   intro hS
   have hK0 : Keep (abK g A1) w4 w4.drew := (Keep.refl _ _).drew
   have hG0 : Sta w4.drew g A1 sl.length c1 none 0 0 false 0 := HG4.out
   have hL0 : SlOk w4.drew g A1 sl := HSl4.out.below (Below.drew (Below.refl _ _))
   have hB0 : Below w.heap.size w w4.drew := below_drewN HB4.out 1
   generalize w4.drew = y0 at hS hK0 hG0 hL0 hB0 ⊢
   refine tk (i := 0) (v := ?v0x33) (some 38) rfl rfl (Or.inl ⟨by kernel_rfl, ?h0x33⟩) ?r0x33
   case h0x33 => (intro w' hSw; obtain ⟨s1, s2⟩ := hSw; obtain ⟨y0, y1, y2, _⟩ := box3 s1; have zo := lt_of_heap s1; have zk := lt_of_heap s2; have fk : w'.cell? ⟨gK, 14, none⟩ = some (.func (.func 158) #[] #[]) := (by rw [row_cell s2]; rfl); go_simp; first | done | (with_reducible rfl))
   try simp only [zA, zB, zC, zD, zE]
   refine tk (i := 1) (v := ?v1x34) (some 39) rfl rfl (Or.inl ⟨by kernel_rfl, ?h1x34⟩) ?r1x34
   case h1x34 => (intro w' hSw; obtain ⟨s1, s2⟩ := hSw; obtain ⟨y0, y1, y2, _⟩ := box3 s1; have zo := lt_of_heap s1; have zk := lt_of_heap s2; have fk : w'.cell? ⟨gK, 14, none⟩ = some (.func (.func 158) #[] #[]) := (by rw [row_cell s2]; rfl); go_simp; first | done | (with_reducible rfl))
   try simp only [zA, zB, zC, zD, zE]
   refine tk (i := 2) (v := ?v2x35) (some 40) rfl rfl (Or.inl ⟨by kernel_rfl, ?h2x35⟩) ?r2x35
   case h2x35 => (intro w' hSw; obtain ⟨s1, s2⟩ := hSw; obtain ⟨y0, y1, y2, _⟩ := box3 s1; have zo := lt_of_heap s1; have zk := lt_of_heap s2; have fk : w'.cell? ⟨gK, 14, none⟩ = some (.func (.func 158) #[] #[]) := (by rw [row_cell s2]; rfl); go_simp; first | done | (with_reducible rfl))
   try simp only [zA, zB, zC, zD, zE]
   refine tk (i := 3) (v := ?v3x36) (some 41) rfl rfl (Or.inl ⟨by kernel_rfl, ?h3x36⟩) ?r3x36
   case h3x36 => (intro w' hSw; obtain ⟨s1, s2⟩ := hSw; obtain ⟨y0, y1, y2, _⟩ := box3 s1; have zo := lt_of_heap s1; have zk := lt_of_heap s2; have fk : w'.cell? ⟨gK, 14, none⟩ = some (.func (.func 158) #[] #[]) := (by rw [row_cell s2]; rfl); go_simp; first | done | (with_reducible rfl))
   try simp only [zA, zB, zC, zD, zE]
   refine tk (i := 4) (v := ?v4x37) (some 42) rfl rfl (Or.inl ⟨by kernel_rfl, ?h4x37⟩) ?r4x37
   case h4x37 => (intro w' hSw; obtain ⟨s1, s2⟩ := hSw; obtain ⟨y0, y1, y2, _⟩ := box3 s1; have zo := lt_of_heap s1; have zk := lt_of_heap s2; have fk : w'.cell? ⟨gK, 14, none⟩ = some (.func (.func 158) #[] #[]) := (by rw [row_cell s2]; rfl); go_simp; first | done | (with_reducible rfl))
   try simp only [zA, zB, zC, zD, zE]
   refine tk (i := 5) (v := ?v5x38) (some 43) rfl rfl (Or.inl ⟨by kernel_rfl, ?h5x38⟩) ?r5x38
   case h5x38 => (intro w' hSw; obtain ⟨s1, s2⟩ := hSw; obtain ⟨y0, y1, y2, _⟩ := box3 s1; have zo := lt_of_heap s1; have zk := lt_of_heap s2; have fk : w'.cell? ⟨gK, 14, none⟩ = some (.func (.func 158) #[] #[]) := (by rw [row_cell s2]; rfl); go_simp; first | done | (with_reducible rfl))
   try simp only [zA, zB, zC, zD, zE]
   refine tk (i := 6) (v := ?v6x39) (some 44) rfl rfl (Or.inl ⟨by kernel_rfl, ?h6x39⟩) ?r6x39
   case h6x39 => (intro w' hSw; obtain ⟨s1, s2⟩ := hSw; obtain ⟨y0, y1, y2, _⟩ := box3 s1; have zo := lt_of_heap s1; have zk := lt_of_heap s2; have fk : w'.cell? ⟨gK, 14, none⟩ = some (.func (.func 158) #[] #[]) := (by rw [row_cell s2]; rfl); go_simp; first | done | (with_reducible rfl))
   try simp only [zA, zB, zC, zD, zE]
   refine wpAnyH_ready (rs := [7]) (by kernel_rfl) (by simp) ?_
   refine AllReadyH.cons rfl (fun K hK => ?_) AllReadyH.nil
   go_simp
   refine ((HKA y0 hG0 hL0).out.2.2.2.2 rfl).mono ?_
   rintro e' yK ⟨rfl, hp⟩
   go_simp
   obtain ⟨⟨B3, d3, hst, hc3, hf3⟩, hsl, hkp⟩ := hp
   have hnb : ∀ j, j = gO ∨ j = gK → j ∉ abK g A1 := HNb.out
   refine hK.out _ _ (⟨hkp.row hS.1 (hnb _ (.inl rfl)), hkp.row hS.2 (hnb _ (.inr rfl))⟩) (fun hS => ?_)
   clear hK K
   try simp only [zA, zB, zC, zD, zE]
   refine wpAnyH_done (by kernel_rfl) ?_ _
   have HS5 := Lib.hid hst
   have HL5 := Lib.hid hsl
   have HC5 := Lib.hid hc3
   have HF5 : Hid (∀ z, B3 = some z → w.heap.size ≤ z.block) := Lib.hid (fun z hz => Nat.le_trans hB0.size (hf3 z hz))
   have HB5 : Hid (Below w.heap.size w yK) := Lib.hid (Keep.under hB0 hkp hB0.size (fun j hj => HLo.out j hj))
   clear hst hc3 hf3 hsl hkp hS hK0 hG0 hL0 hB0 hnb
   obtain ⟨x0, x1, x2, x3, _⟩ := box4 HS5.out
   have zg := lt_of_heap HS5.out
   obtain ⟨ki, Hki⟩ : ∃ x, Hid (finK ⟨4, oa, oq⟩ sl = x) := ⟨_, Lib.hid rfl⟩
   obtain ⟨nS, HnS⟩ : ∃ x, Hid ((finS ⟨4, oa, oq⟩).length = x) := ⟨_, Lib.hid rfl⟩
   obtain ⟨hh, Hhh⟩ : ∃ x, Hid (finH ⟨4, oa, oq⟩ = x) := ⟨_, Lib.hid rfl⟩
   rw [Hki.out] at x3
   rw [HnS.out] at x1
   rw [Hhh.out] at x2
   have hkb := HKN.out
   rw [Hki.out] at hkb
   have HK9 := Lib.hid hkb.1
   obtain ⟨_, kb0, kb1⟩ := hkb
   go_wp2_with fail
   go_quiet (fail)
   go_wp2
   refine bodyPost_ret (results_tmp4 rfl _ _ _) rfl ?_
   exact ⟨A1, c1, B3, d3, by rw [HnS.out, Hhh.out, ← HK9.out]; rfl, HL5.out.cells, HC5.out, HF.out, HF5.out, by first | exact HB5.out | exact below_drewN HB5.out _⟩
end Go.Proofs.YtbijaloeilnjoaaGreat
