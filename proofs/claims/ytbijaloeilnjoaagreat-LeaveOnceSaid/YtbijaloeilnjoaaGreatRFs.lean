/- Layer 14: the document's scopes in its arena, with its ground. -/
import Derived.Test.YtbijaloeilnjoaaGreatFN
import Derived.Test.YtbijaloeilnjoaaGreatFR
namespace Go.Proofs.YtbijaloeilnjoaaGreat
open Go.RowKit
set_option linter.unusedVariables false
set_option linter.unusedSimpArgs false

set_option maxRecDepth 100000 in
set_option maxHeartbeats 4000000 in
theorem rallNewG_any (F : Sl) (s t i h : Int) (w : World) (H : PlanOk s t i h) :
    Calls Tryz.prog 31 #[.agg #[.int .i64 s, .int .i64 t, .int .i64 i, .int .i64 h], .slice F.a F.n F.c] w fun r w' => ∃ X q b gp gq, r = .returned (.pointer (some ⟨X, 0, none⟩)) ∧ RAll w' X q b s t i h (newWs s i h) ∧ w'.heap[X]? = some (.cells #[.int .i64 s, .int .i64 t, .int .i64 i, .int .i64 h, .slice F.a F.n F.c, .pointer (some ⟨q, 0, none⟩), .pointer (some ⟨gp, 0, none⟩)] 82 (0, 0)) ∧ RG w.heap.size w' gp gq (64 * s + i) (List.replicate (h / 8).toNat true) ∧ (gq ≠ q ∧ gq ≠ b ∧ gq ≠ X ∧ gp ≠ b) ∧ (w.heap.size ≤ X ∧ w.heap.size ≤ q ∧ w.heap.size ≤ b) ∧ Below w.heap.size w w' := by
  obtain ⟨m, Hm⟩ : ∃ m, Hid (m = ((64 * s + i + h) / 8).toNat) := ⟨_, Lib.hid rfl⟩
  obtain ⟨m2, Hm2⟩ : ∃ m, Hid (m = (h / 8).toNat) := ⟨_, Lib.hid rfl⟩
  obtain ⟨s0, s1, t0, t1, i0, i1, h0, h1, i8, h8⟩ := H
  have HH := Lib.hid (PlanOk.mk s0 s1 t0 t1 i0 i1 h0 h1 i8 h8)
  obtain ⟨z, Hz⟩ : ∃ z, Hid (z = 64 * s) := ⟨_, Lib.hid rfl⟩
  obtain ⟨n, Hn⟩ : ∃ n, Hid (n = 64 * s + i + h) := ⟨_, Lib.hid rfl⟩
  have Hmm := Lib.hid (show 1 ≤ m ∧ m ≤ 8192 ∧ n = 8 * (m : Int) ∧ 8 ≤ m by have := Hm.out; have := Hn.out; omega)
  have HG := Lib.hid (show 0 ≤ z + i ∧ h = 8 * (m2 : Int) ∧ z + i + h ≤ 131072 by have := Hz.out; have := Hm2.out; omega)
  have HZ := Lib.hid (show (0 ≤ z ∧ z < 18446744073709551616) ∧ (0 ≤ i ∧ i < 18446744073709551616) by have := Hz.out; omega)
  have HW : Hid (newWs s i h = (((List.replicate m 0).set 0 (word immC)).set 1 z).set 2 i) := Lib.hid (by unfold newWs; rw [← Hm.out, ← Hz.out])
  have z0 : 0 ≤ z := HZ.out.1.1
  have z1 : z ≤ 18446744073709551615 := by have := Hz.out; omega
  clear s0 s1 t0 t1 h0 h1 i8 h8 Hm
  go_enter Tryz.func31, Tryz.ntmps31
  go_upto_region 1 with fail
  refine one_row w _ _ ?_
  intro W hR hB
  obtain ⟨x0, x1, x2, x3, _⟩ := box4 hR
  have HR := Lib.hid hR
  have HB := Lib.hid hB
  clear hR hB
  go_wp2_with fail
  refine (rplanHeap_any s t i h _ HH.out).mono ?_
  rintro r w1 ⟨rfl, hb⟩
  rw [← Hz.out]
  replace HR := Lib.hid (row_below HR.out hb)
  replace HB := Lib.hid (below_only HB.out hb)
  clear hb x0 x1 x2 x3
  go_upto_region 2 with fail
  refine one_row w1 _ _ ?_
  intro w2 hE hb
  replace HR := Lib.hid (row_below HR.out hb)
  replace HB := Lib.hid (below_only HB.out hb)
  obtain ⟨e0, e1, _, _⟩ := box2 hE
  have ze := lt_of_heap hE
  have zx := lt_of_heap HR.out
  obtain ⟨x0, x1, x2, x3, _⟩ := box4 HR.out
  clear hb hE
  go_cut [6] from 6 to 20 (fun v wx => ∃ (X q b gp gq : Nat), v = .pointer (some ⟨X, 0, none⟩) ∧ RAll wx X q b s t i h (List.replicate m 0) ∧ wx.heap[X]? = some (.cells #[.int .i64 s, .int .i64 t, .int .i64 i, .int .i64 h, .slice F.a F.n F.c, .pointer (some ⟨q, 0, none⟩), .pointer (some ⟨gp, 0, none⟩)] 82 (0, 0)) ∧ RG w.heap.size wx gp gq (z + i) (List.replicate m2 true) ∧ (gq ≠ q ∧ gq ≠ b ∧ gq ≠ X ∧ gp ≠ b) ∧ (w.heap.size ≤ X ∧ w.heap.size ≤ q ∧ w.heap.size ≤ b) ∧ Below w2.heap.size w2 wx)
  case first =>
    refine wp_region_held_drew (S := Old w2) (by kernel_rfl) (old_of (by go_grown)) ?_
    intro hS
    generalize w2.drew = y0 at hS ⊢
    refine wpAnyH_take_at (i := 0) (v := ?v0x3) (some 9) rfl rfl (by kernel_rfl) (by kernel_rfl) (by kernel_rfl) (fun _ _ _ h => h) (Or.inl ⟨by kernel_rfl, ?h0x3⟩) (by assumption) ?r0x3
    case h0x3 => (intro w hSw; (try dsimp only at hSw); go_simp; first | done | (with_reducible rfl))
    try simp only [zA, zB, zC, zD, zE]
    refine wpAnyH_take_at (i := 1) (v := ?v1x4) (some 10) rfl rfl (by kernel_rfl) (by kernel_rfl) (by kernel_rfl) (fun _ _ _ h => h) (Or.inl ⟨by kernel_rfl, ?h1x4⟩) (by assumption) ?r1x4
    case h1x4 => (intro w hSw; (try dsimp only at hSw); go_simp; first | done | (with_reducible rfl))
    try simp only [zA, zB, zC, zD, zE]
    refine wpAnyH_take_at (i := 2) (v := ?v2x5) (some 11) rfl rfl (by kernel_rfl) (by kernel_rfl) (by kernel_rfl) (fun _ _ _ h => h) (Or.inl ⟨by kernel_rfl, ?h2x5⟩) (by assumption) ?r2x5
    case h2x5 => (intro w hSw; (try dsimp only at hSw); go_simp; first | done | (with_reducible rfl))
    try simp only [zA, zB, zC, zD, zE]
    refine wpAnyH_take_at (i := 5) (v := ?v5x6) (some 14) rfl rfl (by kernel_rfl) (by kernel_rfl) (by kernel_rfl) (fun _ _ _ h => h) (Or.inl ⟨by kernel_rfl, ?h5x6⟩) (by assumption) ?r5x6
    case h5x6 => (intro w hSw; (try dsimp only at hSw); go_simp; first | done | (with_reducible rfl))
    try simp only [zA, zB, zC, zD, zE]
    refine wpAnyH_take_at (i := 6) (v := ?v6x7) (some 15) rfl rfl (by kernel_rfl) (by kernel_rfl) (by kernel_rfl) (fun _ _ _ h => h) (Or.inl ⟨by kernel_rfl, ?h6x7⟩) (by assumption) ?r6x7
    case h6x7 => (intro w hSw; (try dsimp only at hSw); go_simp; first | done | (with_reducible rfl))
    try simp only [zA, zB, zC, zD, zE]
    refine wpAnyH_take_at (i := 7) (v := ?v7x8) (some 16) rfl rfl (by kernel_rfl) (by kernel_rfl) (by kernel_rfl) (fun _ _ _ h => h) (Or.inl ⟨by kernel_rfl, ?h7x8⟩) (by assumption) ?r7x8
    case h7x8 => (intro w hSw; (try dsimp only at hSw); go_simp; first | done | (with_reducible rfl))
    try simp only [zA, zB, zC, zD, zE]
    refine wpAnyH_take_at (i := 8) (v := ?v8x9) (some 17) rfl rfl (by kernel_rfl) (by kernel_rfl) (by kernel_rfl) (fun _ _ _ h => h) (Or.inl ⟨by kernel_rfl, ?h8x9⟩) (by assumption) ?r8x9
    case h8x9 => (intro w hSw; (try dsimp only at hSw); go_simp; first | done | (with_reducible rfl))
    try simp only [zA, zB, zC, zD, zE]
    refine wpAnyH_ready (rs := [3]) (by kernel_rfl) (by simp) ?_
    refine AllReadyH.cons rfl (fun K hK => ?_) AllReadyH.nil
    go_simp
    refine (rplanSize_any s t i h _ HH.out).mono ?_
    rintro r yS ⟨rfl, hb⟩
    rw [← Hn.out]
    go_simp
    have oS := below_only hS.1 hb
    refine hK.out _ _ (old_of oS) (fun hS => ?_)
    clear hK K
    try simp only [zA, zB, zC, zD, zE]
    refine wpAnyH_ready (rs := [4]) (by kernel_rfl) (by simp) ?_
    refine AllReadyH.cons rfl (fun K hK => ?_) AllReadyH.nil
    go_simp
    refine (rarnNew_any m n _ Hmm.out.1 Hmm.out.2.1 Hmm.out.2.2.1).mono ?_
    rintro r yA ⟨q, b, rfl, hA, hqb, hb⟩
    have Hqb : Hid (w.heap.size ≤ q ∧ w.heap.size ≤ b) := Lib.hid (by have := hS.1.size; have := HB.out.size; omega)
    clear hqb
    go_simp
    have oA := below_only hS.1 hb
    have HA := Lib.hid hA
    clear hA
    refine hK.out _ _ (old_of oA) (fun hS => ?_)
    clear hK K
    try simp only [zA, zB, zC, zD, zE]
    refine wpAnyH_ready (rs := [9]) (by kernel_rfl) (by simp) ?_
    refine AllReadyH.cons rfl (fun K hK => ?_) AllReadyH.nil
    go_simp
    refine (rnew_any (z + i) h m2 _ HG.out.1 HG.out.2.1 HG.out.2.2).mono ?_
    rintro r yG ⟨gp, gq, rfl, hG, hb⟩
    have HGq := Lib.hid (show gq ≠ q ∧ gq ≠ b ∧ gp ≠ b from by have h1 := lt_of_heap HA.out.row; have h2 := lt_of_heap HA.out.box; have h3 := hG.low; have h4 := hG.lowq; omega)
    have hlw : w.heap.size ≤ yA.heap.size := by have := hS.1.size; have := HB.out.size; omega
    have HGr := Lib.hid (show RG w.heap.size yG gp gq (z + i) (List.replicate m2 true) from { hG with low := Nat.le_trans hlw hG.low, lowq := Nat.le_trans hlw hG.lowq })
    clear hG hlw
    go_simp
    have oG := below_only hS.1 hb
    replace HA := Lib.hid (HA.out.below hb)
    refine hK.out _ _ (old_of oG) (fun hS => ?_)
    clear hK K
    try simp only [zA, zB, zC, zD, zE]
    refine wpAnyH_take_at (i := 10) (v := ?v10x1) (some 19) rfl rfl (by kernel_rfl) (by kernel_rfl) (by kernel_rfl) (fun _ _ _ h => h) (Or.inl ⟨by kernel_rfl, ?h10x1⟩) (by assumption) ?r10x1
    case h10x1 => (intro w hSw; (try dsimp only at hSw); go_simp; first | done | (with_reducible rfl))
    try simp only [zA, zB, zC, zD, zE]
    refine wpAnyH_ready (rs := [11]) (by kernel_rfl) (by simp) ?_
    refine AllReadyH.cons rfl (fun K hK => ?_) AllReadyH.nil
    go_simp
    refine k_alloc (fun yB hX hb => ?_)
    have hgX : w.heap.size ≤ yG.heap.size := by have := hS.1.size; have := HB.out.size; omega
    have hgqX : gq ≠ yG.heap.size := by have := HGr.out.lt; omega
    replace HGr := Lib.hid (HGr.out.below hb)
    have hbX : yG.heap.size ≠ b := by have := lt_of_heap HA.out.row; omega
    replace HA := Lib.hid (HA.out.below hb)
    have oB := below_only hS.1 hb
    obtain ⟨X, hXx⟩ : ∃ x, x = yG.heap.size := ⟨_, rfl⟩
    rw [← hXx] at hX hgX hbX hgqX ⊢
    clear hXx
    refine hK.out _ _ (old_of oB) (fun hS => ?_)
    clear hK K
    try simp only [zA, zB, zC, zD, zE]
    refine wpAnyH_take_at (i := 12) (v := ?v12x2) (some 6) rfl rfl (by kernel_rfl) (by kernel_rfl) (by kernel_rfl) (fun _ _ _ h => h) (Or.inl ⟨by kernel_rfl, ?h12x2⟩) (by assumption) ?r12x2
    case h12x2 => (intro w hSw; (try dsimp only at hSw); go_simp; first | done | (with_reducible rfl))
    try simp only [zA, zB, zC, zD, zE]
    refine wpAnyH_done (by kernel_rfl) ?_ _
    go_wp2_with fail
    go_meet
    exact ⟨X, q, b, gp, gq, rfl, ⟨⟨(gp, F), hX⟩, HA.out, hbX⟩, hX, HGr.out, ⟨HGq.out.1, HGq.out.2.1, hgqX, HGq.out.2.2⟩, ⟨hgX, Hqb.out⟩, by assumption⟩
  case rest =>
    obtain ⟨X, q, b, gp, gq, rfl, hA, hbx, hgr, hgn, hxqb, hb⟩ := hcut
    obtain ⟨w3, hwx⟩ : ∃ x, x = wc := ⟨_, rfl⟩
    subst hwx
    have Hxqb := Lib.hid hxqb
    have Hbx := Lib.hid hbx
    have Hgr := Lib.hid hgr
    have Hgn := Lib.hid hgn
    have HXb := Lib.hid hA.ne
    clear hbx hgr hgn
    have HA := Lib.hid hA
    have HNE : Hid (b ≠ w.heap.size) := Lib.hid (by
      intro e
      have h1 := hA.arn.row
      have h2 := row_below HR.out hb
      rw [e] at h1
      rw [h1] at h2
      simp at h2)
    replace HR := Lib.hid (row_below HR.out hb)
    have HB3 := Lib.hid (below_only HB.out hb)
    clear hb hA hxqb HB x0 x1 x2 x3 e0 e1 ze zx
    have Hg := Lib.hid (show (List.replicate m (0:Int))[0]? = some 0 by have := Hmm.out; rw [List.getElem?_replicate, if_pos (by omega)])
    go_wp2_with fail
    refine (rallTell_any X q b s t i h _ 0 0 0 immC _ HA.out Hg.out (by omega) (by omega) immC_right).mono ?_
    rintro r w4 ⟨rfl, hA, hK⟩
    replace Hbx := Lib.hid (hK.row Hbx.out (by simpa using HXb.out))
    replace Hgr := Lib.hid (Hgr.out.kept hK (by simpa using Hgn.out.2.2.2) (by simpa using Hgn.out.2.1))
    have HA1 := Lib.hid hA
    have HK1 := Lib.hid hK
    replace HR := Lib.hid (hK.row HR.out (by simpa using fun e => HNE.out e.symm))
    obtain ⟨x0, x1, x2, x3, _⟩ := box4 HR.out
    clear hA hK HA Hg
    go_wp2_with fail
    refine (rplanImmortal_any s t i h _ HH.out).mono ?_
    rintro r w5 ⟨rfl, hb⟩
    rw [← Hz.out]
    replace HR := Lib.hid (row_below HR.out hb)
    replace HA1 := Lib.hid (HA1.out.below hb)
    replace Hbx := Lib.hid (row_below Hbx.out hb)
    replace Hgr := Lib.hid (Hgr.out.below hb)
    have HK1b := Lib.hid (HK1.out.trans (keep_below hb [b]))
    clear hb x0 x1 x2 x3 HK1
    have Hg := Lib.hid (show ((List.replicate m (0:Int)).set 0 (word immC))[1]? = some 0 by have := Hmm.out; rw [List.getElem?_set, if_neg (by omega), List.getElem?_replicate, if_pos (by omega)])
    go_wp2_with fail
    refine (rallPut_any X q b s t i h _ 1 0 z 1 0 _ HA1.out Hg.out (by omega) (by decide) (by decide) HZ.out.1).mono ?_
    rintro r w6 ⟨rfl, hA, hK⟩
    replace Hbx := Lib.hid (hK.row Hbx.out (by simpa using HXb.out))
    replace Hgr := Lib.hid (Hgr.out.kept hK (by simpa using Hgn.out.2.2.2) (by simpa using Hgn.out.2.1))
    have HA2 := Lib.hid hA
    have HK2 := Lib.hid (HK1b.out.trans hK)
    replace HR := Lib.hid (hK.row HR.out (by simpa using fun e => HNE.out e.symm))
    obtain ⟨x0, x1, x2, x3, _⟩ := box4 HR.out
    clear hA hK HA1 Hg HK1b
    have Hg := Lib.hid (show (((List.replicate m (0:Int)).set 0 (word immC)).set 1 z)[2]? = some 0 by have := Hmm.out; rw [List.getElem?_set, if_neg (by omega), List.getElem?_set, if_neg (by omega), List.getElem?_replicate, if_pos (by omega)])
    go_wp2_with fail
    refine (rallPut_any X q b s t i h _ 2 0 i 2 0 _ HA2.out Hg.out (by omega) (by decide) (by decide) HZ.out.2).mono ?_
    rintro r w7 ⟨rfl, hA, hK⟩
    replace Hbx := Lib.hid (hK.row Hbx.out (by simpa using HXb.out))
    replace Hgr := Lib.hid (Hgr.out.kept hK (by simpa using Hgn.out.2.2.2) (by simpa using Hgn.out.2.1))
    have HI := Lib.hid (And.intro hA (Keep.under HB3.out (HK2.out.trans hK) (by have := HB3.out.size; omega) (by simp; exact Hxqb.out.2.2)))
    clear hA hK Hg HA2 HK2 HB3 x0 x1 x2 x3 HR
    go_wp2_with fail
    go_ret
    exact ⟨X, q, b, gp, gq, rfl, by rw [HW.out]; exact HI.out.1, Hbx.out, by rw [← Hm2.out, ← Hz.out]; exact Hgr.out, Hgn.out, Hxqb.out, HI.out.2⟩

structure RFs (B : Nat) (w : World) (X q b gp gq : Nat) (s t i h f e : Int) (S : Sco) (ws : List Int) : Prop where
  all : RAll w X q b s t i h ws
  box : ∃ F : Sl, w.heap[X]? = some (.cells #[.int .i64 s, .int .i64 t, .int .i64 i, .int .i64 h, .slice F.a F.n F.c, .pointer (some ⟨q, 0, none⟩), .pointer (some ⟨gp, 0, none⟩)] 82 (0, 0))
  rg : ∃ bb, RG B w gp gq f bb ∧ Twin f e S.F bb
  s : WsS ws S
  ok : ∀ x ∈ S.l, ScOk x
  sz : ∀ x ∈ S.l, 0 ≤ x.x.2 ∧ x.x.2 ≤ 131072
  n1 : 1 ≤ S.l.length
  n8 : S.l.length ≤ 8
  f0 : 0 ≤ f
  e1 : e ≤ 131072
  low : B ≤ X ∧ B ≤ q ∧ B ≤ b
  ne : gq ≠ q ∧ gq ≠ b ∧ gq ≠ X ∧ gp ≠ b
section
variable {B : Nat} {w w' : World} {X q b gp gq : Nat} {s t i h f e : Int} {S : Sco} {ws : List Int}
theorem RFs.below (H : RFs B w X q b gp gq s t i h f e S ws) (hb : Below w.heap.size w w') : RFs B w' X q b gp gq s t i h f e S ws :=
  { H with all := H.all.below hb, box := H.box.imp fun _ h => row_below h hb, rg := H.rg.imp fun _ h => ⟨h.1.below hb, h.2⟩ }
theorem RFs.kept {T : List Nat} (H : RFs B w X q b gp gq s t i h f e S ws) (k : Keep T w w') (hT : ∀ j ∈ T, j ∉ [X, q, b, gp, gq]) : RFs B w' X q b gp gq s t i h f e S ws :=
  { H with all := H.all.kept k (fun hm => hT _ hm (by simp)) (fun hm => hT _ hm (by simp)) (fun hm => hT _ hm (by simp)), box := H.box.imp fun _ h => k.row h (fun hm => hT _ hm (by simp)),
           rg := H.rg.imp fun _ h => ⟨h.1.kept k (fun hm => hT _ hm (by simp)) (fun hm => hT _ hm (by simp)), h.2⟩ }
theorem RFs.lt (H : RFs B w X q b gp gq s t i h f e S ws) : X < w.heap.size ∧ q < w.heap.size ∧ b < w.heap.size ∧ gp < w.heap.size ∧ gq < w.heap.size := by
  obtain ⟨bb, hr, _⟩ := H.rg
  obtain ⟨_, h9⟩ := H.box
  exact ⟨lt_of_heap h9, lt_of_heap H.all.arn.box, lt_of_heap H.all.arn.row, hr.lt.1, hr.lt.2⟩
theorem RFs.lows (H : RFs B w X q b gp gq s t i h f e S ws) : B ≤ X ∧ B ≤ q ∧ B ≤ b ∧ B ≤ gp ∧ B ≤ gq := by
  obtain ⟨bb, hr, _⟩ := H.rg
  exact ⟨H.low.1, H.low.2.1, H.low.2.2, hr.low, hr.lowq⟩
theorem RFs.under (H : RFs B w X q b gp gq s t i h f e S ws) {a : World} (hb : Below B a w) (k : Keep [b, gq] w w') : Below B a w' :=
  Keep.under hb k (Nat.le_trans H.low.2.2 (Nat.le_of_lt H.lt.2.2.1)) (fun j hj => by have := H.lows; simp at hj; omega)
end
theorem rfs_new {B : Nat} {w : World} {X q b gp gq : Nat} {s t i h : Int} (H : PlanOk s t i h) (hA : RAll w X q b s t i h (newWs s i h)) (F : Sl) (hX : w.heap[X]? = some (.cells #[.int .i64 s, .int .i64 t, .int .i64 i, .int .i64 h, .slice F.a F.n F.c, .pointer (some ⟨q, 0, none⟩), .pointer (some ⟨gp, 0, none⟩)] 82 (0, 0))) (hG : RG B w gp gq (64 * s + i) (List.replicate (h / 8).toNat true)) (hn : gq ≠ q ∧ gq ≠ b ∧ gq ≠ X ∧ gp ≠ b) (hl : B ≤ X ∧ B ≤ q ∧ B ≤ b) :
    RFs B w X q b gp gq s t i h (64 * s + i) (64 * s + i + h) (newS ⟨s, t, i, h⟩) (newWs s i h) := by
  have hlen : (newS ⟨s, t, i, h⟩).l.length = s.toNat := by have := H.s0; simp [newS]; omega
  obtain ⟨s0, s1, t0, t1, i0, i1, h0, h1, i8, h8⟩ := H
  have H := PlanOk.mk s0 s1 t0 t1 i0 i1 h0 h1 i8 h8
  refine ⟨hA, ⟨F, hX⟩, ⟨_, hG, ?_⟩, wsS_new H, ?_, ?_, by omega, by omega, by omega, by omega, hl, hn⟩
  · simp only [newS]
    rw [Int.mul_comm s 64]
    exact Twin.new (by omega) (by omega)
  · intro x hx
    simp only [newS, List.mem_cons, List.mem_replicate] at hx
    rcases hx with rfl | ⟨_, rfl⟩
    · exact ⟨immC_right, by simp only; omega, by simp only; omega⟩
    · exact ⟨by decide, by decide, by decide⟩
  · intro x hx
    simp only [newS, List.mem_cons, List.mem_replicate] at hx
    rcases hx with rfl | ⟨_, rfl⟩
    · simp only; omega
    · simp only [scFree]; omega

set_option maxRecDepth 100000 in
set_option maxHeartbeats 4000000 in
theorem rcreate_any (B X q b gp gq : Nat) (s t i h f e : Int) (S : Sco) (ws : List Int) (n : Int) (r : Rn) (w : World) (H : PlanOk s t i h) (hF : RFs B w X q b gp gq s t i h f e S ws) (hn : (S.l.length : Int) = s) (h0 : ∃ z, S.l[0]? = some z ∧ z.c.st = 2) (hin : inB n 1 8192 = true) (hs : r.said = noS) (ha : r.c.a = n) :
    Calls Tryz.prog 75 #[.pointer (some ⟨X, 0, none⟩), r.v] w fun y w' => y = .returned (toldR r (createS n S).1.2 (createS n S).1.1 noS).v ∧ RFs B w' X q b gp gq s t i h f e (createS n S).2 (createW n S ws) ∧ Keep [b, gq] w w' := by
  have HF := Lib.hid hF
  have HH := Lib.hid H
  have Hsd := Lib.hid hs
  have Ha := Lib.hid ha
  have Hin := Lib.hid hin
  have Hz0 := Lib.hid h0
  have n8 := hF.n8
  have n1 := hF.n1
  obtain ⟨m, hm⟩ : ∃ m : Nat, m = S.l.length := ⟨_, rfl⟩
  obtain rfl : s = (m : Int) := by rw [hm, hn]
  rw [← hm] at n8 n1
  have Hm := Lib.hid hm
  clear hF H hs ha hin h0 hn hm
  go_enter Tryz.func75, Tryz.ntmps75
  go_upto_region 1 with fail
  refine two_rows' w _ _ _ _ ?_
  intro W hR hZ hB
  have HR := Lib.hid (show W.heap[w.heap.size]? = some (.cells r.arr 43 (0, 0)) from hR)
  have HZ := Lib.hid (show W.heap[w.heap.size + 1]? = some (.cells ZRun 43 (0, 0)) from hZ)
  have HB := Lib.hid hB
  clear hR hZ hB
  go_wp2_with fail
  go_loopw [5] (fun u wr => ∃ j : Nat, 1 ≤ j ∧ j ≤ m ∧ u = .int .i64 j ∧ (∀ (i : Nat) y, i < j → S.l[i]? = some y → (y.c.st == 0) = false) ∧ Below W.heap.size W wr) (fun u _ => (m - (intOf u).toNat))
  case atStart => exact ⟨1, Nat.le_refl _, n1, rfl, fun i y hi hy => by obtain ⟨z, hz, hz2⟩ := Hz0.out; have : i = 0 := (by omega); subst this; rw [hz] at hy; injection hy with hy; subst hy; rw [hz2]; rfl, Below.refl _ _⟩
  case round =>
    obtain ⟨j, hj1, hj, rfl, hno, hbw⟩ := hrel
    have Hno := Lib.hid hno
    have HBw := Lib.hid hbw
    have HB1 := Lib.hid (HB.out.trans (hbw.mono HB.out.size))
    have HF1 := Lib.hid (HF.out.below HB1.out)
    replace HR := Lib.hid (row_below HR.out hbw)
    replace HZ := Lib.hid (row_below HZ.out hbw)
    clear hno hbw
    have x0 : wr.cell? ⟨X, 0, none⟩ = some (.int .i64 (m : Int)) := by obtain ⟨_, h9⟩ := HF1.out.box; rw [row_cell h9]; rfl
    have zX := HF1.out.lt.1
    by_cases hlt : j < m
    · obtain ⟨⟨⟨c1, c2, c3, c4⟩, ⟨z1, z2⟩⟩, hx⟩ : ∃ x, S.l[j]? = some x := ⟨_, List.getElem?_eq_getElem (by rw [← Hm.out]; exact hlt)⟩
      have Hx := Lib.hid hx
      have Hr := Lib.hid (HF.out.ok _ (List.mem_of_getElem? hx)).r
      have Hw0 := Lib.hid (HF.out.s.blk j _ hx)
      have Hj : Hid (0 ≤ (j : Int) ∧ (j : Int) ≤ 7) := Lib.hid (by omega)
      clear hx
      go_wp2_with fail
      refine (rallCtl_any X q b m t i h ws (8 * j) j ⟨c1, c2, c3, c4⟩ _ HF1.out.all Hr.out Hw0.out.1 (by omega) Hj.out).mono ?_
      rintro r' w1 ⟨rfl, hb⟩
      replace HR := Lib.hid (row_below HR.out hb)
      replace HZ := Lib.hid (row_below HZ.out hb)
      replace HB1 := Lib.hid (below_only HB1.out hb)
      replace HBw := Lib.hid (below_only HBw.out hb)
      replace HF1 := Lib.hid (HF1.out.below hb)
      clear hb x0 zX
      go_upto_region 5 with fail
      refine one_row w1 _ _ ?_
      intro w2 hC hb
      obtain ⟨gc, hgc⟩ : ∃ x, x = w1.heap.size := ⟨_, rfl⟩
      rw [← hgc] at hC ⊢
      have Hgc : Hid (gc ∉ [X, q, b, gp, gq] ∧ gc ≠ w.heap.size ∧ gc ≠ w.heap.size + 1 ∧ w.heap.size ≤ gc) := Lib.hid ⟨by have := HF1.out.lt; simp; omega, by have := lt_of_heap HR.out; omega, by have := lt_of_heap HZ.out; omega, by have := HB1.out.size; omega⟩
      have HC := Lib.hid (show w2.heap[gc]? = some (.cells #[.int .i64 c1, .int .i64 c2, .int .i64 c3, .int .i64 c4] 61 (0, 0)) from hC)
      replace HR := Lib.hid (row_below HR.out hb)
      replace HZ := Lib.hid (row_below HZ.out hb)
      replace HB1 := Lib.hid (below_only HB1.out hb)
      replace HBw := Lib.hid (below_only HBw.out hb)
      replace HF1 := Lib.hid (HF1.out.below hb)
      have y0 := (box4 hC).1
      have zc := lt_of_heap hC
      clear hb hgc hC
      by_cases h0 : c1 = 0
      · subst h0
        have Hfr := Lib.hid (freeAt_some Hx.out rfl Hno.out)
        have q4 : w2.cell? ⟨w.heap.size, 4, none⟩ = some (.int .i64 n) := by rw [row_cell HR.out, ← Ha.out]; rfl
        have zR := lt_of_heap HR.out
        have x6 : w2.cell? ⟨X, 6, none⟩ = some (.pointer (some ⟨gp, 0, none⟩)) := by obtain ⟨_, h9⟩ := HF1.out.box; rw [row_cell h9]; rfl
        have zX := HF1.out.lt.1
        have Hup := Lib.hid (up8_ok Hin.out)
        obtain ⟨d, hd⟩ : ∃ d, (n + 7) / 8 = d := ⟨_, rfl⟩
        have Hd : Hid (up8 n = d * 8) := Lib.hid (by unfold up8; rw [hd])
        have hn0 : 0 ≤ n + 7 := by have := Hup.out; omega
        have hn1 : IntKind.i64.wrap (n + 7) = n + 7 := IntWalk.i64_in _ (by have := Hup.out; omega)
        have hd1 : (n + 7).tdiv 8 = d := by rw [Int.tdiv_eq_ediv_of_nonneg hn0]; exact hd
        have hd2 : IntKind.i64.wrap d = d := IntWalk.i64_in _ (by have := Hup.out; omega)
        have hd3 : IntKind.i64.wrap (d * 8) = d * 8 := IntWalk.i64_in _ (by have := Hup.out; omega)
        clear Hno hlt hj hj1
        go_wp2_with fail
        rw [← Hd.out]
        obtain ⟨bb, hrg, htw⟩ := HF1.out.rg
        refine (rcarve_any B gp gq f e S.F bb (up8 n) _ hrg htw).mono ?_
        rintro r' w3 ⟨rfl, ⟨bb', -, hG, hT⟩, hK⟩
        have HG := Lib.hid hG
        have HT := Lib.hid hT
        have HA := Lib.hid (HF1.out.all.kept hK (by simpa using HF.out.ne.2.2.1.symm) (by simpa using HF.out.ne.1.symm) (by simpa using HF.out.ne.2.1.symm))
        obtain ⟨FF, hFF⟩ := HF1.out.box
        have HX := Lib.hid (hK.row hFF (by simpa using HF.out.ne.2.2.1.symm))
        have hlw := HF1.out.lt
        have hlg := HF.out.lt
        replace HR := Lib.hid (hK.row HR.out (by simp; omega))
        replace HZ := Lib.hid (hK.row HZ.out (by simp; omega))
        replace HC := Lib.hid (hK.row HC.out (by simpa using fun h9 => Hgc.out.1 (by simp [h9])))
        have HK := Lib.hid ((keep_below HB1.out [b, gq]).trans (hK.sub (by simp)))
        clear hG hT hK hrg htw hlw y0 zc q4 zR x6 zX hd hn0 hn1 hd1 hd2 hd3
        cases hok : (carveF (up8 n) S.F).2.1 with
        | false =>
          have HS := Lib.hid (createS_at Hin.out Hfr.out Hx.out)
          rw [hok, if_neg (by simp)] at HS
          have HFn := Lib.hid (carve_false hok).2
          have Hcw : Hid (createW n S ws = ws) := Lib.hid (createW_refused (by rw [HS.out]; simp))
          clear hok
          go_wp2_with (first | refine wpList_load_row rfl 43 (.tmp 3) rfl w.heap.size rfl 43 r.arr (0, 0) _ HR.out undRun rfl infoRun ?_)
          refine (rtell_any r 14 0 _).mono ?_
          rintro r' w4 ⟨rfl, hb⟩
          rw [Hsd.out]
          replace HZ := Lib.hid (row_below HZ.out hb)
          have HF4 := Lib.hid (RFs.mk (B := B) (w := w4) (f := f) (e := e) (S := S) (HA.out.below hb) ⟨_, row_below HX.out hb⟩ ⟨bb', HG.out.below hb, by have := HT.out; rw [HFn.out] at this; exact this⟩ HF.out.s HF.out.ok HF.out.sz HF.out.n1 HF.out.n8 HF.out.f0 HF.out.e1 HF.out.low HF.out.ne)
          replace HK := Lib.hid (HK.out.call hb)
          clear hb
          go_wp2_with (first | refine wpList_store_row rfl 43 (.tmp 4) (.tmp 43) rfl (w.heap.size + 1) (toldR r 14 0 noS).arr rfl rfl 43 ZRun HZ.out infoRun rfl (Rn.one _) ?_)
          refine bodyPost_ret (results_cell_row (fn := Tryz.f75) rfl _ _ (w.heap.size + 1) 43 (toldR r 14 0 noS).arr (0, 0) _ rfl (setRow_heap w4 _ _ _ _ (0, 0) HZ.out) undRun rfl infoRun) rfl ?_
          rw [HS.out, Hcw.out]
          exact ⟨rfl, HF4.out.kept ((Keep.refl [w.heap.size + 1] w4).setRow (g := w.heap.size + 1) (.inl (by simp)) _) (fun j hj hm => by simp only [List.mem_singleton] at hj; subst hj; have := HF.out.lt; simp at hm; omega), HK.out.setRow (.inr (by omega)) _⟩
        | true =>
          have HS := Lib.hid (createS_at Hin.out Hfr.out Hx.out)
          rw [hok, if_pos rfl] at HS
          have hgot := (carve_got (by obtain ⟨_, _, h9⟩ := HF.out.rg; exact h9.can) hok).2.2.2.1
          have Hcan := Lib.hid (show Canon f e S.F by obtain ⟨_, _, h9⟩ := HF.out.rg; exact h9.can)
          have Hcw : Hid (createW n S ws = madeWs ws j ⟨1, c2, c3, c4⟩ (carveF (up8 n) S.F).1 (up8 n)) := Lib.hid (by
            unfold createW
            rw [Hfr.out]
            simp only [Hx.out]
            rw [if_pos (by rw [HS.out])])
          obtain ⟨at_, Hat⟩ : ∃ x, Hid ((carveF (up8 n) S.F).1 = x) := ⟨_, Lib.hid rfl⟩
          obtain ⟨F', HF'⟩ : ∃ x, Hid ((carveF (up8 n) S.F).2.2 = x) := ⟨_, Lib.hid rfl⟩
          obtain ⟨z, Hz⟩ : ∃ x, Hid (up8 n = x) := ⟨_, Lib.hid rfl⟩
          rw [HF'.out] at HT HS
          rw [Hat.out, Hz.out] at hgot Hcw HS ⊢
          have hat : 0 ≤ at_ ∧ at_ ≤ 131072 := by have h1 := hgot.1; have h2 := hgot.2.1; have h3 := hgot.2.2.2.2; have h4 := HF.out.f0; have h5 := HF.out.e1; simp only at h1 h2 h3; omega
          have hz : 0 ≤ z ∧ z ≤ 8192 := by have := Hup.out; rw [Hz.out] at this; omega
          have Hatz := Lib.hid (And.intro hat hz)
          have hwa : IntKind.u64.wrap at_ = at_ := IntWalk.u64_in _ (by omega)
          have hwz : IntKind.u64.wrap z = z := IntWalk.u64_in _ (by omega)
          clear hok hgot hat hz
          obtain ⟨y0, y1, y2, y3, y0f, y1f, y2f, y3f⟩ := box4 HC.out
          have zc := lt_of_heap HC.out
          go_upto_region 11 with fail
          refine k_setc w3 gc 0 _ _ _ HC.out ?_
          intro w5 hC hk
          replace HC := Lib.hid (show w5.heap[gc]? = some (.cells #[.int .i64 1, .int .i64 c2, .int .i64 c3, .int .i64 c4] 61 (0, 0)) from hC)
          replace HR := Lib.hid (hk.row HR.out (by simpa using Hgc.out.2.1.symm))
          replace HZ := Lib.hid (hk.row HZ.out (by simpa using Hgc.out.2.2.1.symm))
          replace HA := Lib.hid (HA.out.kept hk (by simpa using fun h9 => Hgc.out.1 (by simp [h9])) (by simpa using fun h9 => Hgc.out.1 (by simp [h9])) (by simpa using fun h9 => Hgc.out.1 (by simp [h9])))
          replace HX := Lib.hid (hk.row HX.out (by simpa using fun h9 => Hgc.out.1 (by simp [h9])))
          replace HG := Lib.hid (HG.out.kept hk (by simpa using fun h9 => Hgc.out.1 (by simp [h9])) (by simpa using fun h9 => Hgc.out.1 (by simp [h9])))
          replace HK := Lib.hid (HK.out.then hk (fun i hi h9 => by simp at h9; have := Hgc.out.2.2.2; omega))
          clear hC hk y0 y1 y2 y3 y0f y1f y2f y3f zc
          obtain ⟨y0, y1, y2, y3, _⟩ := box4 HC.out
          go_wp2_with fail
          refine (rallTell_any X q b m t i h ws (8 * j) _ j ⟨1, c2, c3, c4⟩ _ HA.out Hw0.out.1 (by omega) Hj.out ⟨Hr.out.1, Hr.out.2.1, .inl ⟨.inr rfl, by have := Hr.out.2.2; simp only at this ⊢; omega, by have := Hr.out.2.2; simp only at this ⊢; omega⟩⟩).mono ?_
          rintro r' w6 ⟨rfl, hA4, hK4⟩
          clear y0 y1 y2 y3
          replace HX := Lib.hid (hK4.row HX.out (by simpa using HF.out.all.ne))
          replace HG := Lib.hid (HG.out.kept hK4 (by simpa using HF.out.ne.2.2.2) (by simpa using HF.out.ne.2.1))
          replace HR := Lib.hid (hK4.row HR.out (by simp; have := HF.out.lt; omega))
          replace HZ := Lib.hid (hK4.row HZ.out (by simp; have := HF.out.lt; omega))
          replace HK := Lib.hid (HK.out.trans (hK4.sub (by simp)))
          replace HA := Lib.hid hA4
          clear hA4 hK4
          go_wp2_with fail
          refine (rallPut_any X q b m t i h _ (8 * j + 1) z1 at_ 1 j _ HA.out (by rw [List.getElem?_set, if_neg (by omega)]; exact Hw0.out.2.1) (by omega) (by decide) Hj.out (by have := Hatz.out; omega)).mono ?_
          rintro r' w7 ⟨rfl, hA4, hK4⟩
          replace HX := Lib.hid (hK4.row HX.out (by simpa using HF.out.all.ne))
          replace HG := Lib.hid (HG.out.kept hK4 (by simpa using HF.out.ne.2.2.2) (by simpa using HF.out.ne.2.1))
          replace HR := Lib.hid (hK4.row HR.out (by simp; have := HF.out.lt; omega))
          replace HZ := Lib.hid (hK4.row HZ.out (by simp; have := HF.out.lt; omega))
          replace HK := Lib.hid (HK.out.trans (hK4.sub (by simp)))
          replace HA := Lib.hid hA4
          clear hA4 hK4
          go_wp2_with fail
          refine (rallPut_any X q b m t i h _ (8 * j + 2) z2 z 2 j _ HA.out (by rw [List.getElem?_set, if_neg (by omega)]; rw [List.getElem?_set, if_neg (by omega)]; exact Hw0.out.2.2) (by omega) (by decide) Hj.out (by have := Hatz.out; omega)).mono ?_
          rintro r' w8 ⟨rfl, hA4, hK4⟩
          replace HX := Lib.hid (hK4.row HX.out (by simpa using HF.out.all.ne))
          replace HG := Lib.hid (HG.out.kept hK4 (by simpa using HF.out.ne.2.2.2) (by simpa using HF.out.ne.2.1))
          replace HR := Lib.hid (hK4.row HR.out (by simp; have := HF.out.lt; omega))
          replace HZ := Lib.hid (hK4.row HZ.out (by simp; have := HF.out.lt; omega))
          replace HK := Lib.hid (HK.out.trans (hK4.sub (by simp)))
          replace HA := Lib.hid hA4
          clear hA4 hK4
          obtain ⟨o3, ho3⟩ : ∃ x, ws[8 * j + 3]? = some x := ⟨_, List.getElem?_eq_getElem (by have := HF.out.s.lt (k := j) (List.getElem?_eq_some_iff.1 Hx.out).1; omega)⟩
          have Ho3 := Lib.hid ho3
          clear ho3
          go_wp2_with fail
          refine (rallPut_any X q b m t i h _ (8 * j + 3) o3 0 3 j _ HA.out (by rw [List.getElem?_set, if_neg (by omega)]; rw [List.getElem?_set, if_neg (by omega)]; rw [List.getElem?_set, if_neg (by omega)]; exact Ho3.out) (by omega) (by decide) Hj.out (by have := Hatz.out; omega)).mono ?_
          rintro r' w9 ⟨rfl, hA4, hK4⟩
          replace HX := Lib.hid (hK4.row HX.out (by simpa using HF.out.all.ne))
          replace HG := Lib.hid (HG.out.kept hK4 (by simpa using HF.out.ne.2.2.2) (by simpa using HF.out.ne.2.1))
          replace HR := Lib.hid (hK4.row HR.out (by simp; have := HF.out.lt; omega))
          replace HZ := Lib.hid (hK4.row HZ.out (by simp; have := HF.out.lt; omega))
          replace HK := Lib.hid (HK.out.trans (hK4.sub (by simp)))
          replace HA := Lib.hid hA4
          clear hA4 hK4
          obtain ⟨o4, ho4⟩ : ∃ x, ws[8 * j + 4]? = some x := ⟨_, List.getElem?_eq_getElem (by have := HF.out.s.lt (k := j) (List.getElem?_eq_some_iff.1 Hx.out).1; omega)⟩
          have Ho4 := Lib.hid ho4
          clear ho4
          go_wp2_with fail
          refine (rallPut_any X q b m t i h _ (8 * j + 4) o4 0 4 j _ HA.out (by rw [List.getElem?_set, if_neg (by omega)]; rw [List.getElem?_set, if_neg (by omega)]; rw [List.getElem?_set, if_neg (by omega)]; rw [List.getElem?_set, if_neg (by omega)]; exact Ho4.out) (by omega) (by decide) Hj.out (by have := Hatz.out; omega)).mono ?_
          rintro r' w10 ⟨rfl, hA4, hK4⟩
          replace HX := Lib.hid (hK4.row HX.out (by simpa using HF.out.all.ne))
          replace HG := Lib.hid (HG.out.kept hK4 (by simpa using HF.out.ne.2.2.2) (by simpa using HF.out.ne.2.1))
          replace HR := Lib.hid (hK4.row HR.out (by simp; have := HF.out.lt; omega))
          replace HZ := Lib.hid (hK4.row HZ.out (by simp; have := HF.out.lt; omega))
          replace HK := Lib.hid (HK.out.trans (hK4.sub (by simp)))
          replace HA := Lib.hid hA4
          clear hA4 hK4
          obtain ⟨HS9, HS10⟩ : Hid (∀ x ∈ (S.l.set j ⟨⟨1, c2, c3, c4⟩, (at_, z)⟩), ScOk x) ∧ Hid (∀ x ∈ (S.l.set j ⟨⟨1, c2, c3, c4⟩, (at_, z)⟩), 0 ≤ x.x.2 ∧ x.x.2 ≤ 131072) := by
            have h9 := sco_fine (f := f) (e := e) (n := n) HF.out.ok Hcan.out HF.out.f0 HF.out.e1
            have h10 := sco_size (n := n) HF.out.sz
            rw [HS.out] at h9 h10
            exact ⟨Lib.hid h9, Lib.hid h10⟩
          go_wp2_with (first | refine wpList_load_row rfl 43 (.tmp 3) rfl w.heap.size rfl 43 r.arr (0, 0) _ HR.out undRun rfl infoRun ?_)
          refine (rtell_any r 0 j _).mono ?_
          rintro r' w12 ⟨rfl, hb⟩
          rw [Hsd.out]
          replace HZ := Lib.hid (row_below HZ.out hb)
          have HF4 := Lib.hid (RFs.mk (B := B) (w := w12) (f := f) (e := e) (S := ⟨S.l.set j ⟨⟨1, c2, c3, c4⟩, (at_, z)⟩, F'⟩) (HA.out.below hb) ⟨_, row_below HX.out hb⟩ ⟨bb', HG.out.below hb, HT.out⟩ (HF.out.s.made (List.getElem?_eq_some_iff.1 Hx.out).1 ⟨1, c2, c3, c4⟩ at_ z F') HS9.out HS10.out (by simpa using HF.out.n1) (by simpa using HF.out.n8) HF.out.f0 HF.out.e1 HF.out.low HF.out.ne)
          replace HK := Lib.hid (HK.out.call hb)
          clear hb
          go_wp2_with (first | refine wpList_store_row rfl 43 (.tmp 4) (.tmp 67) rfl (w.heap.size + 1) (toldR r 0 j noS).arr rfl rfl 43 ZRun HZ.out infoRun rfl (Rn.one _) ?_)
          refine bodyPost_ret (results_cell_row (fn := Tryz.f75) rfl _ _ (w.heap.size + 1) 43 (toldR r 0 j noS).arr (0, 0) _ rfl (setRow_heap w12 _ _ _ _ (0, 0) HZ.out) undRun rfl infoRun) rfl ?_
          rw [HS.out, Hcw.out]
          exact ⟨rfl, HF4.out.kept ((Keep.refl [w.heap.size + 1] w12).setRow (g := w.heap.size + 1) (.inl (by simp)) _) (fun j hj hm => by simp only [List.mem_singleton] at hj; subst hj; have := HF.out.lt; simp at hm; omega), HK.out.setRow (.inr (by omega)) _⟩
      · have q0 : (c1 == 0) = false := by simpa using h0
        have Q0 := Lib.hid q0
        clear h0
        go_wp2_with fail
        go_roundw
        case rel =>
          refine ⟨j + 1, by omega, hlt, by go_num, fun i' y hi hy => ?_, HBw.out⟩
          by_cases h9 : i' = j
          · subst h9
            rw [Hx.out] at hy
            injection hy with hy
            subst hy
            exact Q0.out
          · exact Hno.out i' y (by omega) hy
        case measure => simp [intOf]; omega
    · have hjm : j = m := by omega
      have Hfr := Lib.hid (freeAt_none (l := S.l) fun i' y hy => Hno.out i' y (by have := (List.getElem?_eq_some_iff.1 hy).1; rw [← Hm.out] at this; omega) hy)
      have HS := Lib.hid (createS_many Hin.out Hfr.out)
      have Hcw : Hid (createW n S ws = ws) := Lib.hid (createW_refused (by rw [HS.out]; simp))
      clear Hno hjm
      go_wp2_with (first | refine wpList_load_row rfl 43 (.tmp 3) rfl w.heap.size rfl 43 r.arr (0, 0) _ HR.out undRun rfl infoRun ?_)
      refine (rtell_any r 13 0 _).mono ?_
      rintro r' w4 ⟨rfl, hb⟩
      rw [Hsd.out]
      replace HZ := Lib.hid (row_below HZ.out hb)
      replace HF1 := Lib.hid (HF1.out.below hb)
      replace HB1 := Lib.hid (below_only HB1.out hb)
      clear hb
      go_wp2_with (first | refine wpList_store_row rfl 43 (.tmp 4) (.tmp 69) rfl (w.heap.size + 1) (toldR r 13 0 noS).arr rfl rfl 43 ZRun HZ.out infoRun rfl (Rn.one _) ?_)
      refine bodyPost_ret (results_cell_row (fn := Tryz.f75) rfl _ _ (w.heap.size + 1) 43 (toldR r 13 0 noS).arr (0, 0) _ rfl (setRow_heap w4 _ _ _ _ (0, 0) HZ.out) undRun rfl infoRun) rfl ?_
      rw [HS.out, Hcw.out]
      exact ⟨rfl, HF1.out.kept ((Keep.refl [w.heap.size + 1] w4).setRow (g := w.heap.size + 1) (.inl (by simp)) _) (fun j hj hm => by simp only [List.mem_singleton] at hj; subst hj; have := HF.out.lt; simp at hm; omega), (keep_below HB1.out _).setRow (.inr (by omega)) _⟩


set_option maxRecDepth 100000 in
set_option maxHeartbeats 4000000 in
theorem rmake_any (B X q b gp gq : Nat) (s t i h f e : Int) (S : Sco) (ws : List Int) (mk : Bool) (n : Int) (ch : Sl) (w : World) (H : PlanOk s t i h) (hF : RFs B w X q b gp gq s t i h f e S ws) (hn : (S.l.length : Int) = s) (h0 : ∃ z, S.l[0]? = some z ∧ z.c.st = 2) (hmk : mk = true) :
    Calls Tryz.prog 33 #[.pointer (some ⟨X, 0, none⟩), (begR s mk n ch).v] w fun y w' => y = .returned (run14 f e s mk n S ch).v ∧ RFs B w' X q b gp gq s t i h f e (does14 f e mk n S) (words14 mk n S ws) ∧ Keep [b, gq] w w' := by
  have HF := Lib.hid hF
  have HH := Lib.hid H
  have HC : Hid (∀ w1, RFs B w1 X q b gp gq s t i h f e S ws → (mk = true → Calls Tryz.prog 75 #[.pointer (some ⟨X, 0, none⟩), (begR s mk n ch).v] w1 fun y w' => y = .returned (run14 f e s mk n S ch).v ∧ RFs B w' X q b gp gq s t i h f e (does14 f e mk n S) (words14 mk n S ws) ∧ Keep [b, gq] w1 w') ∧
      (mk = false → Calls Tryz.prog 76 #[.pointer (some ⟨X, 0, none⟩), (begR s mk n ch).v] w1 fun y w' => y = .returned (run14 f e s mk n S ch).v ∧ RFs B w' X q b gp gq s t i h f e (does14 f e mk n S) (words14 mk n S ws) ∧ Keep [b, gq] w1 w')) := Lib.hid fun w1 hF1 => by
    constructor
    · rintro rfl
      exact (rcreate_any B X q b gp gq s t i h f e S ws (begA true n) _ w1 H hF1 hn h0 (begA_in n) (by rw [begR_make]) (by rw [begR_make]; simp [begA])).mono fun y w' hh => hh
    · rintro rfl
      cases hmk
  have Hop : Hid ((begR s mk n ch).c.op = (if mk then 2 else 3)) := Lib.hid (by cases mk <;> rfl)
  clear hF H hn h0 hmk
  obtain ⟨r, HRr⟩ : ∃ x, Hid (begR s mk n ch = x) := ⟨_, Lib.hid rfl⟩
  obtain ⟨r2, HR2⟩ : ∃ x, Hid (run14 f e s mk n S ch = x) := ⟨_, Lib.hid rfl⟩
  rw [HRr.out, HR2.out] at HC
  rw [HRr.out] at Hop ⊢
  rw [HR2.out]
  go_enter Tryz.func33, Tryz.ntmps33
  go_upto_region 1 with fail
  refine two_rows' w _ _ _ _ ?_
  intro W hR hZ hB
  have HR := Lib.hid (show W.heap[w.heap.size]? = some (.cells r.arr 43 (0, 0)) from hR)
  have HZ := Lib.hid (show W.heap[w.heap.size + 1]? = some (.cells ZRun 43 (0, 0)) from hZ)
  have HB := Lib.hid hB
  have HF1 := Lib.hid (HF.out.below hB)
  have q0 : W.cell? ⟨w.heap.size, 0, none⟩ = some (.int .u8 (if mk then 2 else 3)) := by rw [row_cell hR, ← Hop.out]; rfl
  have zR := lt_of_heap hR
  clear hR hZ hB
  cases mk with
  | true =>
    simp only [if_true] at q0
    go_wp2_with (first | refine wpList_load_row rfl 43 (.tmp 3) rfl w.heap.size rfl 43 r.arr (0, 0) _ HR.out undRun rfl infoRun ?_)
    refine ((HC.out _ HF1.out).1 (by first | rfl | trivial)).mono ?_
    rintro y w2 ⟨rfl, hF2, hK2⟩
    have hlt := HF.out.lt
    replace HZ := Lib.hid (hK2.row HZ.out (by simp; omega))
    have HF2 := Lib.hid hF2
    have HK := Lib.hid ((keep_below HB.out [b, gq]).trans hK2)
    clear hF2 hK2 q0 zR hlt
    go_wp2_with (first | refine wpList_store_row rfl 43 (.tmp 4) (.tmp 11) rfl (w.heap.size + 1) r2.arr rfl rfl 43 ZRun HZ.out infoRun rfl (Rn.one _) ?_)
    refine bodyPost_ret (results_cell_row (fn := Tryz.f33) rfl _ _ (w.heap.size + 1) 43 r2.arr (0, 0) _ rfl (setRow_heap w2 _ _ _ _ (0, 0) HZ.out) undRun rfl infoRun) rfl ?_
    exact ⟨rfl, HF2.out.kept ((Keep.refl [w.heap.size + 1] w2).setRow (g := w.heap.size + 1) (.inl (by simp)) _) (fun j hj hm => by simp only [List.mem_singleton] at hj; subst hj; have := HF.out.lt; simp at hm; omega), HK.out.setRow (.inr (by omega)) _⟩
  | false =>
    simp only [Bool.false_eq_true, if_false] at q0
    go_wp2_with (first | refine wpList_load_row rfl 43 (.tmp 3) rfl w.heap.size rfl 43 r.arr (0, 0) _ HR.out undRun rfl infoRun ?_)
    refine ((HC.out _ HF1.out).2 (by first | rfl | trivial)).mono ?_
    rintro y w2 ⟨rfl, hF2, hK2⟩
    have hlt := HF.out.lt
    replace HZ := Lib.hid (hK2.row HZ.out (by simp; omega))
    have HF2 := Lib.hid hF2
    have HK := Lib.hid ((keep_below HB.out [b, gq]).trans hK2)
    clear hF2 hK2 q0 zR hlt
    go_wp2_with (first | refine wpList_store_row rfl 43 (.tmp 4) (.tmp 14) rfl (w.heap.size + 1) r2.arr rfl rfl 43 ZRun HZ.out infoRun rfl (Rn.one _) ?_)
    refine bodyPost_ret (results_cell_row (fn := Tryz.f33) rfl _ _ (w.heap.size + 1) 43 r2.arr (0, 0) _ rfl (setRow_heap w2 _ _ _ _ (0, 0) HZ.out) undRun rfl infoRun) rfl ?_
    exact ⟨rfl, HF2.out.kept ((Keep.refl [w.heap.size + 1] w2).setRow (g := w.heap.size + 1) (.inl (by simp)) _) (fun j hj hm => by simp only [List.mem_singleton] at hj; subst hj; have := HF.out.lt; simp at hm; omega), HK.out.setRow (.inr (by omega)) _⟩

end Go.Proofs.YtbijaloeilnjoaaGreat
