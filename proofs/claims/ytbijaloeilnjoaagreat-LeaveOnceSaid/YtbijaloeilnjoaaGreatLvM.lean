/- Layer 18: the walk of leaver's mark. (Printed by gen_lvm.py.) -/
import Derived.Test.YtbijaloeilnjoaaGreatLvH
namespace Go.Proofs.YtbijaloeilnjoaaGreat
open Go.RowKit
set_option linter.unusedVariables false
set_option linter.unusedSimpArgs false

set_option maxRecDepth 100000 in
set_option maxHeartbeats 2000000 in
theorem lvMark_any (g p : Nat) (s t i h : Int) (fA : Option Addr) (fn fc : Nat) (b : Nat) (ws : List Int) (k m : Nat) (sz sl tg : Int) (dn : Bool) (sc ep pl : Int) (Ls : List Int) (HH : HeadOk sz sl tg sc ep) (r : Rn) (w : World) (H : PlanOk s t i h) (hT : Lvr w g p s t i h fA fn fc r) (hA : Arn w p b ws) (hgb : g ≠ b) (hgp : g ≠ p) (h1 : ws[k]? = some (head1d sz sl tg dn)) (h2 : ws[k + 1]? = some (head2 sc ep)) (ha : pl = 8 * (k : Int)) (hLs : Ls.length = m + 1) (hpl : Ls[m]? = some pl) (hln : r.list.n = m + 1) (hlcp : r.list.n ≤ r.list.c) (hl8 : m ≤ 64) (hrn : 0 ≤ r.n ∧ r.n ≤ 1024) (hlc : Cells w r.list.a (Ls.flatMap nCells)) (hlb : ∀ z, r.list.a = some z → z.block ≠ b) (hgw : g < w.heap.size) :
  Calls Tryz.prog 92 #[.pointer (some ⟨g, 0, none⟩)] w fun e w' => e = .returned (.tuple #[]) ∧ ∃ s2 : Sl, Lvr w' g p s t i h fA fn fc { r with list := s2, n := r.n + 1, op := 0, pc := furtherP { r with list := s2, n := r.n + 1, op := 0 } } ∧ s2.n = m ∧ s2.n ≤ s2.c ∧ Cells w' s2.a ((Ls.take m).flatMap nCells) ∧ (∀ z, s2.a = some z → w.heap.size ≤ z.block) ∧ Arn w' p b (ws.set k (head1d sz sl tg true)) ∧ Keep [g, b] w w' := by
 have HP0 := Lib.hid H
 have HT := Lib.hid hT
 have HA := Lib.hid hA
 have Hgb := Lib.hid hgb
 have Hgp : Hid (g ≠ b ∧ g ≠ p) := Lib.hid ⟨hgb, hgp⟩
 have HK : Hid (Keep [g, b] w w) := Lib.hid (Keep.refl _ _)
 have HMk := fun w' (hq : Arn w' p b ws) => Lib.hid (thingMark_any p b ws k pl sz sl tg dn sc ep w' hq HH h1 h2 ha)
 obtain ⟨bL, oL, hLa, hbL, hLc⟩ := n_at hlc (by omega)
 have q0 := hLc m pl hpl
 have Hq0 : Hid (w.cell? ⟨bL, oL + m, none⟩ = some (.int .i64 pl) ∧ bL < w.heap.size ∧ bL ≠ b) := Lib.hid ⟨q0, hbL, hlb _ hLa⟩
 have HLt : Hid (Cells w (some ⟨bL, oL, none⟩) ((Ls.take m).flatMap nCells)) := Lib.hid (by
  intro h0
  refine ⟨bL, oL, rfl, fun j v hv => ?_⟩
  obtain ⟨b2, o2, e2, hc2⟩ := hlc (by rw [n_len]; omega)
  rw [hLa] at e2
  injection e2 with e2
  injection e2 with e3 e4
  subst e3 e4
  refine hc2 j v ?_
  have hj : j < m := by have := (List.getElem?_eq_some_iff.1 hv).1; rw [n_len, List.length_take] at this; omega
  have f1 := flat_get nCells 1 (fun _ => rfl) (Ls.take m) j 0 (by omega)
  have f2 := flat_get nCells 1 (fun _ => rfl) Ls j 0 (by omega)
  rw [Nat.mul_one, Nat.add_zero] at f1 f2
  rw [f1, List.getElem?_take, if_pos hj] at hv
  rw [f2]
  exact hv)
 have HTl : Hid ((Ls.take m).length = m) := Lib.hid (by rw [List.length_take]; omega)
 obtain ⟨lc, hlist⟩ : ∃ c, r.list = ⟨some ⟨bL, oL, none⟩, m + 1, c⟩ := ⟨r.list.c, by rw [← hLa, ← hln]⟩
 have hmc : m ≤ lc := by rw [hlist] at hlcp; simp at hlcp; omega
 have hmcI : (m : Int) ≤ (lc : Int) := by omega
 have Hlist := Lib.hid hlist
 have Hl8 := Lib.hid hl8
 have Hgw := Lib.hid hgw
 obtain ⟨n0, n1⟩ := hrn
 have mI : (m : Int) ≤ 64 := by omega
 have mI0 : (0 : Int) ≤ (m : Int) := by omega
 have mlt : (m : Int) < (m : Int) + 1 := by omega
 obtain ⟨i0, hi0, hz0, hz1, hz2⟩ := info_parts infoInt
 have hbit := head1d_bit (dn := true) HH
 obtain ⟨hd, Hhd⟩ : ∃ x, Hid (head1d sz sl tg true = x) := ⟨_, Lib.hid rfl⟩
 rw [Hhd.out]
 simp only [Hhd.out] at HMk
 clear h1 h2 ha hpl hLs hln hlcp hl8 hlc hlb hgw HH hLa hbL hLc q0 hlist hbit
 clear H hT hA hgb hgp
 go_enter_defers Tryz.func92, Tryz.ntmps92
 obtain ⟨v0, v1, v2, v3, v4, v5, v13, v14, v18, v19, v20, v21, v22, v23, v24, v25, v26, vf13, vf18, vf19, vf20, vf21, vf22, vf23, vf24, vf25, vf26, vz⟩ := lv_box HT.out
 rw [show r.list.v = .slice (some ⟨bL, oL, none⟩) (m + 1) lc from by rw [Hlist.out]] at v22
 go_upto_region 2 with fail
 clear v0 v1 v2 v3 v4 v5 v13 v14 v18 v19 v20 v21 v22 v23 v24 v25 v26 vf13 vf18 vf19 vf20 vf21 vf22 vf23 vf24 vf25 vf26 vz
 refine wp_region_held_drew (S := fun W => Lvr W g p s t i h fA fn fc r ∧ W.cell? ⟨bL, oL + m, none⟩ = some (.int .i64 pl) ∧ bL < W.heap.size) (by kernel_rfl) (show Lvr w.drew g p s t i h fA fn fc r ∧ w.drew.cell? _ = _ ∧ bL < w.drew.heap.size from ⟨HT.out, Hq0.out.1, Hq0.out.2.1⟩) ?_
 intro hS
 have hA0 : Arn w.drew p b ws := HA.out.drew
 have hK0 : Keep [b] w w.drew := (Keep.refl _ _).drew
 generalize w.drew = y0 at hS hA0 hK0 ⊢
 refine tkD (i := 0) (v := ?v0x34) (some 11) rfl rfl (Or.inl ⟨by kernel_rfl, ?h0x34⟩) ?r0x34
 case h0x34 => (intro w' hSw; obtain ⟨sA, sB, sC⟩ := hSw; obtain ⟨b0, b1, b2, b3, b4, b5, b13, b14, b18, b19, b20, b21, b22, b23, b24, b25, b26, bf13, bf18, bf19, bf20, bf21, bf22, bf23, bf24, bf25, bf26, bz⟩ := lv_box sA; rw [show r.list.v = .slice (some ⟨bL, oL, none⟩) (m + 1) lc from by rw [Hlist.out]] at b22; go_simp; first | done | (with_reducible rfl))
 try simp only [zA, zB, zC, zD, zE]
 refine tkD (i := 1) (v := ?v1x35) (some 12) rfl rfl (Or.inl ⟨by kernel_rfl, ?h1x35⟩) ?r1x35
 case h1x35 => (intro w' hSw; obtain ⟨sA, sB, sC⟩ := hSw; obtain ⟨b0, b1, b2, b3, b4, b5, b13, b14, b18, b19, b20, b21, b22, b23, b24, b25, b26, bf13, bf18, bf19, bf20, bf21, bf22, bf23, bf24, bf25, bf26, bz⟩ := lv_box sA; rw [show r.list.v = .slice (some ⟨bL, oL, none⟩) (m + 1) lc from by rw [Hlist.out]] at b22; go_simp; first | done | (with_reducible rfl))
 try simp only [zA, zB, zC, zD, zE]
 refine tkD (i := 2) (v := ?v2x36) (some 13) rfl rfl (Or.inl ⟨by kernel_rfl, ?h2x36⟩) ?r2x36
 case h2x36 => (intro w' hSw; obtain ⟨sA, sB, sC⟩ := hSw; obtain ⟨b0, b1, b2, b3, b4, b5, b13, b14, b18, b19, b20, b21, b22, b23, b24, b25, b26, bf13, bf18, bf19, bf20, bf21, bf22, bf23, bf24, bf25, bf26, bz⟩ := lv_box sA; rw [show r.list.v = .slice (some ⟨bL, oL, none⟩) (m + 1) lc from by rw [Hlist.out]] at b22; go_simp; first | done | (with_reducible rfl))
 try simp only [zA, zB, zC, zD, zE]
 refine tkD (i := 3) (v := ?v3x37) (some 14) rfl rfl (Or.inl ⟨by kernel_rfl, ?h3x37⟩) ?r3x37
 case h3x37 => (intro w' hSw; obtain ⟨sA, sB, sC⟩ := hSw; obtain ⟨b0, b1, b2, b3, b4, b5, b13, b14, b18, b19, b20, b21, b22, b23, b24, b25, b26, bf13, bf18, bf19, bf20, bf21, bf22, bf23, bf24, bf25, bf26, bz⟩ := lv_box sA; rw [show r.list.v = .slice (some ⟨bL, oL, none⟩) (m + 1) lc from by rw [Hlist.out]] at b22; go_simp; first | done | (with_reducible rfl))
 try simp only [zA, zB, zC, zD, zE]
 refine tkD (i := 4) (v := ?v4x38) (some 15) rfl rfl (Or.inl ⟨by kernel_rfl, ?h4x38⟩) ?r4x38
 case h4x38 => (intro w' hSw; obtain ⟨sA, sB, sC⟩ := hSw; obtain ⟨b0, b1, b2, b3, b4, b5, b13, b14, b18, b19, b20, b21, b22, b23, b24, b25, b26, bf13, bf18, bf19, bf20, bf21, bf22, bf23, bf24, bf25, bf26, bz⟩ := lv_box sA; rw [show r.list.v = .slice (some ⟨bL, oL, none⟩) (m + 1) lc from by rw [Hlist.out]] at b22; go_simp; first | done | (with_reducible rfl))
 try simp only [zA, zB, zC, zD, zE]
 refine tkD (i := 5) (v := ?v5x39) (some 16) rfl rfl (Or.inl ⟨by kernel_rfl, ?h5x39⟩) ?r5x39
 case h5x39 => (intro w' hSw; obtain ⟨sA, sB, sC⟩ := hSw; obtain ⟨b0, b1, b2, b3, b4, b5, b13, b14, b18, b19, b20, b21, b22, b23, b24, b25, b26, bf13, bf18, bf19, bf20, bf21, bf22, bf23, bf24, bf25, bf26, bz⟩ := lv_box sA; rw [show r.list.v = .slice (some ⟨bL, oL, none⟩) (m + 1) lc from by rw [Hlist.out]] at b22; go_simp; first | done | (with_reducible rfl))
 try simp only [zA, zB, zC, zD, zE]
 refine tkD (i := 6) (v := ?v6x40) (some 17) rfl rfl (Or.inl ⟨by kernel_rfl, ?h6x40⟩) ?r6x40
 case h6x40 => (intro w' hSw; obtain ⟨sA, sB, sC⟩ := hSw; obtain ⟨b0, b1, b2, b3, b4, b5, b13, b14, b18, b19, b20, b21, b22, b23, b24, b25, b26, bf13, bf18, bf19, bf20, bf21, bf22, bf23, bf24, bf25, bf26, bz⟩ := lv_box sA; rw [show r.list.v = .slice (some ⟨bL, oL, none⟩) (m + 1) lc from by rw [Hlist.out]] at b22; go_simp; first | done | (with_reducible rfl))
 try simp only [zA, zB, zC, zD, zE]
 refine tkD (i := 7) (v := ?v7x41) (some 18) rfl rfl (Or.inl ⟨by kernel_rfl, ?h7x41⟩) ?r7x41
 case h7x41 => (intro w' hSw; obtain ⟨sA, sB, sC⟩ := hSw; obtain ⟨b0, b1, b2, b3, b4, b5, b13, b14, b18, b19, b20, b21, b22, b23, b24, b25, b26, bf13, bf18, bf19, bf20, bf21, bf22, bf23, bf24, bf25, bf26, bz⟩ := lv_box sA; rw [show r.list.v = .slice (some ⟨bL, oL, none⟩) (m + 1) lc from by rw [Hlist.out]] at b22; go_simp; first | done | (with_reducible rfl))
 try simp only [zA, zB, zC, zD, zE]
 refine tkD (i := 8) (v := ?v8x42) (some 19) rfl rfl (Or.inl ⟨by kernel_rfl, ?h8x42⟩) ?r8x42
 case h8x42 => (intro w' hSw; obtain ⟨sA, sB, sC⟩ := hSw; obtain ⟨b0, b1, b2, b3, b4, b5, b13, b14, b18, b19, b20, b21, b22, b23, b24, b25, b26, bf13, bf18, bf19, bf20, bf21, bf22, bf23, bf24, bf25, bf26, bz⟩ := lv_box sA; rw [show r.list.v = .slice (some ⟨bL, oL, none⟩) (m + 1) lc from by rw [Hlist.out]] at b22; go_simp; first | done | (with_reducible rfl))
 try simp only [zA, zB, zC, zD, zE]
 refine tkD (i := 9) (v := ?v9x43) (some 20) rfl rfl (Or.inl ⟨by kernel_rfl, ?h9x43⟩) ?r9x43
 case h9x43 => (intro w' hSw; obtain ⟨sA, sB, sC⟩ := hSw; obtain ⟨b0, b1, b2, b3, b4, b5, b13, b14, b18, b19, b20, b21, b22, b23, b24, b25, b26, bf13, bf18, bf19, bf20, bf21, bf22, bf23, bf24, bf25, bf26, bz⟩ := lv_box sA; rw [show r.list.v = .slice (some ⟨bL, oL, none⟩) (m + 1) lc from by rw [Hlist.out]] at b22; go_simp; first | done | (with_reducible rfl))
 try simp only [zA, zB, zC, zD, zE]
 refine tkD (i := 10) (v := ?v10x44) (some 21) rfl rfl (Or.inl ⟨by kernel_rfl, ?h10x44⟩) ?r10x44
 case h10x44 => (intro w' hSw; obtain ⟨sA, sB, sC⟩ := hSw; obtain ⟨b0, b1, b2, b3, b4, b5, b13, b14, b18, b19, b20, b21, b22, b23, b24, b25, b26, bf13, bf18, bf19, bf20, bf21, bf22, bf23, bf24, bf25, bf26, bz⟩ := lv_box sA; rw [show r.list.v = .slice (some ⟨bL, oL, none⟩) (m + 1) lc from by rw [Hlist.out]] at b22; go_simp; first | done | (with_reducible rfl))
 try simp only [zA, zB, zC, zD, zE]
 refine tkD (i := 11) (v := ?v11x45) (some 22) rfl rfl (Or.inl ⟨by kernel_rfl, ?h11x45⟩) ?r11x45
 case h11x45 => (intro w' hSw; obtain ⟨sA, sB, sC⟩ := hSw; obtain ⟨b0, b1, b2, b3, b4, b5, b13, b14, b18, b19, b20, b21, b22, b23, b24, b25, b26, bf13, bf18, bf19, bf20, bf21, bf22, bf23, bf24, bf25, bf26, bz⟩ := lv_box sA; rw [show r.list.v = .slice (some ⟨bL, oL, none⟩) (m + 1) lc from by rw [Hlist.out]] at b22; go_simp; first | done | (with_reducible rfl))
 try simp only [zA, zB, zC, zD, zE]
 refine wpAnyH_ready (rs := [12]) (by kernel_rfl) (by simp) ?_
 refine AllReadyH.cons rfl (fun K hK => ?_) AllReadyH.nil
 go_simp
 refine (HMk _ hA0).out.mono ?_
 rintro e' y1 ⟨rfl, hA2, hk2⟩
 go_simp
 refine hK.out _ _ (⟨hk2.row hS.1 (by simpa using Hgb.out), hk2.cell (p := ⟨bL, oL + m, none⟩) hS.2.1 (by simpa using Hq0.out.2.2), Nat.lt_of_lt_of_le hS.2.2 hk2.size⟩) (fun hS => ?_)
 clear hK K
 try simp only [zA, zB, zC, zD, zE]
 refine wpAnyH_done (by kernel_rfl) ?_ _
 have hkA : Keep [b] w y1 := hK0.trans hk2
 replace HT := Lib.hid hS.1
 replace HA := Lib.hid hA2
 replace HLt := Lib.hid (Cells.kept HLt.out hkA (fun a ha => by injection ha with ha; subst ha; simpa using Hq0.out.2.2))
 replace HK := Lib.hid (hkA.sub (T := [g, b]) (fun i hi => by simp at hi; simp [hi]))
 have Hy1 : Hid (w.heap.size ≤ y1.heap.size) := Lib.hid hkA.size
 clear hS hA0 hK0 hA2 hk2 hkA Hq0
 go_wp2_with fail
 refine wp_region_held_drew (S := fun _ => True) (by kernel_rfl) trivial ?_
 intro hS
 have hB0 : Below y1.heap.size y1 y1.drew := Below.drew (Below.refl _ _)
 have hT0 : Lvr y1.drew g p s t i h fA fn fc r := HT.out
 have hC0 : Cells y1.drew (some ⟨bL, oL, none⟩) ((Ls.take m).flatMap nCells) := Cells.below HLt.out hB0
 generalize y1.drew = y0 at hS hB0 hT0 hC0 ⊢
 refine tkD (i := 0) (v := ?v0x46) (some 24) rfl rfl (Or.inl ⟨by kernel_rfl, ?h0x46⟩) ?r0x46
 case h0x46 => (intro w' hSw; go_simp; first | done | (with_reducible rfl))
 try simp only [zA, zB, zC, zD, zE]
 refine tkD (i := 1) (v := ?v1x47) (some 25) rfl rfl (Or.inl ⟨by kernel_rfl, ?h1x47⟩) ?r1x47
 case h1x47 => (intro w' hSw; go_simp; first | done | (with_reducible rfl))
 try simp only [zA, zB, zC, zD, zE]
 refine tkD (i := 2) (v := ?v2x48) (some 26) rfl rfl (Or.inl ⟨by kernel_rfl, ?h2x48⟩) ?r2x48
 case h2x48 => (intro w' hSw; go_simp; first | done | (with_reducible rfl))
 try simp only [zA, zB, zC, zD, zE]
 refine tkD (i := 3) (v := ?v3x49) (some 27) rfl rfl (Or.inl ⟨by kernel_rfl, ?h3x49⟩) ?r3x49
 case h3x49 => (intro w' hSw; go_simp; first | done | (with_reducible rfl))
 try simp only [zA, zB, zC, zD, zE]
 refine tkD (i := 4) (v := ?v4x50) (some 28) rfl rfl (Or.inl ⟨by kernel_rfl, ?h4x50⟩) ?r4x50
 case h4x50 => (intro w' hSw; go_simp; first | done | (with_reducible rfl))
 try simp only [zA, zB, zC, zD, zE]
 refine tkD (i := 5) (v := ?v5x51) (some 29) rfl rfl (Or.inl ⟨by kernel_rfl, ?h5x51⟩) ?r5x51
 case h5x51 => (intro w' hSw; go_simp; first | done | (with_reducible rfl))
 try simp only [zA, zB, zC, zD, zE]
 refine tkD (i := 6) (v := ?v6x52) (some 30) rfl rfl (Or.inl ⟨by kernel_rfl, ?h6x52⟩) ?r6x52
 case h6x52 => (intro w' hSw; go_simp; first | done | (with_reducible rfl))
 try simp only [zA, zB, zC, zD, zE]
 refine tkD (i := 8) (v := ?v8x53) (some 32) rfl rfl (Or.inl ⟨by kernel_rfl, ?h8x53⟩) ?r8x53
 case h8x53 => (intro w' hSw; go_simp; first | done | (with_reducible rfl))
 try simp only [zA, zB, zC, zD, zE]
 refine tkD (i := 11) (v := ?v11x54) (some 35) rfl rfl (Or.inl ⟨by kernel_rfl, ?h11x54⟩) ?r11x54
 case h11x54 => (intro w' hSw; go_simp; first | done | (with_reducible rfl))
 try simp only [zA, zB, zC, zD, zE]
 refine tkD (i := 12) (v := ?v12x55) (some 36) rfl rfl (Or.inl ⟨by kernel_rfl, ?h12x55⟩) ?r12x55
 case h12x55 => (intro w' hSw; go_simp; first | done | (with_reducible rfl))
 try simp only [zA, zB, zC, zD, zE]
 refine tkD (i := 13) (v := ?v13x56) (some 37) rfl rfl (Or.inl ⟨by kernel_rfl, ?h13x56⟩) ?r13x56
 case h13x56 => (intro w' hSw; go_simp; first | done | (with_reducible rfl))
 try simp only [zA, zB, zC, zD, zE]
 refine tkD (i := 14) (v := ?v14x57) (some 38) rfl rfl (Or.inl ⟨by kernel_rfl, ?h14x57⟩) ?r14x57
 case h14x57 => (intro w' hSw; go_simp; first | done | (with_reducible rfl))
 try simp only [zA, zB, zC, zD, zE]
 refine wpAnyH_ready (rs := [7, 15]) (by kernel_rfl) (by simp) ?_
 refine AllReadyH.cons rfl (fun K hK => ?_) (AllReadyH.cons rfl (fun K hK => ?_) AllReadyH.nil)
 ·skip
  obtain ⟨b0, b1, b2, b3, b4, b5, b13, b14, b18, b19, b20, b21, b22, b23, b24, b25, b26, bf13, bf18, bf19, bf20, bf21, bf22, bf23, bf24, bf25, bf26, bz⟩ := lv_box hT0
  rw [show r.list.v = .slice (some ⟨bL, oL, none⟩) (m + 1) lc from by rw [Hlist.out]] at b22
  go_simp
  clear b0 b1 b2 b3 b4 b5 b13 b14 b18 b19 b20 b21 b22 b23 b24 b25 b26 bf13 bf18 bf19 bf20 bf21 bf22 bf23 bf24 bf25 bf26 bz
  refine hK.out _ _ (trivial) (fun hS => ?_)
  clear hK K
  try simp only [zA, zB, zC, zD, zE]
  refine tkD (i := 9) (v := ?v9x58) (some 33) rfl rfl (Or.inl ⟨by kernel_rfl, ?h9x58⟩) ?r9x58
  case h9x58 => (intro w' hSw; go_simp; first | done | (with_reducible rfl))
  try simp only [zA, zB, zC, zD, zE]
  refine wpAnyH_ready (rs := [10, 15]) (by kernel_rfl) (by simp) ?_
  refine AllReadyH.cons rfl (fun K hK => ?_) (AllReadyH.cons rfl (fun K hK => ?_) AllReadyH.nil)
  ·skip
   go_simp
   have hcl := cloneN_any (some ⟨bL, oL, none⟩) lc (Ls.take m) y0 (by rw [HTl.out]; have := Hl8.out; omega) hC0
   rw [HTl.out] at hcl
   refine hcl.mono ?_
   clear hcl
   rintro e' yC ⟨vC, rfl, A2, c2, rfl, hc2, hcs2, hfar2, hb⟩
   go_simp
   have hfar : ∀ z, A2 = some z → y1.heap.size ≤ z.block := fun z hz => Nat.le_trans hB0.size (hfar2 z hz)
   replace hB0 := below_only hB0 hb
   have hT0 : Lvr yC g p s t i h fA fn fc r := row_below HT.out hB0
   refine hK.out _ _ (trivial) (fun hS => ?_)
   clear hK K
   try simp only [zA, zB, zC, zD, zE]
   have Hc2 := Lib.hid hc2
   clear hb hC0 hfar2 hc2
   refine wpAnyH_ready (rs := [15]) (by kernel_rfl) (by simp) ?_
   refine AllReadyH.cons rfl (fun K hK => ?_) AllReadyH.nil
   obtain ⟨b0, b1, b2, b3, b4, b5, b13, b14, b18, b19, b20, b21, b22, b23, b24, b25, b26, bf13, bf18, bf19, bf20, bf21, bf22, bf23, bf24, bf25, bf26, bz⟩ := lv_box hT0
   rw [show r.list.v = .slice (some ⟨bL, oL, none⟩) (m + 1) lc from by rw [Hlist.out]] at b22
   go_simp
   clear b0 b1 b2 b3 b4 b5 b13 b14 b18 b19 b20 b21 b22 b23 b24 b25 b26 bf13 bf18 bf19 bf20 bf21 bf22 bf23 bf24 bf25 bf26 bz
   refine hK.out _ _ (trivial) (fun hS => ?_)
   clear hK K
   try simp only [zA, zB, zC, zD, zE]
   refine tkD (i := 16) (v := ?v16x59) (some 40) rfl rfl (Or.inl ⟨by kernel_rfl, ?h16x59⟩) ?r16x59
   case h16x59 => (intro w' hSw; go_simp; first | done | (with_reducible rfl))
   try simp only [zA, zB, zC, zD, zE]
   refine tkD (i := 17) (v := ?v17x60) (some 41) rfl rfl (Or.inl ⟨by kernel_rfl, ?h17x60⟩) ?r17x60
   case h17x60 => (intro w' hSw; go_simp; first | done | (with_reducible rfl))
   try simp only [zA, zB, zC, zD, zE]
   refine tkD (i := 18) (v := ?v18x61) (some 42) rfl rfl (Or.inl ⟨by kernel_rfl, ?h18x61⟩) ?r18x61
   case h18x61 => (intro w' hSw; go_simp; first | done | (with_reducible rfl))
   try simp only [zA, zB, zC, zD, zE]
   refine tkD (i := 19) (v := ?v19x62) (some 43) rfl rfl (Or.inl ⟨by kernel_rfl, ?h19x62⟩) ?r19x62
   case h19x62 => (intro w' hSw; go_simp; first | done | (with_reducible rfl))
   try simp only [zA, zB, zC, zD, zE]
   refine wpAnyH_ready (rs := [20]) (by kernel_rfl) (by simp) ?_
   refine AllReadyH.cons rfl (fun K hK => ?_) AllReadyH.nil
   obtain ⟨b0, b1, b2, b3, b4, b5, b13, b14, b18, b19, b20, b21, b22, b23, b24, b25, b26, bf13, bf18, bf19, bf20, bf21, bf22, bf23, bf24, bf25, bf26, bz⟩ := lv_box hT0
   rw [show r.list.v = .slice (some ⟨bL, oL, none⟩) (m + 1) lc from by rw [Hlist.out]] at b22
   go_simp
   clear b0 b1 b2 b3 b4 b5 b13 b14 b18 b19 b20 b21 b22 b23 b24 b25 b26 bf13 bf18 bf19 bf20 bf21 bf22 bf23 bf24 bf25 bf26 bz
   refine set_oneR (P := K _) yC g 22 (.slice A2 m c2) _ _ hT0 ?_
   intro yS hr hk_yS
   rw [show Value.slice A2 m c2 = (⟨A2, m, c2⟩ : Sl).v from rfl, pre_set _ _ 22 16 _ rfl] at hr
   have hT1 : Lvr yS g p s t i h fA fn fc { r with list := (⟨A2, m, c2⟩ : Sl) } := hr
   clear hr
   refine hK.out _ _ (trivial) (fun hS => ?_)
   clear hK K
   try simp only [zA, zB, zC, zD, zE]
   refine tkD (i := 21) (v := ?v21x63) (some 44) rfl rfl (Or.inl ⟨by kernel_rfl, ?h21x63⟩) ?r21x63
   case h21x63 => (intro w' hSw; go_simp; first | done | (with_reducible rfl))
   try simp only [zA, zB, zC, zD, zE]
   refine tkD (i := 22) (v := ?v22x64) (some 45) rfl rfl (Or.inl ⟨by kernel_rfl, ?h22x64⟩) ?r22x64
   case h22x64 => (intro w' hSw; go_simp; first | done | (with_reducible rfl))
   try simp only [zA, zB, zC, zD, zE]
   refine tkD (i := 23) (v := ?v23x65) (some 46) rfl rfl (Or.inl ⟨by kernel_rfl, ?h23x65⟩) ?r23x65
   case h23x65 => (intro w' hSw; go_simp; first | done | (with_reducible rfl))
   try simp only [zA, zB, zC, zD, zE]
   refine wpAnyH_ready (rs := [24]) (by kernel_rfl) (by simp) ?_
   refine AllReadyH.cons rfl (fun K hK => ?_) AllReadyH.nil
   have b9 := lv_box hT1
   go_simp
   clear b9
   try rw [show IntKind.i64.wrap (r.n + 1) = r.n + 1 from IntWalk.i64_in _ (by omega)]
   refine set_oneR (P := K _) yS g 25 (.int .i64 (r.n + 1)) _ _ hT1 ?_
   intro yT hr hk_yT
   rw [pre_set _ _ 25 19 _ rfl] at hr
   have hT2 : Lvr yT g p s t i h fA fn fc { r with list := (⟨A2, m, c2⟩ : Sl), n := r.n + 1 } := hr
   clear hr
   refine hK.out _ _ (trivial) (fun hS => ?_)
   clear hK K
   try simp only [zA, zB, zC, zD, zE]
   refine tkD (i := 25) (v := ?v25x66) (some 47) rfl rfl (Or.inl ⟨by kernel_rfl, ?h25x66⟩) ?r25x66
   case h25x66 => (intro w' hSw; go_simp; first | done | (with_reducible rfl))
   try simp only [zA, zB, zC, zD, zE]
   refine tkD (i := 26) (v := ?v26x67) (some 48) rfl rfl (Or.inl ⟨by kernel_rfl, ?h26x67⟩) ?r26x67
   case h26x67 => (intro w' hSw; go_simp; first | done | (with_reducible rfl))
   try simp only [zA, zB, zC, zD, zE]
   refine tkD (i := 27) (v := ?v27x68) (some 49) rfl rfl (Or.inl ⟨by kernel_rfl, ?h27x68⟩) ?r27x68
   case h27x68 => (intro w' hSw; go_simp; first | done | (with_reducible rfl))
   try simp only [zA, zB, zC, zD, zE]
   refine wpAnyH_ready (rs := [28]) (by kernel_rfl) (by simp) ?_
   refine AllReadyH.cons rfl (fun K hK => ?_) AllReadyH.nil
   have b9 := lv_box hT2
   go_simp
   clear b9
   refine set_oneR (P := K _) yT g 23 (.int .i64 0) _ _ hT2 ?_
   intro yU hr hk_yU
   rw [pre_set _ _ 23 17 _ rfl] at hr
   have hT3 : Lvr yU g p s t i h fA fn fc { r with list := (⟨A2, m, c2⟩ : Sl), n := r.n + 1, op := 0 } := hr
   clear hr
   refine hK.out _ _ (trivial) (fun hS => ?_)
   clear hK K
   try simp only [zA, zB, zC, zD, zE]
   refine wpAnyH_done (by kernel_rfl) ?_ _
   have hk3 : Keep [g] y1 yU := (((keep_below hB0 [g]).trans hk_yS).trans hk_yT).trans hk_yU
   have HLs : Hid (Cells yU A2 ((Ls.take m).flatMap nCells) ∧ ∀ z, A2 = some z → y1.heap.size ≤ z.block) := Lib.hid ⟨Cells.kept hcs2 ((hk_yS.trans hk_yT).trans hk_yU) (fun a ha => by
     have h1 := hfar a ha
     have h2 := lt_of_heap HT.out
     simp; omega), hfar⟩
   have Hg1 : Hid (g < y1.heap.size) := Lib.hid (lt_of_heap HT.out)
   replace HT := Lib.hid hT3
   replace HA := Lib.hid (HA.out.kept hk3 (by simpa using Hgp.out.2.symm) (by simpa using Hgp.out.1.symm))
   replace HK := Lib.hid (HK.out.trans (hk3.sub (T := [g, b]) (fun i hi => by simp at hi; simp [hi])))
   clear hS hB0 hT0 hT1 hT2 hT3 hk_yS hk_yT hk_yU hk3 hcs2 hfar
   go_wp2_with fail
   refine leaves_cons (f := 133) (args := #[.pointer (some ⟨g, 0, none⟩)]) (by simp) (by simp [go_sem]) ?_
   refine (lvFurtherD_any g p s t i h fA fn fc { r with list := (⟨A2, m, c2⟩ : Sl), n := r.n + 1, op := 0 } .returning _ HT.out (by show m ≤ 1048576; have := Hl8.out; omega)).mono ?_
   rintro e u' w'' ⟨rfl, rfl, hT, hk9⟩
   exact ⟨_, results_none rfl _ _ _, rfl, ⟨A2, m, c2⟩, hT, rfl, Hc2.out, Cells.kept HLs.out.1 hk9 (fun a ha => by have h1 := HLs.out.2 a ha; have h2 := Hg1.out; simp; omega), fun z hz => Nat.le_trans Hy1.out (HLs.out.2 z hz), HA.out.kept hk9 (by simpa using Hgp.out.2.symm) (by simpa using Hgp.out.1.symm), HK.out.trans (hk9.sub (T := [g, b]) (fun i hi => by simp at hi; simp [hi]))⟩
  ·skip
   obtain ⟨b0, b1, b2, b3, b4, b5, b13, b14, b18, b19, b20, b21, b22, b23, b24, b25, b26, bf13, bf18, bf19, bf20, bf21, bf22, bf23, bf24, bf25, bf26, bz⟩ := lv_box hT0
   rw [show r.list.v = .slice (some ⟨bL, oL, none⟩) (m + 1) lc from by rw [Hlist.out]] at b22
   go_simp
   clear b0 b1 b2 b3 b4 b5 b13 b14 b18 b19 b20 b21 b22 b23 b24 b25 b26 bf13 bf18 bf19 bf20 bf21 bf22 bf23 bf24 bf25 bf26 bz
   refine hK.out _ _ (trivial) (fun hS => ?_)
   clear hK K
   try simp only [zA, zB, zC, zD, zE]
   refine tkD (i := 16) (v := ?v16x69) (some 40) rfl rfl (Or.inl ⟨by kernel_rfl, ?h16x69⟩) ?r16x69
   case h16x69 => (intro w' hSw; go_simp; first | done | (with_reducible rfl))
   try simp only [zA, zB, zC, zD, zE]
   refine wpAnyH_ready (rs := [10]) (by kernel_rfl) (by simp) ?_
   refine AllReadyH.cons rfl (fun K hK => ?_) AllReadyH.nil
   go_simp
   have hcl := cloneN_any (some ⟨bL, oL, none⟩) lc (Ls.take m) y0 (by rw [HTl.out]; have := Hl8.out; omega) hC0
   rw [HTl.out] at hcl
   refine hcl.mono ?_
   clear hcl
   rintro e' yC ⟨vC, rfl, A2, c2, rfl, hc2, hcs2, hfar2, hb⟩
   go_simp
   have hfar : ∀ z, A2 = some z → y1.heap.size ≤ z.block := fun z hz => Nat.le_trans hB0.size (hfar2 z hz)
   replace hB0 := below_only hB0 hb
   have hT0 : Lvr yC g p s t i h fA fn fc r := row_below HT.out hB0
   refine hK.out _ _ (trivial) (fun hS => ?_)
   clear hK K
   try simp only [zA, zB, zC, zD, zE]
   have Hc2 := Lib.hid hc2
   clear hb hC0 hfar2 hc2
   refine tkD (i := 17) (v := ?v17x70) (some 41) rfl rfl (Or.inl ⟨by kernel_rfl, ?h17x70⟩) ?r17x70
   case h17x70 => (intro w' hSw; go_simp; first | done | (with_reducible rfl))
   try simp only [zA, zB, zC, zD, zE]
   refine tkD (i := 18) (v := ?v18x71) (some 42) rfl rfl (Or.inl ⟨by kernel_rfl, ?h18x71⟩) ?r18x71
   case h18x71 => (intro w' hSw; go_simp; first | done | (with_reducible rfl))
   try simp only [zA, zB, zC, zD, zE]
   refine tkD (i := 19) (v := ?v19x72) (some 43) rfl rfl (Or.inl ⟨by kernel_rfl, ?h19x72⟩) ?r19x72
   case h19x72 => (intro w' hSw; go_simp; first | done | (with_reducible rfl))
   try simp only [zA, zB, zC, zD, zE]
   refine wpAnyH_ready (rs := [20]) (by kernel_rfl) (by simp) ?_
   refine AllReadyH.cons rfl (fun K hK => ?_) AllReadyH.nil
   obtain ⟨b0, b1, b2, b3, b4, b5, b13, b14, b18, b19, b20, b21, b22, b23, b24, b25, b26, bf13, bf18, bf19, bf20, bf21, bf22, bf23, bf24, bf25, bf26, bz⟩ := lv_box hT0
   rw [show r.list.v = .slice (some ⟨bL, oL, none⟩) (m + 1) lc from by rw [Hlist.out]] at b22
   go_simp
   clear b0 b1 b2 b3 b4 b5 b13 b14 b18 b19 b20 b21 b22 b23 b24 b25 b26 bf13 bf18 bf19 bf20 bf21 bf22 bf23 bf24 bf25 bf26 bz
   refine set_oneR (P := K _) yC g 22 (.slice A2 m c2) _ _ hT0 ?_
   intro yS hr hk_yS
   rw [show Value.slice A2 m c2 = (⟨A2, m, c2⟩ : Sl).v from rfl, pre_set _ _ 22 16 _ rfl] at hr
   have hT1 : Lvr yS g p s t i h fA fn fc { r with list := (⟨A2, m, c2⟩ : Sl) } := hr
   clear hr
   refine hK.out _ _ (trivial) (fun hS => ?_)
   clear hK K
   try simp only [zA, zB, zC, zD, zE]
   refine tkD (i := 21) (v := ?v21x73) (some 44) rfl rfl (Or.inl ⟨by kernel_rfl, ?h21x73⟩) ?r21x73
   case h21x73 => (intro w' hSw; go_simp; first | done | (with_reducible rfl))
   try simp only [zA, zB, zC, zD, zE]
   refine tkD (i := 22) (v := ?v22x74) (some 45) rfl rfl (Or.inl ⟨by kernel_rfl, ?h22x74⟩) ?r22x74
   case h22x74 => (intro w' hSw; go_simp; first | done | (with_reducible rfl))
   try simp only [zA, zB, zC, zD, zE]
   refine tkD (i := 23) (v := ?v23x75) (some 46) rfl rfl (Or.inl ⟨by kernel_rfl, ?h23x75⟩) ?r23x75
   case h23x75 => (intro w' hSw; go_simp; first | done | (with_reducible rfl))
   try simp only [zA, zB, zC, zD, zE]
   refine wpAnyH_ready (rs := [24]) (by kernel_rfl) (by simp) ?_
   refine AllReadyH.cons rfl (fun K hK => ?_) AllReadyH.nil
   have b9 := lv_box hT1
   go_simp
   clear b9
   try rw [show IntKind.i64.wrap (r.n + 1) = r.n + 1 from IntWalk.i64_in _ (by omega)]
   refine set_oneR (P := K _) yS g 25 (.int .i64 (r.n + 1)) _ _ hT1 ?_
   intro yT hr hk_yT
   rw [pre_set _ _ 25 19 _ rfl] at hr
   have hT2 : Lvr yT g p s t i h fA fn fc { r with list := (⟨A2, m, c2⟩ : Sl), n := r.n + 1 } := hr
   clear hr
   refine hK.out _ _ (trivial) (fun hS => ?_)
   clear hK K
   try simp only [zA, zB, zC, zD, zE]
   refine tkD (i := 25) (v := ?v25x76) (some 47) rfl rfl (Or.inl ⟨by kernel_rfl, ?h25x76⟩) ?r25x76
   case h25x76 => (intro w' hSw; go_simp; first | done | (with_reducible rfl))
   try simp only [zA, zB, zC, zD, zE]
   refine tkD (i := 26) (v := ?v26x77) (some 48) rfl rfl (Or.inl ⟨by kernel_rfl, ?h26x77⟩) ?r26x77
   case h26x77 => (intro w' hSw; go_simp; first | done | (with_reducible rfl))
   try simp only [zA, zB, zC, zD, zE]
   refine tkD (i := 27) (v := ?v27x78) (some 49) rfl rfl (Or.inl ⟨by kernel_rfl, ?h27x78⟩) ?r27x78
   case h27x78 => (intro w' hSw; go_simp; first | done | (with_reducible rfl))
   try simp only [zA, zB, zC, zD, zE]
   refine wpAnyH_ready (rs := [28]) (by kernel_rfl) (by simp) ?_
   refine AllReadyH.cons rfl (fun K hK => ?_) AllReadyH.nil
   have b9 := lv_box hT2
   go_simp
   clear b9
   refine set_oneR (P := K _) yT g 23 (.int .i64 0) _ _ hT2 ?_
   intro yU hr hk_yU
   rw [pre_set _ _ 23 17 _ rfl] at hr
   have hT3 : Lvr yU g p s t i h fA fn fc { r with list := (⟨A2, m, c2⟩ : Sl), n := r.n + 1, op := 0 } := hr
   clear hr
   refine hK.out _ _ (trivial) (fun hS => ?_)
   clear hK K
   try simp only [zA, zB, zC, zD, zE]
   refine wpAnyH_done (by kernel_rfl) ?_ _
   have hk3 : Keep [g] y1 yU := (((keep_below hB0 [g]).trans hk_yS).trans hk_yT).trans hk_yU
   have HLs : Hid (Cells yU A2 ((Ls.take m).flatMap nCells) ∧ ∀ z, A2 = some z → y1.heap.size ≤ z.block) := Lib.hid ⟨Cells.kept hcs2 ((hk_yS.trans hk_yT).trans hk_yU) (fun a ha => by
     have h1 := hfar a ha
     have h2 := lt_of_heap HT.out
     simp; omega), hfar⟩
   have Hg1 : Hid (g < y1.heap.size) := Lib.hid (lt_of_heap HT.out)
   replace HT := Lib.hid hT3
   replace HA := Lib.hid (HA.out.kept hk3 (by simpa using Hgp.out.2.symm) (by simpa using Hgp.out.1.symm))
   replace HK := Lib.hid (HK.out.trans (hk3.sub (T := [g, b]) (fun i hi => by simp at hi; simp [hi])))
   clear hS hB0 hT0 hT1 hT2 hT3 hk_yS hk_yT hk_yU hk3 hcs2 hfar
   go_wp2_with fail
   refine leaves_cons (f := 133) (args := #[.pointer (some ⟨g, 0, none⟩)]) (by simp) (by simp [go_sem]) ?_
   refine (lvFurtherD_any g p s t i h fA fn fc { r with list := (⟨A2, m, c2⟩ : Sl), n := r.n + 1, op := 0 } .returning _ HT.out (by show m ≤ 1048576; have := Hl8.out; omega)).mono ?_
   rintro e u' w'' ⟨rfl, rfl, hT, hk9⟩
   exact ⟨_, results_none rfl _ _ _, rfl, ⟨A2, m, c2⟩, hT, rfl, Hc2.out, Cells.kept HLs.out.1 hk9 (fun a ha => by have h1 := HLs.out.2 a ha; have h2 := Hg1.out; simp; omega), fun z hz => Nat.le_trans Hy1.out (HLs.out.2 z hz), HA.out.kept hk9 (by simpa using Hgp.out.2.symm) (by simpa using Hgp.out.1.symm), HK.out.trans (hk9.sub (T := [g, b]) (fun i hi => by simp at hi; simp [hi]))⟩
 ·skip
  obtain ⟨b0, b1, b2, b3, b4, b5, b13, b14, b18, b19, b20, b21, b22, b23, b24, b25, b26, bf13, bf18, bf19, bf20, bf21, bf22, bf23, bf24, bf25, bf26, bz⟩ := lv_box hT0
  rw [show r.list.v = .slice (some ⟨bL, oL, none⟩) (m + 1) lc from by rw [Hlist.out]] at b22
  go_simp
  clear b0 b1 b2 b3 b4 b5 b13 b14 b18 b19 b20 b21 b22 b23 b24 b25 b26 bf13 bf18 bf19 bf20 bf21 bf22 bf23 bf24 bf25 bf26 bz
  refine hK.out _ _ (trivial) (fun hS => ?_)
  clear hK K
  try simp only [zA, zB, zC, zD, zE]
  refine tkD (i := 16) (v := ?v16x79) (some 40) rfl rfl (Or.inl ⟨by kernel_rfl, ?h16x79⟩) ?r16x79
  case h16x79 => (intro w' hSw; go_simp; first | done | (with_reducible rfl))
  try simp only [zA, zB, zC, zD, zE]
  refine wpAnyH_ready (rs := [7]) (by kernel_rfl) (by simp) ?_
  refine AllReadyH.cons rfl (fun K hK => ?_) AllReadyH.nil
  obtain ⟨b0, b1, b2, b3, b4, b5, b13, b14, b18, b19, b20, b21, b22, b23, b24, b25, b26, bf13, bf18, bf19, bf20, bf21, bf22, bf23, bf24, bf25, bf26, bz⟩ := lv_box hT0
  rw [show r.list.v = .slice (some ⟨bL, oL, none⟩) (m + 1) lc from by rw [Hlist.out]] at b22
  go_simp
  clear b0 b1 b2 b3 b4 b5 b13 b14 b18 b19 b20 b21 b22 b23 b24 b25 b26 bf13 bf18 bf19 bf20 bf21 bf22 bf23 bf24 bf25 bf26 bz
  refine hK.out _ _ (trivial) (fun hS => ?_)
  clear hK K
  try simp only [zA, zB, zC, zD, zE]
  refine tkD (i := 9) (v := ?v9x80) (some 33) rfl rfl (Or.inl ⟨by kernel_rfl, ?h9x80⟩) ?r9x80
  case h9x80 => (intro w' hSw; go_simp; first | done | (with_reducible rfl))
  try simp only [zA, zB, zC, zD, zE]
  refine wpAnyH_ready (rs := [10]) (by kernel_rfl) (by simp) ?_
  refine AllReadyH.cons rfl (fun K hK => ?_) AllReadyH.nil
  go_simp
  have hcl := cloneN_any (some ⟨bL, oL, none⟩) lc (Ls.take m) y0 (by rw [HTl.out]; have := Hl8.out; omega) hC0
  rw [HTl.out] at hcl
  refine hcl.mono ?_
  clear hcl
  rintro e' yC ⟨vC, rfl, A2, c2, rfl, hc2, hcs2, hfar2, hb⟩
  go_simp
  have hfar : ∀ z, A2 = some z → y1.heap.size ≤ z.block := fun z hz => Nat.le_trans hB0.size (hfar2 z hz)
  replace hB0 := below_only hB0 hb
  have hT0 : Lvr yC g p s t i h fA fn fc r := row_below HT.out hB0
  refine hK.out _ _ (trivial) (fun hS => ?_)
  clear hK K
  try simp only [zA, zB, zC, zD, zE]
  have Hc2 := Lib.hid hc2
  clear hb hC0 hfar2 hc2
  refine tkD (i := 17) (v := ?v17x81) (some 41) rfl rfl (Or.inl ⟨by kernel_rfl, ?h17x81⟩) ?r17x81
  case h17x81 => (intro w' hSw; go_simp; first | done | (with_reducible rfl))
  try simp only [zA, zB, zC, zD, zE]
  refine tkD (i := 18) (v := ?v18x82) (some 42) rfl rfl (Or.inl ⟨by kernel_rfl, ?h18x82⟩) ?r18x82
  case h18x82 => (intro w' hSw; go_simp; first | done | (with_reducible rfl))
  try simp only [zA, zB, zC, zD, zE]
  refine tkD (i := 19) (v := ?v19x83) (some 43) rfl rfl (Or.inl ⟨by kernel_rfl, ?h19x83⟩) ?r19x83
  case h19x83 => (intro w' hSw; go_simp; first | done | (with_reducible rfl))
  try simp only [zA, zB, zC, zD, zE]
  refine wpAnyH_ready (rs := [20]) (by kernel_rfl) (by simp) ?_
  refine AllReadyH.cons rfl (fun K hK => ?_) AllReadyH.nil
  obtain ⟨b0, b1, b2, b3, b4, b5, b13, b14, b18, b19, b20, b21, b22, b23, b24, b25, b26, bf13, bf18, bf19, bf20, bf21, bf22, bf23, bf24, bf25, bf26, bz⟩ := lv_box hT0
  rw [show r.list.v = .slice (some ⟨bL, oL, none⟩) (m + 1) lc from by rw [Hlist.out]] at b22
  go_simp
  clear b0 b1 b2 b3 b4 b5 b13 b14 b18 b19 b20 b21 b22 b23 b24 b25 b26 bf13 bf18 bf19 bf20 bf21 bf22 bf23 bf24 bf25 bf26 bz
  refine set_oneR (P := K _) yC g 22 (.slice A2 m c2) _ _ hT0 ?_
  intro yS hr hk_yS
  rw [show Value.slice A2 m c2 = (⟨A2, m, c2⟩ : Sl).v from rfl, pre_set _ _ 22 16 _ rfl] at hr
  have hT1 : Lvr yS g p s t i h fA fn fc { r with list := (⟨A2, m, c2⟩ : Sl) } := hr
  clear hr
  refine hK.out _ _ (trivial) (fun hS => ?_)
  clear hK K
  try simp only [zA, zB, zC, zD, zE]
  refine tkD (i := 21) (v := ?v21x84) (some 44) rfl rfl (Or.inl ⟨by kernel_rfl, ?h21x84⟩) ?r21x84
  case h21x84 => (intro w' hSw; go_simp; first | done | (with_reducible rfl))
  try simp only [zA, zB, zC, zD, zE]
  refine tkD (i := 22) (v := ?v22x85) (some 45) rfl rfl (Or.inl ⟨by kernel_rfl, ?h22x85⟩) ?r22x85
  case h22x85 => (intro w' hSw; go_simp; first | done | (with_reducible rfl))
  try simp only [zA, zB, zC, zD, zE]
  refine tkD (i := 23) (v := ?v23x86) (some 46) rfl rfl (Or.inl ⟨by kernel_rfl, ?h23x86⟩) ?r23x86
  case h23x86 => (intro w' hSw; go_simp; first | done | (with_reducible rfl))
  try simp only [zA, zB, zC, zD, zE]
  refine wpAnyH_ready (rs := [24]) (by kernel_rfl) (by simp) ?_
  refine AllReadyH.cons rfl (fun K hK => ?_) AllReadyH.nil
  have b9 := lv_box hT1
  go_simp
  clear b9
  try rw [show IntKind.i64.wrap (r.n + 1) = r.n + 1 from IntWalk.i64_in _ (by omega)]
  refine set_oneR (P := K _) yS g 25 (.int .i64 (r.n + 1)) _ _ hT1 ?_
  intro yT hr hk_yT
  rw [pre_set _ _ 25 19 _ rfl] at hr
  have hT2 : Lvr yT g p s t i h fA fn fc { r with list := (⟨A2, m, c2⟩ : Sl), n := r.n + 1 } := hr
  clear hr
  refine hK.out _ _ (trivial) (fun hS => ?_)
  clear hK K
  try simp only [zA, zB, zC, zD, zE]
  refine tkD (i := 25) (v := ?v25x87) (some 47) rfl rfl (Or.inl ⟨by kernel_rfl, ?h25x87⟩) ?r25x87
  case h25x87 => (intro w' hSw; go_simp; first | done | (with_reducible rfl))
  try simp only [zA, zB, zC, zD, zE]
  refine tkD (i := 26) (v := ?v26x88) (some 48) rfl rfl (Or.inl ⟨by kernel_rfl, ?h26x88⟩) ?r26x88
  case h26x88 => (intro w' hSw; go_simp; first | done | (with_reducible rfl))
  try simp only [zA, zB, zC, zD, zE]
  refine tkD (i := 27) (v := ?v27x89) (some 49) rfl rfl (Or.inl ⟨by kernel_rfl, ?h27x89⟩) ?r27x89
  case h27x89 => (intro w' hSw; go_simp; first | done | (with_reducible rfl))
  try simp only [zA, zB, zC, zD, zE]
  refine wpAnyH_ready (rs := [28]) (by kernel_rfl) (by simp) ?_
  refine AllReadyH.cons rfl (fun K hK => ?_) AllReadyH.nil
  have b9 := lv_box hT2
  go_simp
  clear b9
  refine set_oneR (P := K _) yT g 23 (.int .i64 0) _ _ hT2 ?_
  intro yU hr hk_yU
  rw [pre_set _ _ 23 17 _ rfl] at hr
  have hT3 : Lvr yU g p s t i h fA fn fc { r with list := (⟨A2, m, c2⟩ : Sl), n := r.n + 1, op := 0 } := hr
  clear hr
  refine hK.out _ _ (trivial) (fun hS => ?_)
  clear hK K
  try simp only [zA, zB, zC, zD, zE]
  refine wpAnyH_done (by kernel_rfl) ?_ _
  have hk3 : Keep [g] y1 yU := (((keep_below hB0 [g]).trans hk_yS).trans hk_yT).trans hk_yU
  have HLs : Hid (Cells yU A2 ((Ls.take m).flatMap nCells) ∧ ∀ z, A2 = some z → y1.heap.size ≤ z.block) := Lib.hid ⟨Cells.kept hcs2 ((hk_yS.trans hk_yT).trans hk_yU) (fun a ha => by
    have h1 := hfar a ha
    have h2 := lt_of_heap HT.out
    simp; omega), hfar⟩
  have Hg1 : Hid (g < y1.heap.size) := Lib.hid (lt_of_heap HT.out)
  replace HT := Lib.hid hT3
  replace HA := Lib.hid (HA.out.kept hk3 (by simpa using Hgp.out.2.symm) (by simpa using Hgp.out.1.symm))
  replace HK := Lib.hid (HK.out.trans (hk3.sub (T := [g, b]) (fun i hi => by simp at hi; simp [hi])))
  clear hS hB0 hT0 hT1 hT2 hT3 hk_yS hk_yT hk_yU hk3 hcs2 hfar
  go_wp2_with fail
  refine leaves_cons (f := 133) (args := #[.pointer (some ⟨g, 0, none⟩)]) (by simp) (by simp [go_sem]) ?_
  refine (lvFurtherD_any g p s t i h fA fn fc { r with list := (⟨A2, m, c2⟩ : Sl), n := r.n + 1, op := 0 } .returning _ HT.out (by show m ≤ 1048576; have := Hl8.out; omega)).mono ?_
  rintro e u' w'' ⟨rfl, rfl, hT, hk9⟩
  exact ⟨_, results_none rfl _ _ _, rfl, ⟨A2, m, c2⟩, hT, rfl, Hc2.out, Cells.kept HLs.out.1 hk9 (fun a ha => by have h1 := HLs.out.2 a ha; have h2 := Hg1.out; simp; omega), fun z hz => Nat.le_trans Hy1.out (HLs.out.2 z hz), HA.out.kept hk9 (by simpa using Hgp.out.2.symm) (by simpa using Hgp.out.1.symm), HK.out.trans (hk9.sub (T := [g, b]) (fun i hi => by simp at hi; simp [hi]))⟩
end Go.Proofs.YtbijaloeilnjoaaGreat
