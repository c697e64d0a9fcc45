/- The walk of ScopesPlays. -/
import Derived.Test.YtcicpfhbpcdjcaaScOpen
import Derived.Test.YtcicpfhbpcdjcaaScRefC
import Derived.Deep.Cut
import Derived.Deep.CutRange
import Derived.Deep.CutBlock
namespace Go.Proofs.Ytcicpfhbpcdjcaa
open Go.RowKit
theorem Scs.all_ltp {B p b g : Nat} {q : Option Nat} {f e : Int} {S : Sco} {w : World} (h : Scs B w p b g q f e S) {i : Nat} (hi : i ∈ p :: ScT b g q) : i < w.heap.size := by
  obtain ⟨h1, h2, h3, h4⟩ := h.lt
  rcases List.mem_cons.1 hi with rfl | hi
  · exact h1
  · rcases List.mem_cons.1 hi with rfl | hi
    · exact h2
    · rcases List.mem_cons.1 hi with rfl | hi
      · exact h3
      · exact (h4 i (by simpa using hi)).1

/-- the same, while one of the two is ahead -/
structure TwoB (B : Nat) (w : World) (p b g : Nat) (q : Option Nat) (p' bc bx g' gq cc cx : Nat) (dc dx : List Value) (f e : Int) (S T : Sco) (bb : List Bool) : Prop where
  s : Scs B w p b g q f e S
  r : RSc B w p' bc bx g' gq cc cx dc dx f e T bb
  ap : ∀ i, i ∈ [p', bc, bx, g', gq] → i ∉ p :: ScT b g q
section
variable {B p b g p' bc bx g' gq cc cx : Nat} {q : Option Nat} {dc dx : List Value} {f e : Int} {S T : Sco} {bb : List Bool} {w w' : World}
theorem TwoB.below (h : TwoB B w p b g q p' bc bx g' gq cc cx dc dx f e S T bb) (k : Below w.heap.size w w') : TwoB B w' p b g q p' bc bx g' gq cc cx dc dx f e S T bb := ⟨h.s.below k, h.r.below k, h.ap⟩
theorem RSc.mem_lt (h : RSc B w p' bc bx g' gq cc cx dc dx f e T bb) {i : Nat} (hi : i ∈ [p', bc, bx, g', gq]) : i < w.heap.size := by
  obtain ⟨h1, h2, h3, h4, h5⟩ := h.lt
  simp at hi
  rcases hi with rfl | rfl | rfl | rfl | rfl <;> assumption
theorem TwoB.prog {q' : Option Nat} {S' : Sco} (h : TwoB B w p b g q p' bc bx g' gq cc cx dc dx f e S T bb) (hs : Scs B w' p b g q' f e S') (hq : Fresh w q q') (k : Keep (ScT b g q) w w') : TwoB B w' p b g q' p' bc bx g' gq cc cx dc dx f e S' T bb := by
  have hn : ∀ i, i ∈ [p', bc, bx, g', gq] → i ∉ ScT b g q := fun i hi hm => h.ap i hi (List.mem_cons_of_mem _ hm)
  refine ⟨hs, h.r.kept k (hn _ (by simp)) (hn _ (by simp)) (hn _ (by simp)) (hn _ (by simp)) (hn _ (by simp)), fun i hi hm => ?_⟩
  have hlt := h.r.mem_lt hi
  rcases List.mem_cons.1 hm with rfl | hm
  · exact h.ap _ hi (by simp)
  · rcases List.mem_cons.1 hm with rfl | hm
    · exact h.ap _ hi (by simp)
    · rcases List.mem_cons.1 hm with rfl | hm
      · exact h.ap _ hi (by simp)
      · rcases hq i (by simpa using hm) with h3 | h3
        · exact h.ap i hi (by simp [h3])
        · omega
theorem TwoB.refn {T' : Sco} {bb' : List Bool} (h : TwoB B w p b g q p' bc bx g' gq cc cx dc dx f e S T bb) (hr : RSc B w' p' bc bx g' gq cc cx dc dx f e T' bb') (k : Keep (RT bc bx gq) w w') : TwoB B w' p b g q p' bc bx g' gq cc cx dc dx f e S T' bb' := by
  have hn : ∀ i, i ∈ p :: ScT b g q → i ∉ RT bc bx gq := fun i hi hm => h.ap i (by simp at hm; rcases hm with rfl | rfl | rfl <;> simp) hi
  exact ⟨h.s.kept k (hn _ (by simp)) (hn _ (by simp)) (hn _ (by simp)) (fun i hi => hn _ (by simp [hi])), hr, h.ap⟩
theorem TwoB.under1 {a : World} (h : TwoB B w p b g q p' bc bx g' gq cc cx dc dx f e S T bb) (hb : Below B a w) (k : Keep (ScT b g q) w w') : Below B a w' := h.s.keep_below hb k
theorem TwoB.under2 {a : World} (h : TwoB B w p b g q p' bc bx g' gq cc cx dc dx f e S T bb) (hb : Below B a w) (k : Keep (RT bc bx gq) w w') : Below B a w' := h.r.keep_below hb k
theorem keep_bc {w w' : World} (k : Keep [bc] w w') : Keep (RT bc bx gq) w w' := k.mono fun _ _ hm => by simp at hm; simp [hm]
theorem RSc.lower {B' : Nat} (h : RSc B' w p' bc bx g' gq cc cx dc dx f e T bb) (hB : B ≤ B') : RSc B w p' bc bx g' gq cc cx dc dx f e T bb :=
  { h with
    rg := { h.rg with low := Nat.le_trans hB h.rg.low, lowq := Nat.le_trans hB h.rg.lowq }
    low := ⟨Nat.le_trans hB h.low.1, Nat.le_trans hB h.low.2.1, Nat.le_trans hB h.low.2.2⟩ }
end

set_option maxRecDepth 100000 in
set_option maxHeartbeats 8000000 in
theorem scopesPlays_walk (qs qt qi qh : Int) (A : Option Addr) (c : Nat) (l : List GOp) (w : World) (_ : (Lit.int .i64 qs).wf = true) (_ : (Lit.int .i64 qt).wf = true) (_ : (Lit.int .i64 qi).wf = true) (_ : (Lit.int .i64 qh).wf = true)
    (_ : l.length ≤ c) (_ : c ≤ maxLen) (he : Cells w A (l.flatMap gopCells)) (hq : ∀ e ∈ l, GOpOk e) :
    Calls Try.prog 6 #[.agg #[.int .i64 qs, .int .i64 qt, .int .i64 qi, .int .i64 qh], .slice A l.length c] w fun e w' => e = .returned (.bool true) ∧ Below w.heap.size w w' := by
  have Hq := Lib.hid hq
  have He := Lib.hid he
  clear hq he
  obtain ⟨n, t, i, m, HPf, hP⟩ : ∃ (n : Nat) (t i m : Int), Hid (fitP ⟨qs, qt, qi, qh⟩ = ⟨n, t, i, m⟩) ∧ PlnOk ⟨n, t, i, m⟩ := by
    have h := fitP_ok ⟨qs, qt, qi, qh⟩
    refine ⟨(fitP ⟨qs, qt, qi, qh⟩).s.toNat, (fitP ⟨qs, qt, qi, qh⟩).t, (fitP ⟨qs, qt, qi, qh⟩).i, (fitP ⟨qs, qt, qi, qh⟩).h, ?_, ?_⟩
    · have := h.1
      rw [Int.toNat_of_nonneg (by omega)]
      exact rfl
    · have := h.1
      rw [Int.toNat_of_nonneg (by omega)]
      exact h
  have HP := Lib.hid hP
  obtain ⟨i0e, hi0e, hz0e, hz1e, hz2e⟩ := info_parts infoExt
  obtain ⟨n1, n8, t1, t4, i0, i1, m0, m1, _, _⟩ := hP
  dsimp only at n1 n8 t1 t4 i0 i1 m0 m1
  have n1' : 1 ≤ n := by omega
  have n8' : n ≤ 8 := by omega
  have HW0 := Lib.hid (show Below w.heap.size w (w.alloc (.cells #[.int .i64 qs, .int .i64 qt, .int .i64 qi, .int .i64 qh] 23)) by go_grown)
  have HR0 := Lib.hid (row_new w #[.int .i64 qs, .int .i64 qt, .int .i64 qi, .int .i64 qh] 23)
  go_enter Try.func6, Try.ntmps6
  go_wp2_with fail
  refine (shown_any _).mono ?_
  rintro r w1 ⟨rfl, hb⟩
  have HB1 := Lib.hid (below_only HW0.out hb)
  have HR1 := Lib.hid (row_below HR0.out hb)
  obtain ⟨pc0, pc1, pc2, pc3, _, _, _, _⟩ := box4 HR1.out
  clear hb
  go_wp2_with fail
  refine (fit_plan ⟨qs, qt, qi, qh⟩ _).mono ?_
  rintro r w2 ⟨rfl, hb⟩
  rw [HPf.out]
  have HX2 := Lib.hid (show Below w2.heap.size w2 (w2.alloc (.cells #[.int .i64 n, .int .i64 t, .int .i64 i, .int .i64 m] 23)) by go_grown)
  have HB2 := Lib.hid (below_only (below_only HB1.out hb) HX2.out)
  have HR2 := Lib.hid (row_new w2 #[.int .i64 n, .int .i64 t, .int .i64 i, .int .i64 m] 23)
  clear hb pc0 pc1 pc2 pc3
  go_wp2_with fail
  refine (snew_any ⟨n, t, i, m⟩ _ HP.out).mono ?_
  rintro r w4 ⟨p, b, g, q, rfl, hS, hb⟩
  dsimp only at hS
  obtain ⟨f, Hf⟩ : ∃ f, Hid ((n : Int) * 64 + i = f) := ⟨_, rfl⟩
  obtain ⟨e, He4⟩ : ∃ e, Hid ((n : Int) * 64 + i + m = e) := ⟨_, rfl⟩
  rw [Hf.out, show f + m = e by rw [← Hf.out, ← He4.out]] at hS
  obtain ⟨W, HW⟩ : ∃ W, Hid (w2.alloc (.cells #[.int .i64 n, .int .i64 t, .int .i64 i, .int .i64 m] 23) = W) := ⟨_, rfl⟩
  rw [HW.out] at hS hb
  have HBW := Lib.hid (show Below w.heap.size w W by rw [← HW.out]; exact HB2.out)
  have HR := Lib.hid (show W.heap[w2.heap.size]? = some (.cells #[.int .i64 n, .int .i64 t, .int .i64 i, .int .i64 m] 23 (0, 0)) by rw [← HW.out]; exact HR2.out)
  have HS4 := Lib.hid hS
  have HB4 := Lib.hid hb
  have hWw := HBW.out.size
  obtain ⟨pc0, pc1, pc2, pc3, _, _, _, _⟩ := box4 (row_below HR.out HB4.out)
  clear hS hb
  have HP2 := HP.out
  go_wp2_with fail
  refine (rnewS_any ⟨n, t, i, m⟩ _ HP2).mono ?_
  rintro r w5 ⟨p', bc, bx, g', gq, cc, cx, dc, dx, bb, rfl, hR, hb⟩
  dsimp only at hR
  rw [Hf.out, show f + m = e by rw [← Hf.out, ← He4.out]] at hR
  have hfe8 : f % 8 = 0 := by
    have := HP.out
    obtain ⟨_, _, _, _, _, _, _, _, h9, _⟩ := this
    dsimp only at h9
    rw [← Hf.out]
    omega
  have Hf8 := Lib.hid hfe8
  have HT := Lib.hid (show TwoB W.heap.size w5 p b g q p' bc bx g' gq cc cx dc dx f e (newS ⟨n, t, i, m⟩) (newS ⟨n, t, i, m⟩) bb from ⟨HS4.out.below hb, hR.lower HB4.out.size, fun j hj hm => by
    have hlt := HS4.out.all_ltp hm
    have hge : w4.heap.size ≤ j := by
      simp at hj
      rcases hj with rfl | rfl | rfl | rfl | rfl
      · exact hR.low.1
      · exact hR.low.2.1
      · exact hR.low.2.2
      · exact hR.rg.low
      · exact hR.rg.lowq
    omega⟩)
  have HB5 := Lib.hid (HB4.out.trans (hb.mono HB4.out.size))
  clear hR hb HP2 hfe8 pc0 pc1 pc2 pc3
  go_wp2_with fail
  go_loopw [10] (fun tt wr => ∃ (k : Nat) (q : Option Nat) (S : Sco) (bb : List Bool), k ≤ l.length ∧ k ≤ 60 ∧ tt = .int .i64 k ∧ TwoB W.heap.size wr p b g q p' bc bx g' gq cc cx dc dx f e S S bb ∧ Below W.heap.size W wr ∧ S.l.length = n ∧ S.l[0]? = some ⟨⟨2, 1, -1, 0⟩, ((n : Int) * 64, i)⟩)
    (fun tt _ => l.length - (intOf tt).toNat)
  case atStart => exact ⟨0, q, _, bb, Nat.zero_le _, by omega, rfl, HT.out, HB5.out, new_len n n1' t i m, new_head n t i m⟩
  case round =>
    obtain ⟨k, q, S, bb, hkl, hk60, rfl, hT, hB, hn, h0⟩ := hrel
    have HT := Lib.hid hT
    have HB := Lib.hid hB
    have Hn := Lib.hid hn
    have H0 := Lib.hid h0
    clear hT hB hn h0
    by_cases hgo : k < l.length ∧ k < 60
    · obtain ⟨hlt, hlt60⟩ := hgo
      obtain ⟨bA, off, rfl, hbl, hcl⟩ := gops_at He.out (by omega)
      obtain ⟨x, hx⟩ : ∃ x, l[k]? = some x := ⟨_, List.getElem?_eq_getElem hlt⟩
      obtain ⟨⟨xk0, xk1⟩, xi, xn⟩ := Hq.out x (List.mem_of_getElem? hx)
      obtain ⟨c0, c1, c2⟩ := hcl k x hx
      obtain ⟨xk, xs, xm⟩ := x
      dsimp only at xk0 xk1 xi xn c0 c1 c2
      have HBw := Lib.hid (show Below w.heap.size w wr from below_only HBW.out HB.out)
      have hcx := HBw.out
      have d0 := old_cell hcx c0
      have d1 := old_cell hcx c1
      have d2 := old_cell hcx c2
      have HX6 := Lib.hid (show Below wr.heap.size wr (wr.alloc (.cells #[.int .u8 xk, .int .i64 xs, .int .i64 xm] 35)) from by go_grown)
      have HT6 := Lib.hid (HT.out.below HX6.out)
      have HB6 := Lib.hid (HB.out.trans (HX6.out.mono HB.out.size))
      have HO6 := Lib.hid (row_new wr #[.int .u8 xk, .int .i64 xs, .int .i64 xm] 35)
      have hbox : ∀ j, j ∈ p :: ScT b g q ∨ j ∈ [p', bc, bx, g', gq] → j < wr.heap.size := fun j hj => hj.elim (fun h => HT.out.s.all_ltp h) (fun h => HT.out.r.mem_lt h)
      have Hbox := Lib.hid hbox
      clear hcl hx c0 c1 c2 hcx hbox
      go_upto_block 2 with fail
      go_cut [] from 49 to 217 (fun wx => ∃ (q : Option Nat) (T : Sco) (bb : List Bool), TwoB W.heap.size wx p b g q p' bc bx g' gq cc cx dc dx f e T T bb ∧ Below W.heap.size W wx ∧ T.l.length = n ∧ T.l[0]? = some ⟨⟨2, 1, -1, 0⟩, ((n : Int) * 64, i)⟩ ∧ wx.heap[wr.heap.size]? = some (.cells #[.int .u8 xk, .int .i64 xs, .int .i64 xm] 35 (0, 0)))
      case first =>
        obtain ⟨o0, o1, o2, _, _, _⟩ := box3 HO6.out
        obtain hk7 | hk7 | hk7 | hk7 | hk7 | hk7 | hk7 : xk % 7 = 0 ∨ xk % 7 = 1 ∨ xk % 7 = 2 ∨ xk % 7 = 3 ∨ xk % 7 = 4 ∨ xk % 7 = 5 ∨ xk % 7 = 6 := by omega
        · skip
          have HTn := Lib.hid ((createS_len xm S).trans Hn.out)
          have HT0 := Lib.hid ((createS_other (n := xm) (j := 0) (S := S) (fun s hs => by rw [H0.out] at hs; injection hs with hs; subst hs; exact (show (2 : Int) ≠ 0 by decide))).trans H0.out)
          have h00 : ∀ s, S.l[0]? = some s → s.c.st ≠ 0 := fun s hs => by rw [H0.out] at hs; injection hs with hs; subst hs; exact (show (2 : Int) ≠ 0 by decide)
          have H00 := Lib.hid h00
          clear h00
          obtain ⟨u, z, T, HD⟩ : ∃ u z T, Hid (createS xm S = ((u, z), T)) := ⟨_, _, _, rfl⟩
          rw [HD.out] at HTn HT0
          go_wp2_with fail
          refine (screate_any _ p b g q f e S xm _ HT6.out.s).mono ?_
          rintro r w7 ⟨rfl, hS, hk⟩
          rw [HD.out] at hS ⊢
          have HT7 := Lib.hid (HT6.out.prog hS (fun _ h => .inl h) hk)
          have HB7 := Lib.hid (HT6.out.under1 HB6.out hk)
          have HO7 := Lib.hid (hk.row HO6.out (fun hm => by have := Hbox.out _ (.inl (List.mem_cons_of_mem _ hm)); omega))
          obtain ⟨o0', o1', o2', _, _, _⟩ := box3 HO7.out
          clear hS hk
          go_wp2_with fail
          refine (rcreateS_any _ p' bc bx g' gq cc cx dc dx f e S bb xm _ HT7.out.r H00.out).mono ?_
          rintro r w8 ⟨rfl, ⟨b8, hR⟩, hk⟩
          rw [HD.out] at hR ⊢
          have HT8 := Lib.hid (HT7.out.refn hR hk)
          have HB8 := Lib.hid (HT7.out.under2 HB7.out hk)
          have HO8 := Lib.hid (hk.row HO7.out (fun hm => by simp at hm; have h1 := Hbox.out bc (.inr (by simp)); have h2 := Hbox.out bx (.inr (by simp)); have h3 := Hbox.out gq (.inr (by simp)); omega))
          clear hR hk
          go_wp2_with fail
          go_meet
          exact ⟨q, T, b8, HT8.out, HB8.out, HTn.out, HT0.out, HO8.out⟩
        · skip
          have HTn := Lib.hid ((destroyS_len f e xs S).trans Hn.out)
          have HT0 := Lib.hid ((destroyS_zero (f := f) (e := e) (i := xs) (S := S)).trans H0.out)
          obtain ⟨z, T, HD⟩ : ∃ z T, Hid (destroyS f e xs S = (z, T)) := ⟨_, _, rfl⟩
          rw [HD.out] at HTn HT0
          go_wp2_with fail
          have HTd := Lib.hid (HT6.out.below (Below.drew (Below.refl (wr.alloc (.cells #[.int .u8 xk, .int .i64 xs, .int .i64 xm] 35)).heap.size (wr.alloc (.cells #[.int .u8 xk, .int .i64 xs, .int .i64 xm] 35)))))
          have HBd := Lib.hid (HB6.out.drew)
          have HOd := Lib.hid (heap_drew HO6.out)
          obtain ⟨o0, o1, o2, _, _, _⟩ := box3 HOd.out
          go_region_held3 (fun V => V.cell? ⟨wr.heap.size, 1, none⟩ = some (.int .i64 xs)) (first | assumption | (refine And.intro ?_ ?_ <;> assumption))
            (first
              | (go_at_call 15; with_reducible refine (sdestroy_any _ p b g q f e S xs _ HTd.out.s).mono ?_; rintro r w7 ⟨rfl, ⟨q7, hS, hq⟩, hk⟩; rw [HD.out] at hS ⊢; have HT7 := Lib.hid (HTd.out.prog hS hq hk); have HB7 := Lib.hid (HTd.out.under1 HBd.out hk); have HO7 := Lib.hid ((show Keep (ScT b g q) _ _ from hk).row HOd.out (fun hm => by have := Hbox.out _ (.inl (List.mem_cons_of_mem _ hm)); omega)); obtain ⟨o0', o1', o2', _, _, _⟩ := box3 HO7.out; clear hS hk)
              | (go_at_call 26; with_reducible refine (rdestroyS_any _ p' bc bx g' gq cc cx dc dx f e S bb xs _ HT7.out.r).mono ?_; rintro r w8 ⟨rfl, ⟨b8, hR⟩, hk⟩; rw [HD.out] at hR ⊢; have HT8 := Lib.hid (HT7.out.refn hR hk); have HB8 := Lib.hid (HT7.out.under2 HB7.out hk); have HO8 := Lib.hid ((show Keep (RT bc bx gq) _ _ from hk).row HO7.out (fun hm => by simp at hm; have h1 := Hbox.out bc (.inr (by simp)); have h2 := Hbox.out bx (.inr (by simp)); have h3 := Hbox.out gq (.inr (by simp)); omega)); obtain ⟨o0'', o1'', o2'', _, _, _⟩ := box3 HO8.out; clear hR hk))
          go_wp2_with fail
          go_meet
          exact ⟨q7, T, b8, HT8.out, HB8.out, HTn.out, HT0.out, HO8.out⟩
        · skip
          have HTn := Lib.hid ((changeS_len (fun c => enter c xm) xs S).trans Hn.out)
          have HT0 := Lib.hid ((changeS_zero (c := (fun c => enter c xm)) (i := xs) (S := S)).trans H0.out)
          obtain ⟨z, T, HD⟩ : ∃ z T, Hid (enterS xs xm S = (z, T)) := ⟨_, _, rfl⟩
          rw [show changeS (fun c => enter c xm) xs S = (z, T) from HD.out] at HTn HT0
          go_wp2_with fail
          have HTd := Lib.hid (HT6.out.below (Below.drew (Below.refl (wr.alloc (.cells #[.int .u8 xk, .int .i64 xs, .int .i64 xm] 35)).heap.size (wr.alloc (.cells #[.int .u8 xk, .int .i64 xs, .int .i64 xm] 35)))))
          have HBd := Lib.hid (HB6.out.drew)
          have HOd := Lib.hid (heap_drew HO6.out)
          obtain ⟨o0, o1, o2, _, _, _⟩ := box3 HOd.out
          go_region_held3 (fun V => V.cell? ⟨wr.heap.size, 1, none⟩ = some (.int .i64 xs) ∧ V.cell? ⟨wr.heap.size, 2, none⟩ = some (.int .i64 xm)) (first | assumption | (refine And.intro ?_ ?_ <;> assumption))
            (first
              | (go_at_call 19; with_reducible refine (senter_any _ p b g q f e S xs xm _ HTd.out.s).mono ?_; rintro r w7 ⟨rfl, hS, hk⟩; rw [HD.out] at hS ⊢; have HT7 := Lib.hid (HTd.out.prog hS (fun _ h => .inl h) (keep_b hk)); have HB7 := Lib.hid (HTd.out.under1 HBd.out (keep_b hk)); have HO7 := Lib.hid ((show Keep (ScT b g q) _ _ from (keep_b hk)).row HOd.out (fun hm => by have := Hbox.out _ (.inl (List.mem_cons_of_mem _ hm)); omega)); obtain ⟨o0', o1', o2', _, _, _⟩ := box3 HO7.out; clear hS hk)
              | (go_at_call 31; with_reducible refine (renterS_any _ p' bc bx g' gq cc cx dc dx f e S bb xs xm _ HT7.out.r).mono ?_; rintro r w8 ⟨rfl, hR, hk⟩; rw [HD.out] at hR ⊢; have HT8 := Lib.hid (HT7.out.refn hR (keep_bc hk)); have HB8 := Lib.hid (HT7.out.under2 HB7.out (keep_bc hk)); have HO8 := Lib.hid ((show Keep (RT bc bx gq) _ _ from (keep_bc hk)).row HO7.out (fun hm => by simp at hm; have h1 := Hbox.out bc (.inr (by simp)); have h2 := Hbox.out bx (.inr (by simp)); have h3 := Hbox.out gq (.inr (by simp)); omega)); obtain ⟨o0'', o1'', o2'', _, _, _⟩ := box3 HO8.out; clear hR hk))
          go_wp2_with fail
          go_meet
          exact ⟨q, T, bb, HT8.out, HB8.out, HTn.out, HT0.out, HO8.out⟩
        · skip
          have HTn := Lib.hid ((changeS_len (fun c => enter c xm) xs S).trans Hn.out)
          have HT0 := Lib.hid ((changeS_zero (c := (fun c => enter c xm)) (i := xs) (S := S)).trans H0.out)
          obtain ⟨z, T, HD⟩ : ∃ z T, Hid (enterS xs xm S = (z, T)) := ⟨_, _, rfl⟩
          rw [show changeS (fun c => enter c xm) xs S = (z, T) from HD.out] at HTn HT0
          go_wp2_with fail
          have HTd := Lib.hid (HT6.out.below (Below.drew (Below.refl (wr.alloc (.cells #[.int .u8 xk, .int .i64 xs, .int .i64 xm] 35)).heap.size (wr.alloc (.cells #[.int .u8 xk, .int .i64 xs, .int .i64 xm] 35)))))
          have HBd := Lib.hid (HB6.out.drew)
          have HOd := Lib.hid (heap_drew HO6.out)
          obtain ⟨o0, o1, o2, _, _, _⟩ := box3 HOd.out
          go_region_held3 (fun V => V.cell? ⟨wr.heap.size, 1, none⟩ = some (.int .i64 xs) ∧ V.cell? ⟨wr.heap.size, 2, none⟩ = some (.int .i64 xm)) (first | assumption | (refine And.intro ?_ ?_ <;> assumption))
            (first
              | (go_at_call 19; with_reducible refine (senter_any _ p b g q f e S xs xm _ HTd.out.s).mono ?_; rintro r w7 ⟨rfl, hS, hk⟩; rw [HD.out] at hS ⊢; have HT7 := Lib.hid (HTd.out.prog hS (fun _ h => .inl h) (keep_b hk)); have HB7 := Lib.hid (HTd.out.under1 HBd.out (keep_b hk)); have HO7 := Lib.hid ((show Keep (ScT b g q) _ _ from (keep_b hk)).row HOd.out (fun hm => by have := Hbox.out _ (.inl (List.mem_cons_of_mem _ hm)); omega)); obtain ⟨o0', o1', o2', _, _, _⟩ := box3 HO7.out; clear hS hk)
              | (go_at_call 31; with_reducible refine (renterS_any _ p' bc bx g' gq cc cx dc dx f e S bb xs xm _ HT7.out.r).mono ?_; rintro r w8 ⟨rfl, hR, hk⟩; rw [HD.out] at hR ⊢; have HT8 := Lib.hid (HT7.out.refn hR (keep_bc hk)); have HB8 := Lib.hid (HT7.out.under2 HB7.out (keep_bc hk)); have HO8 := Lib.hid ((show Keep (RT bc bx gq) _ _ from (keep_bc hk)).row HO7.out (fun hm => by simp at hm; have h1 := Hbox.out bc (.inr (by simp)); have h2 := Hbox.out bx (.inr (by simp)); have h3 := Hbox.out gq (.inr (by simp)); omega)); obtain ⟨o0'', o1'', o2'', _, _, _⟩ := box3 HO8.out; clear hR hk))
          go_wp2_with fail
          go_meet
          exact ⟨q, T, bb, HT8.out, HB8.out, HTn.out, HT0.out, HO8.out⟩
        · skip
          have HTn := Lib.hid ((changeS_len leave xs S).trans Hn.out)
          have HT0 := Lib.hid ((changeS_zero (c := leave) (i := xs) (S := S)).trans H0.out)
          obtain ⟨z, T, HD⟩ : ∃ z T, Hid (leaveS xs S = (z, T)) := ⟨_, _, rfl⟩
          rw [show changeS leave xs S = (z, T) from HD.out] at HTn HT0
          obtain ⟨la, HLa⟩ : ∃ la, Hid (lastS xs S = la) := ⟨_, rfl⟩
          go_wp2_with fail
          refine (sleave_any _ p b g q f e S xs _ HT6.out.s).mono ?_
          rintro r w7 ⟨rfl, hS, hk⟩
          rw [HD.out] at hS ⊢
          rw [HLa.out]
          have HT7 := Lib.hid (HT6.out.prog hS (fun _ h => .inl h) (keep_b hk))
          have HB7 := Lib.hid (HT6.out.under1 HB6.out (keep_b hk))
          have HO7 := Lib.hid ((keep_b (q := q) (g := g) hk).row HO6.out (fun hm => by have := Hbox.out _ (.inl (List.mem_cons_of_mem _ hm)); omega))
          obtain ⟨o0', o1', o2', _, _, _⟩ := box3 HO7.out
          clear hS hk
          go_wp2_with fail
          refine (rleaveS_any _ p' bc bx g' gq cc cx dc dx f e S bb xs _ HT7.out.r).mono ?_
          rintro r w8 ⟨rfl, hR, hk⟩
          rw [HD.out] at hR ⊢
          rw [HLa.out]
          have HT8 := Lib.hid (HT7.out.refn hR (keep_bc hk))
          have HB8 := Lib.hid (HT7.out.under2 HB7.out (keep_bc hk))
          have HO8 := Lib.hid ((keep_bc (bx := bx) (gq := gq) hk).row HO7.out (fun hm => by simp at hm; have h1 := Hbox.out bc (.inr (by simp)); have h2 := Hbox.out bx (.inr (by simp)); have h3 := Hbox.out gq (.inr (by simp)); omega))
          clear hR hk
          go_wp2_with fail
          go_meet
          exact ⟨q, T, bb, HT8.out, HB8.out, HTn.out, HT0.out, HO8.out⟩
        · skip
          have HTn := Lib.hid ((changeS_len openC xs S).trans Hn.out)
          have HT0 := Lib.hid ((changeS_zero (c := openC) (i := xs) (S := S)).trans H0.out)
          obtain ⟨z, T, HD⟩ : ∃ z T, Hid (openS xs S = (z, T)) := ⟨_, _, rfl⟩
          rw [show changeS openC xs S = (z, T) from HD.out] at HTn HT0
          go_wp2_with fail
          have HTd := Lib.hid (HT6.out.below (Below.drew (Below.refl (wr.alloc (.cells #[.int .u8 xk, .int .i64 xs, .int .i64 xm] 35)).heap.size (wr.alloc (.cells #[.int .u8 xk, .int .i64 xs, .int .i64 xm] 35)))))
          have HBd := Lib.hid (HB6.out.drew)
          have HOd := Lib.hid (heap_drew HO6.out)
          obtain ⟨o0, o1, o2, _, _, _⟩ := box3 HOd.out
          go_region_held3 (fun V => V.cell? ⟨wr.heap.size, 1, none⟩ = some (.int .i64 xs)) (first | assumption | (refine And.intro ?_ ?_ <;> assumption))
            (first
              | (go_at_call 21; with_reducible refine (sopen_any _ p b g q f e S xs _ HTd.out.s).mono ?_; rintro r w7 ⟨rfl, hS, hk⟩; rw [HD.out] at hS ⊢; have HT7 := Lib.hid (HTd.out.prog hS (fun _ h => .inl h) (keep_b hk)); have HB7 := Lib.hid (HTd.out.under1 HBd.out (keep_b hk)); have HO7 := Lib.hid ((show Keep (ScT b g q) _ _ from (keep_b hk)).row HOd.out (fun hm => by have := Hbox.out _ (.inl (List.mem_cons_of_mem _ hm)); omega)); obtain ⟨o0', o1', o2', _, _, _⟩ := box3 HO7.out; clear hS hk)
              | (go_at_call 28; with_reducible refine (ropenS_any _ p' bc bx g' gq cc cx dc dx f e S bb xs _ HT7.out.r).mono ?_; rintro r w8 ⟨rfl, hR, hk⟩; rw [HD.out] at hR ⊢; have HT8 := Lib.hid (HT7.out.refn hR (keep_bc hk)); have HB8 := Lib.hid (HT7.out.under2 HB7.out (keep_bc hk)); have HO8 := Lib.hid ((show Keep (RT bc bx gq) _ _ from (keep_bc hk)).row HO7.out (fun hm => by simp at hm; have h1 := Hbox.out bc (.inr (by simp)); have h2 := Hbox.out bx (.inr (by simp)); have h3 := Hbox.out gq (.inr (by simp)); omega)); obtain ⟨o0'', o1'', o2'', _, _, _⟩ := box3 HO8.out; clear hR hk))
          go_wp2_with fail
          go_meet
          exact ⟨q, T, bb, HT8.out, HB8.out, HTn.out, HT0.out, HO8.out⟩
        · skip
          have HTn := Lib.hid ((changeS_len hold xs S).trans Hn.out)
          have HT0 := Lib.hid ((changeS_zero (c := hold) (i := xs) (S := S)).trans H0.out)
          obtain ⟨z, T, HD⟩ : ∃ z T, Hid (holdS xs S = (z, T)) := ⟨_, _, rfl⟩
          rw [show changeS hold xs S = (z, T) from HD.out] at HTn HT0
          go_wp2_with fail
          have HTd := Lib.hid (HT6.out.below (Below.drew (Below.refl (wr.alloc (.cells #[.int .u8 xk, .int .i64 xs, .int .i64 xm] 35)).heap.size (wr.alloc (.cells #[.int .u8 xk, .int .i64 xs, .int .i64 xm] 35)))))
          have HBd := Lib.hid (HB6.out.drew)
          have HOd := Lib.hid (heap_drew HO6.out)
          obtain ⟨o0, o1, o2, _, _, _⟩ := box3 HOd.out
          go_region_held3 (fun V => V.cell? ⟨wr.heap.size, 1, none⟩ = some (.int .i64 xs)) (first | assumption | (refine And.intro ?_ ?_ <;> assumption))
            (first
              | (go_at_call 29; with_reducible refine (shold_any _ p b g q f e S xs _ HTd.out.s).mono ?_; rintro r w7 ⟨rfl, hS, hk⟩; rw [HD.out] at hS ⊢; have HT7 := Lib.hid (HTd.out.prog hS (fun _ h => .inl h) (keep_b hk)); have HB7 := Lib.hid (HTd.out.under1 HBd.out (keep_b hk)); have HO7 := Lib.hid ((show Keep (ScT b g q) _ _ from (keep_b hk)).row HOd.out (fun hm => by have := Hbox.out _ (.inl (List.mem_cons_of_mem _ hm)); omega)); obtain ⟨o0', o1', o2', _, _, _⟩ := box3 HO7.out; clear hS hk)
              | (go_at_call 30; with_reducible refine (rholdS_any _ p' bc bx g' gq cc cx dc dx f e S bb xs _ HT7.out.r).mono ?_; rintro r w8 ⟨rfl, hR, hk⟩; rw [HD.out] at hR ⊢; have HT8 := Lib.hid (HT7.out.refn hR (keep_bc hk)); have HB8 := Lib.hid (HT7.out.under2 HB7.out (keep_bc hk)); have HO8 := Lib.hid ((show Keep (RT bc bx gq) _ _ from (keep_bc hk)).row HO7.out (fun hm => by simp at hm; have h1 := Hbox.out bc (.inr (by simp)); have h2 := Hbox.out bx (.inr (by simp)); have h3 := Hbox.out gq (.inr (by simp)); omega)); obtain ⟨o0'', o1'', o2'', _, _, _⟩ := box3 HO8.out; clear hR hk))
          go_wp2_with fail
          go_meet
          exact ⟨q, T, bb, HT8.out, HB8.out, HTn.out, HT0.out, HO8.out⟩
      case rest =>
        obtain ⟨q, T, bb, hT, hB, hn, h0, hO⟩ := hcut
        have HT7 := Lib.hid hT
        have HB7 := Lib.hid hB
        have HTn := Lib.hid hn
        have HT0 := Lib.hid h0
        have HO7 := Lib.hid hO
        clear hT hB hn h0 hO
        obtain ⟨o0, o1, o2, _, _, _⟩ := box3 HO7.out
        obtain ⟨cs, cn, cp, ce, cz, HC⟩ : ∃ cs cn cp ce cz, Hid (ctlS xs T = (⟨cs, cn, cp, ce⟩, cz)) := ⟨(ctlS xs T).1.st, _, _, _, _, rfl⟩
        obtain ⟨ea, es, ez, HE⟩ : ∃ ea es ez, Hid (extS xs T = ((ea, es), ez)) := ⟨(extS xs T).1.1, _, _, rfl⟩
        go_wp2_with fail
        refine (ctl_any _ p b g q f e T xs _ HT7.out.s).mono ?_
        rintro r w8 ⟨rfl, hb⟩
        rw [HC.out]
        have hX := (show Below w8.heap.size w8 (w8.alloc (.cells #[.int .i64 cs, .int .i64 cn, .int .i64 cp, .int .i64 ce] 43)) by go_grown)
        have HT8 := Lib.hid (HT7.out.below (below_only hb hX))
        have HB8 := Lib.hid (HB7.out.trans ((below_only hb hX).mono HB7.out.size))
        have HO8 := Lib.hid (row_below HO7.out (below_only hb hX))
        have HN8 := Lib.hid (row_new w8 #[.int .i64 cs, .int .i64 cn, .int .i64 cp, .int .i64 ce] 43)
        clear hb hX o0 o1 o2
        obtain ⟨o0, o1, o2, _, _, _⟩ := box3 HO8.out
        go_wp2_with fail
        refine (rctl_any _ p' bc bx g' gq cc cx dc dx f e T bb xs _ HT8.out.r).mono ?_
        rintro r w9 ⟨rfl, hb⟩
        rw [HC.out]
        have hX := (show Below w9.heap.size w9 (w9.alloc (.cells #[.int .i64 cs, .int .i64 cn, .int .i64 cp, .int .i64 ce] 43)) by go_grown)
        have HT9 := Lib.hid (HT8.out.below (below_only hb hX))
        have HB9 := Lib.hid (HB8.out.trans ((below_only hb hX).mono HB8.out.size))
        have HO9 := Lib.hid (row_below HO8.out (below_only hb hX))
        have HM9 := Lib.hid (row_below HN8.out (below_only hb hX))
        have HN9 := Lib.hid (row_new w9 #[.int .i64 cs, .int .i64 cn, .int .i64 cp, .int .i64 ce] 43)
        clear hb hX o0 o1 o2
        obtain ⟨o0, o1, o2, _, _, _⟩ := box3 HO9.out
        go_wp2_with fail
        refine (ext_any _ p b g q f e T xs _ HT9.out.s).mono ?_
        rintro r w10 ⟨rfl, hb⟩
        rw [HE.out]
        have hX := (show Below w10.heap.size w10 (w10.alloc (.cells #[.int .i64 ea, .int .i64 es] 32)) by go_grown)
        have HT10 := Lib.hid (HT9.out.below (below_only hb hX))
        have HB10 := Lib.hid (HB9.out.trans ((below_only hb hX).mono HB9.out.size))
        have HO10 := Lib.hid (row_below HO9.out (below_only hb hX))
        have HM10 := Lib.hid (row_below HM9.out (below_only hb hX))
        have HN10 := Lib.hid (row_below HN9.out (below_only hb hX))
        have HE10 := Lib.hid (row_new w10 #[.int .i64 ea, .int .i64 es] 32)
        clear hb hX o0 o1 o2
        obtain ⟨o0, o1, o2, _, _, _⟩ := box3 HO10.out
        go_wp2_with fail
        refine (rext_any _ p' bc bx g' gq cc cx dc dx f e T bb xs _ HT10.out.r).mono ?_
        rintro r w11 ⟨rfl, hb⟩
        rw [HE.out]
        have hX := (show Below w11.heap.size w11 (w11.alloc (.cells #[.int .i64 ea, .int .i64 es] 32)) by go_grown)
        obtain ⟨w12, HW12⟩ : ∃ w12, Hid (w11.alloc (.cells #[.int .i64 ea, .int .i64 es] 32) = w12) := ⟨_, rfl⟩
        have HF11 := Lib.hid (row_new w11 #[.int .i64 ea, .int .i64 es] 32)
        rw [HW12.out] at hX HF11
        have HT12 := Lib.hid (HT10.out.below (below_only hb hX))
        have HB12 := Lib.hid (HB10.out.trans ((below_only hb hX).mono HB10.out.size))
        have HM12 := Lib.hid (row_below HM10.out (below_only hb hX))
        have HN12 := Lib.hid (row_below HN10.out (below_only hb hX))
        have HE12 := Lib.hid (row_below HE10.out (below_only hb hX))
        clear hb hX o0 o1 o2
        have HF := Lib.hid HT12.out.s.gr.size
        have hF : T.F.length ≤ 131072 := HF.out
        have HTd := Lib.hid (HT12.out.below (Below.drew (Below.refl w12.heap.size w12)))
        have HBd := Lib.hid (HB12.out.drew)
        obtain ⟨_, _, g2, _, _, _⟩ := box3 HT12.out.r.hd
        have hsame : decide (T.F = T.F) = true := decide_eq_true rfl
        go_wp2_with fail
        rw [HW12.out]
        go_region_held3 (fun V => V.cell? ⟨p', 2, none⟩ = some (.pointer (some ⟨g', 0, none⟩))) (assumption)
          (first
            | (go_at_call 18; refine (sfree_any _ p b g q f e T _ HTd.out.s).mono ?_; rintro r w13 ⟨v, rfl, A13, c13, rfl, hc13, hcs13, _, hb⟩; have HT13 := Lib.hid (HTd.out.below hb); have HZ13 := Lib.hid (below_drew_of hb); have HB13 := Lib.hid (HBd.out.trans (hb.mono HBd.out.size)); have HC13 := Lib.hid hcs13; have ga2 := old_cell (below_drew_of hb) g2; clear hb hcs13)
            | (go_at_call 35; refine (extents_any _ g' gq f bb _ HT13.out.r.rg Hf8.out).mono ?_; rintro r w14 ⟨v, rfl, A14, c14, rfl, hc14, hcs14, _, hb⟩; rw [runs_all Hf8.out HT13.out.r.tw.len HT13.out.r.tw.can HT13.out.r.tw.cov] at hcs14 ⊢; have HT14 := Lib.hid (HT13.out.below hb); have HZ14 := Lib.hid (below_only HZ13.out hb); have HB14 := Lib.hid (HB13.out.trans (hb.mono HB13.out.size)); have HC14 := Lib.hid hcs14; have HC13' := Lib.hid (HC13.out.below hb); have gb2 := old_cell hb ga2; clear hb hcs14)
            | (go_at_call 34; refine (same_any A13 A14 c13 c14 T.F T.F _ (by omega) (by omega) HC13'.out HC14.out).mono ?_; rintro r w15 ⟨rfl, hb⟩; (first | rw [hsame] | skip); have HT15 := Lib.hid (HT14.out.below hb); have HZ15 := Lib.hid (below_only HZ14.out hb); have HB15 := Lib.hid (HB14.out.trans (hb.mono HB14.out.size)); have gc2 := old_cell hb gb2; clear hb))
        have HX15 : ∀ {gg : Nat} {o : Obj}, w12.heap[gg]? = some o → w15.heap[gg]? = some o := fun h => row_below h HZ15.out
        obtain ⟨m0', m1', m2', m3', _, _, _, _⟩ := box4 (HX15 HM12.out)
        obtain ⟨n0', n1'', n2', n3', _, _, _, _⟩ := box4 (HX15 HN12.out)
        obtain ⟨e0', e1', _, _⟩ := box2 (HX15 HE12.out)
        obtain ⟨f0', f1', _, _⟩ := box2 (HX15 HF11.out)
        clear HX15
        go_wp2
        go_roundw
        case rel => exact ⟨k + 1, q, T, bb, by omega, by omega, by go_num, HT15.out, HB15.out, HTn.out, HT0.out⟩
        case measure => simp [intOf]; omega
    · have hex : ¬ k < l.length ∨ (k < l.length ∧ ¬ k < 60) := by omega
      clear hgo
      rcases hex with h1 | ⟨h1, h2⟩
      all_goals
        go_wp2
        go_ret
        exact ⟨rfl, below_only HBW.out HB.out⟩

end Go.Proofs.Ytcicpfhbpcdjcaa
