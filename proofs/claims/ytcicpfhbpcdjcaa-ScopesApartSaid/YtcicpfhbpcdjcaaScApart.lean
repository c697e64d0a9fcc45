/- The walk of ScopesApart. -/
import Derived.Test.YtcicpfhbpcdjcaaScApartPlain
import Derived.Deep.WholeRow
import Derived.BigQuiet
import Derived.Deep.Cut
import Derived.Deep.CutRange
import Derived.Deep.CutBlock
namespace Go.Proofs.Ytcicpfhbpcdjcaa
open Go.RowKit

def intsV (b : List Bool) : List Value := b.map fun v => .int .i64 (if v then 1 else 0)
theorem ints_set {b : List Bool} (k : Nat) : ((intsV b).toArray.setIfInBounds k (.int .i64 1)) = (intsV (b.set k true)).toArray := by
  apply Array.ext'
  simp [intsV, List.map_set]
theorem ints_cell {w : World} {q : Nat} {b : List Bool} {t : TypeId} (h : w.heap[q]? = some (.cells (intsV b).toArray t (0, 0))) (k : Nat) (v : Bool) (hv : b[k]? = some v) : w.cell? ⟨q, k, none⟩ = some (.int .i64 (if v then 1 else 0)) := by
  rw [row_cell h]
  simp [intsV, hv]
theorem notin_sct {b g H : Nat} {q : Option Nat} (h1 : b ≠ H) (h2 : g ≠ H) (h3 : q ≠ some H) : H ∉ ScT b g q := by
  intro hm
  rcases List.mem_cons.1 hm with e | hm
  · exact h1 e.symm
  · rcases List.mem_cons.1 hm with e | hm
    · exact h2 e.symm
    · exact h3 (by simpa using hm)

def Z128 : Array Value := (intsV (List.replicate 128 false)).toArray
theorem zero128 (w : World) : (zeroValue 39).run Try.prog w = .ok (.agg Z128) w := by kernel_rfl
theorem info128 : (Try.prog.info? 39).map (·.size) = some 128 := by kernel_rfl
theorem build128 (w : World) : (Instr.build 39 #[]).run Try.prog w = .ok (.agg Z128) w := by kernel_rfl
theorem alloc128 (w : World) : (Instr.alloc 39 true (.tuple #[])).run Try.prog w = .ok (.pointer (some ⟨w.heap.size, 0, none⟩)) (w.alloc (.cells Z128 39)) := by kernel_rfl
theorem size128 : Z128.size = 128 := by simp [Z128, intsV]
theorem one128 : Z128.all (·.oneCell') = true := by kernel_rfl

theorem wpList_zero128 {w : World} {ops : Array Oper} {rest : List Oper} {o1 o2 o3 : Oper} {a : Act} {Q : Exit → Act → World → Prop} (x y : Tmp) (g1 : o1.guard = none) (g2 : o2.guard = none) (g3 : o3.guard = none)
    (h1 : o1.op = .build 39 #[]) (h2 : o2.op = .alloc 39) (h3 : o3.op = .store 39 (.tmp x) (.tmp y))
    (d3 : o3.dst = none)
    (e1 : ((a.put o1.dst (.agg Z128)).put o2.dst (.pointer (some ⟨w.heap.size, 0, none⟩))).eval (.tmp x) = .pointer (some ⟨w.heap.size, 0, none⟩))
    (e2 : ((a.put o1.dst (.agg Z128)).put o2.dst (.pointer (some ⟨w.heap.size, 0, none⟩))).eval (.tmp y) = .agg Z128)
    (h : wpList Try.prog ops Q rest ((a.put o1.dst (.agg Z128)).put o2.dst (.pointer (some ⟨w.heap.size, 0, none⟩))) (w.alloc (.cells Z128 39))) :
    wpList Try.prog ops Q (o1 :: o2 :: o3 :: rest) a w := by
  refine wpList_plain g1 fun K hK => ?_
  unfold Oper.wp execOp
  simp only [h1, Array.map_empty, build128, Sem.run_bind, Sem.run_pure, Result.andThen_ok]
  refine hK _ _ (wpList_plain g2 fun K hK => ?_)
  unfold Oper.wp execOp
  simp only [h2, alloc128, Sem.run_bind, Sem.run_pure, Result.andThen_ok]
  refine hK _ _ (wpList_plain g3 fun K hK => ?_)
  have hst := run_storeAt_new (P := Try.prog) w 39 Z128 Z128 (by rw [size128]; exact info128) rfl one128
  unfold Oper.wp execOp
  simp only [h3, e1, e2, hst, Sem.run_bind, Sem.run_pure, Result.andThen_ok]
  exact hK _ _ (by rw [d3]; exact h)

set_option maxRecDepth 100000 in
set_option maxHeartbeats 8000000 in
theorem scopesApart_walk (qs qt qi qh : Int) (A : Option Addr) (c : Nat) (l : List GOp) (w : World) (_ : (Lit.int .i64 qs).wf = true) (_ : (Lit.int .i64 qt).wf = true) (_ : (Lit.int .i64 qi).wf = true) (_ : (Lit.int .i64 qh).wf = true)
    (_ : l.length ≤ c) (_ : c ≤ maxLen) (he : Cells w A (l.flatMap gopCells)) (hq : ∀ e ∈ l, GOpOk e) :
    Calls Try.prog 3 #[.agg #[.int .i64 qs, .int .i64 qt, .int .i64 qi, .int .i64 qh], .slice A l.length c] w fun e w' => e = .returned (.bool true) ∧ Below w.heap.size w w' := by
  have Hq := Lib.hid hq
  have He := Lib.hid he
  clear hq he
  obtain ⟨n, t, i, m, HPf, hP⟩ : ∃ (n : Nat) (t i m : Int), Hid (fitP ⟨qs, qt, qi, qh⟩ = ⟨n, t, i, m⟩) ∧ PlnOk ⟨n, t, i, m⟩ := by
    have h := fitP_ok ⟨qs, qt, qi, qh⟩
    refine ⟨(fitP ⟨qs, qt, qi, qh⟩).s.toNat, (fitP ⟨qs, qt, qi, qh⟩).t, (fitP ⟨qs, qt, qi, qh⟩).i, (fitP ⟨qs, qt, qi, qh⟩).h, ?_, ?_⟩
    · have := h.1
      rw [Int.toNat_of_nonneg (by omega)]
      exact rfl
    · have := h.1
      rw [Int.toNat_of_nonneg (by omega)]
      exact h
  have HP := Lib.hid hP
  obtain ⟨i0e, hi0e, hz0e, hz1e, hz2e⟩ := info_parts infoExt
  obtain ⟨n1, n8, t1, t4, i0, i1, m0, m1, _, _⟩ := hP
  dsimp only at n1 n8 t1 t4 i0 i1 m0 m1
  have n1' : 1 ≤ n := by omega
  have n8' : n ≤ 8 := by omega
  have HW0 := Lib.hid (show Below w.heap.size w (w.alloc (.cells #[.int .i64 qs, .int .i64 qt, .int .i64 qi, .int .i64 qh] 23)) by go_grown)
  have HR0 := Lib.hid (row_new w #[.int .i64 qs, .int .i64 qt, .int .i64 qi, .int .i64 qh] 23)
  go_enter Try.func3, Try.ntmps3
  go_wp2_with fail
  refine (shown_any _).mono ?_
  rintro r w1 ⟨rfl, hb⟩
  have HB1 := Lib.hid (below_only HW0.out hb)
  have HR1 := Lib.hid (row_below HR0.out hb)
  obtain ⟨pc0, pc1, pc2, pc3, _, _, _, _⟩ := box4 HR1.out
  clear hb
  go_wp2_with fail
  refine (fit_plan ⟨qs, qt, qi, qh⟩ _).mono ?_
  rintro r w2 ⟨rfl, hb⟩
  rw [HPf.out]
  have HX2 := Lib.hid (show Below w2.heap.size w2 (w2.alloc (.cells #[.int .i64 n, .int .i64 t, .int .i64 i, .int .i64 m] 23)) by go_grown)
  have HB2 := Lib.hid (below_only (below_only HB1.out hb) HX2.out)
  have HR2 := Lib.hid (row_new w2 #[.int .i64 n, .int .i64 t, .int .i64 i, .int .i64 m] 23)
  clear hb pc0 pc1 pc2 pc3
  go_wp2_with fail
  refine (snew_any ⟨n, t, i, m⟩ _ HP.out).mono ?_
  rintro r w4 ⟨p, b, g, q, rfl, hS, hb⟩
  dsimp only at hS
  obtain ⟨f, Hf⟩ : ∃ f, Hid ((n : Int) * 64 + i = f) := ⟨_, rfl⟩
  obtain ⟨e, He4⟩ : ∃ e, Hid ((n : Int) * 64 + i + m = e) := ⟨_, rfl⟩
  rw [Hf.out, show f + m = e by rw [← Hf.out, ← He4.out]] at hS
  obtain ⟨W, HW⟩ : ∃ W, Hid (w2.alloc (.cells #[.int .i64 n, .int .i64 t, .int .i64 i, .int .i64 m] 23) = W) := ⟨_, rfl⟩
  rw [HW.out] at hS hb
  have HBW := Lib.hid (show Below w.heap.size w W by rw [← HW.out]; exact HB2.out)
  have HR := Lib.hid (show W.heap[w2.heap.size]? = some (.cells #[.int .i64 n, .int .i64 t, .int .i64 i, .int .i64 m] 23 (0, 0)) by rw [← HW.out]; exact HR2.out)
  have HS4 := Lib.hid hS
  have HB4 := Lib.hid hb
  have hWw := HBW.out.size
  obtain ⟨pc0, pc1, pc2, pc3, _, _, _, _⟩ := box4 (row_below HR.out HB4.out)
  clear hS hb
  have hf8 : f % 8 = 0 := by rw [← Hf.out]; omega
  have hfm : f + m = e := by rw [← Hf.out]; exact He4.out
  have m16 : m ≤ 1016 := by have := congrArg Pln.h HPf.out; simp only [fitP] at this; omega
  have f0 : 0 ≤ f := by rw [← Hf.out]; omega
  have f1 : f ≤ 131072 := by rw [← Hf.out]; omega
  have m8 : m % 8 = 0 := by omega
  have HT0 := Lib.hid (show Til f e (newS ⟨n, t, i, m⟩) by rw [← He4.out, ← Hf.out]; exact til_new m0 (by omega) m8)
  have HF8 := Lib.hid hf8
  have HFM := Lib.hid hfm
  have HM8 := Lib.hid m8
  have he1024 : e - f ≤ 1024 := by omega
  have HE1 := Lib.hid he1024
  obtain ⟨M, HMM⟩ : ∃ M : Nat, Hid (m = 8 * (M : Int)) := ⟨(m / 8).toNat, Lib.hid (by omega)⟩
  have hmd : m.tdiv 8 = (M : Int) := by rw [HMM.out]; exact Int.mul_tdiv_cancel_left _ (by decide)
  have hM : M ≤ 127 := by have := HMM.out; omega
  clear hf8 hfm m8 he1024
  go_wp2_with fail
  refine (heap_plan ⟨n, t, i, m⟩ _ HP.out).mono ?_
  rintro r w5 ⟨hr, hb5⟩
  obtain rfl : r = .returned (.agg #[.int .i64 f, .int .i64 m]) := by rw [hr, ← Hf.out]
  have HX6 := Lib.hid (show Below w5.heap.size w5 (w5.alloc (.cells #[.int .i64 f, .int .i64 m] 32)) by go_grown)
  have z5 := hb5.size
  obtain ⟨lp, lb, lg, lq⟩ := HS4.out.lt
  have HE6 := Lib.hid (row_new w5 #[.int .i64 f, .int .i64 m] 32)
  have HS6 := Lib.hid ((HS4.out.below hb5).below HX6.out)
  have HB6 := Lib.hid (HB4.out.trans ((below_only hb5 HX6.out).mono HB4.out.size))
  have hq0 : q ≠ some w5.heap.size := fun h => by have := (lq _ h).1; omega
  have hpH : p < w5.heap.size := by omega
  have hbH : b < w5.heap.size := by omega
  have hgH : g < w5.heap.size := by omega
  have hWH : W.heap.size ≤ w5.heap.size := by have := HB4.out.size; omega
  clear hb5 pc0 pc1 pc2 pc3 hr lp lb lg lq
  go_wp2_with fail
  go_loopw [10] (fun tt wr => ∃ (k : Nat) (q : Option Nat) (S : Sco), k ≤ l.length ∧ k ≤ 20 ∧ tt = .int .i64 k ∧ Scs W.heap.size wr p b g q f e S ∧ Til f e S ∧ S.l.length = n ∧ Below W.heap.size W wr ∧ wr.heap[w5.heap.size]? = some (.cells #[.int .i64 f, .int .i64 m] 32 (0, 0)) ∧ q ≠ some w5.heap.size)
    (fun tt _ => l.length - (intOf tt).toNat)
  case atStart => exact ⟨0, q, _, Nat.zero_le _, by omega, rfl, HS6.out, HT0.out, new_len n n1' t i m, HB6.out, HE6.out, hq0⟩
  case round =>
    obtain ⟨k, q, S, hkl, hk20, rfl, hS, hT, hn, hB, hE, hqe⟩ := hrel
    have HS := Lib.hid hS
    have HT := Lib.hid hT
    have HB := Lib.hid hB
    have Hn := Lib.hid hn
    have HE := Lib.hid hE
    have Hqe := Lib.hid hqe
    have hS8 : S.l.length ≤ 8 := by rw [hn]; exact n8'
    have HRr := Lib.hid (row_below HR.out hB)
    have hzr := hB.size
    obtain ⟨y0, y1, y2, y3, _, _, _, _⟩ := box4 HRr.out
    clear hS hT hB hn hE hqe hq0
    by_cases hgo : k < l.length ∧ k < 20
    · obtain ⟨hlt, hlt20⟩ := hgo
      obtain ⟨bA, off, rfl, hbl, hcl⟩ := gops_at He.out (by omega)
      obtain ⟨x, hx⟩ : ∃ x, l[k]? = some x := ⟨_, List.getElem?_eq_getElem hlt⟩
      obtain ⟨⟨xk0, xk1⟩, xi, xn⟩ := Hq.out x (List.mem_of_getElem? hx)
      obtain ⟨c0, c1, c2⟩ := hcl k x hx
      obtain ⟨xk, xs, xm⟩ := x
      dsimp only at xk0 xk1 xi xn c0 c1 c2
      have hcx := below_only HBW.out HB.out
      have d0 := old_cell hcx c0
      have d1 := old_cell hcx c1
      have d2 := old_cell hcx c2
      have hm8 : bits .and .i64 xm 255 = xm % 256 := i64_mask 8 xm 255 (by omega) rfl
      have hm3 : bits .and .i64 xs 7 = xs % 8 := mask3 xs
      have z5r : w5.heap.size < wr.heap.size := lt_of_heap HE.out
      clear hcl hx c0 c1 c2 hcx
      go_upto_if 60 with fail
      go_cut [] from 44 to 218 (fun wx => ∃ (q' : Option Nat) (T : Sco), Scs W.heap.size wx p b g q' f e T ∧ Til f e T ∧ T.l.length = n ∧ Below W.heap.size W wx ∧ wx.heap[w5.heap.size]? = some (.cells #[.int .i64 f, .int .i64 m] 32 (0, 0)) ∧ q' ≠ some w5.heap.size)
      case first =>
        by_cases h2 : xk % 2 = 0
        · have h2' : (xk % 2 == 0) = true := by simpa using h2
          clear h2
          go_wp2_with fail
          refine (screate_any _ p b g q f e S _ _ HS.out).mono ?_
          rintro r w6 ⟨rfl, hS6, hk6⟩
          have HC := Lib.hid (⟨q, _, hS6, til_create HT.out, (createS_len _ _).trans Hn.out, HS.out.keep_below HB.out hk6, hk6.row HE.out (notin_sct (by omega) (by omega) Hqe.out), Hqe.out⟩ : ∃ (q' : Option Nat) (T : Sco), Scs W.heap.size w6 p b g q' f e T ∧ Til f e T ∧ T.l.length = n ∧ Below W.heap.size W w6 ∧ w6.heap[w5.heap.size]? = some (.cells #[.int .i64 f, .int .i64 m] 32 (0, 0)) ∧ q' ≠ some w5.heap.size)
          clear hS6 hk6
          go_wp2_with fail
          go_meet
          exact HC.out
        · have h2' : (xk % 2 == 0) = false := by simpa using h2
          clear h2
          go_wp2_with fail
          refine (sdestroy_any _ p b g q f e S _ _ HS.out).mono ?_
          rintro r w6 ⟨rfl, ⟨q6, hS6, hq6⟩, hk6⟩
          have HC := Lib.hid (⟨q6, _, hS6, til_destroy HT.out, (destroyS_len _ _ _ _).trans Hn.out, HS.out.keep_below HB.out hk6, hk6.row HE.out (notin_sct (by omega) (by omega) Hqe.out), fun h => by
            rcases hq6 _ h with h | h
            · exact Hqe.out h
            · omega⟩ : ∃ (q' : Option Nat) (T : Sco), Scs W.heap.size w6 p b g q' f e T ∧ Til f e T ∧ T.l.length = n ∧ Below W.heap.size W w6 ∧ w6.heap[w5.heap.size]? = some (.cells #[.int .i64 f, .int .i64 m] 32 (0, 0)) ∧ q' ≠ some w5.heap.size)
          clear hS6 hk6 hq6
          go_wp2_with fail
          go_meet
          exact HC.out
      case rest =>
        obtain ⟨q2, T, hS, hT, hn, hB, hE, hqe⟩ := hcut
        have HS2 := Lib.hid hS
        have HT2 := Lib.hid hT
        have HB2' := Lib.hid hB
        have Hn2 := Lib.hid hn
        have HE2 := Lib.hid hE
        have Hqe2 := Lib.hid hqe
        have zc := hB.size
        have z5c : w5.heap.size < wc.heap.size := lt_of_heap hE
        have hX : Below wc.heap.size wc (wc.alloc (.cells Z128 39)) := by go_grown
        have HSV := Lib.hid (hS.below hX)
        have HBV := Lib.hid (hB.trans (hX.mono zc))
        have HEV := Lib.hid (row_below hE hX)
        obtain ⟨lp, lb, lg, lq⟩ := hS.lt
        have Hne := Lib.hid (show p ∉ [wc.heap.size] ∧ b ∉ [wc.heap.size] ∧ g ∉ [wc.heap.size] ∧ (∀ i, q2 = some i → i ∉ [wc.heap.size]) ∧ w5.heap.size ∉ [wc.heap.size] by
          refine ⟨?_, ?_, ?_, ?_, ?_⟩
          · simp; omega
          · simp; omega
          · simp; omega
          · intro i hi
            have := (lq i hi).1
            simp
            omega
          · simp; omega)
        clear hS hT hn hB hE hqe hX lp lb lg lq d0 d1 d2 y0 y1 y2 y3 hm8 hm3
        go_wp2_with (refine wpList_zero128 11 78 rfl rfl rfl rfl rfl rfl rfl (by rfl) (by rfl) ?_)
        go_loopw [12] (fun tt wr => ∃ (j : Nat) (u : List Bool), 1 ≤ j ∧ j ≤ n ∧ tt = .int .i64 j ∧ wr.heap[wc.heap.size]? = some (.cells (intsV u).toArray 39 (0, 0)) ∧ Keep [wc.heap.size] (wc.alloc (.cells Z128 39)) wr ∧ Used f u (upto T j))
          (fun tt _ => n - (intOf tt).toNat)
        case atStart => exact ⟨1, List.replicate 128 false, by omega, n1', rfl, (show (wc.alloc (.cells Z128 39)).heap[wc.heap.size]? = some (.cells Z128 39 (0, 0)) from row_new _ _ _), Keep.refl _ _, used_init f _ (upto_one T)⟩
        case round =>
          obtain ⟨j, u, hj1, hjn, rfl, hU, hK, hUs⟩ := hrel
          have HU := Lib.hid hU
          have HK := Lib.hid hK
          have HUs := Lib.hid hUs
          have HSj := Lib.hid (HSV.out.kept hK Hne.out.1 Hne.out.2.1 Hne.out.2.2.1 Hne.out.2.2.2.1)
          have HBj := Lib.hid (Keep.under HBV.out hK HBV.out.size (by simpa using zc))
          have HEj := Lib.hid (hK.row HEV.out Hne.out.2.2.2.2)
          have zj := HBj.out.size
          have zuj := lt_of_heap hU
          have zej := lt_of_heap HEj.out
          obtain ⟨y0, y1, y2, y3, _, _, _, _⟩ := box4 (row_below HR.out HBj.out)
          obtain ⟨e0, e1, _, _⟩ := box2 HEj.out
          clear hU hK hUs
          by_cases hjlt : j < n
          · obtain ⟨s, hs⟩ : ∃ s, T.l[j]? = some s := ⟨_, List.getElem?_eq_getElem (by rw [Hn2.out]; exact hjlt)⟩
            have hso := (HSV.out.ok s (List.mem_of_getElem? hs))
            obtain ⟨⟨se0, se1, _⟩, sx0, sx1⟩ := hso
            have hin : inS j 0 T = true := by
              unfold inS inB
              rw [Hn2.out]
              simp
              omega
            have HXS := Lib.hid (show extS j T = (s.x, 0) by unfold extS; rw [if_neg (by rw [hin]; simp), Int.toNat_natCast, hs])
            have HCS := Lib.hid (show ctlS j T = (s.c, 0) by unfold ctlS; rw [if_neg (by rw [hin]; simp), Int.toNat_natCast, hs])
            obtain ⟨ii, mm, a1, a2, a3, a4, a5, a6⟩ := til_spec HT2.out hj1 hs HUs.out HF8.out HE1.out
            obtain ⟨⟨st, cn, cp, ce⟩, x1, x2⟩ := s
            dsimp only at se0 se1 sx0 sx1 a1 a2 a6
            have A1 := Lib.hid a1
            have A2 := Lib.hid a2
            have A4 := Lib.hid a4
            have A5 := Lib.hid a5
            have A6 := Lib.hid a6
            clear a1 a2 a4 a5 a6 hs hin
            go_wp2_with fail
            refine (ext_any _ p b g q2 f e T _ _ HSj.out).mono ?_
            rintro r w6 ⟨hr, hb6⟩
            obtain rfl : r = .returned (.tuple #[.agg #[.int .i64 x1, .int .i64 x2], .int .i64 0]) := by rw [hr, HXS.out]
            have hx6 : Below w6.heap.size w6 (w6.alloc (.cells #[.int .i64 x1, .int .i64 x2] 32)) := by go_grown
            have HB6j := Lib.hid (below_only hb6 hx6)
            have HX6r := Lib.hid (row_new w6 #[.int .i64 x1, .int .i64 x2] 32)
            have z6 := hb6.size
            clear hr hb6 hx6 y0 y1 y2 y3 e0 e1
            go_wp2_with fail
            refine (ctl_any _ p b g q2 f e T _ _ (HSj.out.below HB6j.out)).mono ?_
            rintro r w7 ⟨hr, hb7⟩
            obtain rfl : r = .returned (.tuple #[.agg #[.int .i64 st, .int .i64 cn, .int .i64 cp, .int .i64 ce], .int .i64 0]) := by rw [hr, HCS.out]
            have hx7 : Below w7.heap.size w7 (w7.alloc (.cells #[.int .i64 st, .int .i64 cn, .int .i64 cp, .int .i64 ce] 43)) := by go_grown
            have HBZ := Lib.hid (below_only (below_only HB6j.out hb7) hx7)
            have HXZ := Lib.hid (row_below (row_below HX6r.out hb7) hx7)
            have HCZ := Lib.hid (row_new w7 #[.int .i64 st, .int .i64 cn, .int .i64 cp, .int .i64 ce] 43)
            have HUZ := Lib.hid (row_below HU.out HBZ.out)
            have HEZ := Lib.hid (row_below HEj.out HBZ.out)
            have HKZ := Lib.hid (HK.out.call HBZ.out)
            have z7 := hb7.size
            have z67 := lt_of_heap HXZ.out
            obtain ⟨x0', x1', _, _⟩ := box2 HXZ.out
            obtain ⟨k0', k1', k2', k3', _, _, _, _⟩ := box4 HCZ.out
            obtain ⟨e0, e1, _, _⟩ := box2 HEZ.out
            clear hr hb7 hx7
            rcases A6.out with ⟨rfl, hxx, rfl⟩ | ⟨rfl, hx2, hfx, hxe⟩
            · injection hxx with h1 h2
              obtain rfl := h1
              obtain rfl := h2
              go_wp2_with fail
              go_loopw [17] (fun tt wq => ∃ jj : Nat, jj ≤ 0 ∧ tt = .int .i64 jj ∧ wq.heap[wc.heap.size]? = some (.cells (intsV (setB u ii true jj)).toArray 39 (0, 0)) ∧ Keep [wc.heap.size] (w7.alloc (.cells #[.int .i64 0, .int .i64 cn, .int .i64 cp, .int .i64 ce] 43)) wq)
                (fun tt _ => 0 - (intOf tt).toNat)
              case atStart => exact ⟨0, Nat.zero_le _, rfl, HUZ.out, Keep.refl _ _⟩
              case round =>
                obtain ⟨jj, hjj, rfl, hr, hKq⟩ := hrel
                have Hr := Lib.hid hr
                have HKq := Lib.hid hKq
                obtain ⟨x0', x1', _, _⟩ := box2 (hKq.row HXZ.out (by simp; omega))
                obtain ⟨e0, e1, _, _⟩ := box2 (hKq.row HEZ.out Hne.out.2.2.2.2)
                have zq := hKq.size
                clear hr hKq
                obtain rfl : jj = 0 := by omega
                go_wp2_with fail
                go_roundw
                case rel => exact ⟨j + 1, setB u ii true 0, by omega, hjlt, by go_num, Hr.out, HKZ.out.trans HKq.out, A5.out⟩
                case measure => simp [intOf]; omega
            · have hxe' : x1 + x2 ≤ f + m := by rw [HFM.out]; exact hxe
              have hx24 : x2 ≤ 1024 := by have := HE1.out; omega
              have hxd : x2.tdiv 8 = (mm : Int) := by rw [A1.out]; exact Int.mul_tdiv_cancel_left _ (by decide)
              clear hxe
              go_wp2_with fail
              go_loopw [17] (fun tt wq => ∃ jj : Nat, jj ≤ mm ∧ tt = .int .i64 jj ∧ wq.heap[wc.heap.size]? = some (.cells (intsV (setB u ii true jj)).toArray 39 (0, 0)) ∧ Keep [wc.heap.size] (w7.alloc (.cells #[.int .i64 1, .int .i64 cn, .int .i64 cp, .int .i64 ce] 43)) wq)
                (fun tt _ => mm - (intOf tt).toNat)
              case atStart => exact ⟨0, Nat.zero_le _, rfl, HUZ.out, Keep.refl _ _⟩
              case round =>
                obtain ⟨jj, hjj, rfl, hr, hKq⟩ := hrel
                have Hr := Lib.hid hr
                have HKq := Lib.hid hKq
                obtain ⟨x0', x1', _, _⟩ := box2 (hKq.row HXZ.out (by simp; omega))
                obtain ⟨e0, e1, _, _⟩ := box2 (hKq.row HEZ.out Hne.out.2.2.2.2)
                have zq := hKq.size
                clear hr hKq
                by_cases hjm : jj < mm
                · have hcell : (setB u ii true jj)[ii + jj]? = some false := by
                    rw [setB_get _ _ _ _ _ (by have := HUs.out.len; omega), if_neg (by omega)]
                    exact A4.out _ (by omega) (by omega)
                  have c0 := ints_cell Hr.out (ii + jj) false hcell
                  have c0f := row_frozen Hr.out (ii + jj)
                  have g1 : x1 - f = 8 * (ii : Int) := by have := A2.out (by omega); omega
                  have g2 : (8 * (ii : Int)).tdiv 8 = (ii : Int) := Int.mul_tdiv_cancel_left _ (by decide)
                  have g3 : ((ii : Int) + (jj : Int)).toNat = ii + jj := by omega
                  have g4 : 0 ≤ (ii : Int) + (jj : Int) := by omega
                  have g5 : (ii : Int) + (jj : Int) < 128 := by omega
                  have g6 : ii + jj < 128 := by omega
                  have g7 : 0 ≤ x1 - f := by omega
                  simp only [Bool.false_eq_true, if_false] at c0
                  clear hcell
                  go_wp2_with fail
                  go_roundw
                  case rel =>
                    refine ⟨jj + 1, hjm, by go_num, ?_, HKq.out.setCell (.inl (by simp)) _⟩
                    have := row_set (i := ii + jj) Hr.out (.int .i64 1)
                    rw [ints_set] at this
                    exact this
                  case measure => simp [intOf]; omega
                · obtain rfl : jj = mm := by omega
                  go_wp2_with fail
                  go_roundw
                  case rel => exact ⟨j + 1, setB u ii true jj, by omega, hjlt, by go_num, Hr.out, HKZ.out.trans HKq.out, A5.out⟩
                  case measure => simp [intOf]; omega
          · obtain rfl : j = n := by omega
            have HUsn := Lib.hid (show Used f u (fun i => upto T T.l.length i ∨ cov (T.F.take 0) i) from HUs.out.iff (fun i => by rw [Hn2.out]; simp [List.take_zero]; exact fun h => absurd h (cov_nil i)))
            go_wp2_with fail
            refine (sfree_any _ p b g q2 f e T _ HSj.out).mono ?_
            rintro r w6 ⟨v, rfl, A5, c5, rfl, hc5, hcs5, hfr, hb⟩
            have hlg := HSj.out.gr.size
            have Hc5 := Lib.hid hcs5
            have HU6 := Lib.hid (row_below HU.out hb)
            have HE6' := Lib.hid (row_below HEj.out hb)
            have HK6 := Lib.hid (HK.out.call hb)
            have z6 := hb.size
            have HFR := Lib.hid (show ∀ a, A5 = some a → a.block ∉ [wc.heap.size] from fun a ha => by have := hfr a ha; simp; omega)
            have HS6 := Lib.hid (HSj.out.below hb)
            have HB6 := Lib.hid (HBj.out.trans (hb.mono HBj.out.size))
            clear hb hcs5 hfr y0 y1 y2 y3 e0 e1
            go_wp2_with fail
            go_loopw [19] (fun tt wq => ∃ (k : Nat) (u : List Bool), k ≤ T.F.length ∧ tt = .int .i64 k ∧ wq.heap[wc.heap.size]? = some (.cells (intsV u).toArray 39 (0, 0)) ∧ Keep [wc.heap.size] w6 wq ∧ Used f u (fun i => upto T T.l.length i ∨ cov (T.F.take k) i))
              (fun tt _ => T.F.length - (intOf tt).toNat)
            case atStart => exact ⟨0, u, Nat.zero_le _, rfl, HU6.out, Keep.refl _ _, HUsn.out⟩
            case round =>
              obtain ⟨kk, v, hkk, rfl, hV, hKv, hVs⟩ := hrel
              have HV := Lib.hid hV
              have HKv := Lib.hid hKv
              have HVs := Lib.hid hVs
              have HEv := Lib.hid (hKv.row HE6'.out Hne.out.2.2.2.2)
              have zv := hKv.size
              obtain ⟨e0, e1, _, _⟩ := box2 HEv.out
              clear hV hKv hVs
              by_cases hkl2 : kk < T.F.length
              · obtain ⟨bh, oh, rfl, hbh, hch⟩ := exts_at (Hc5.out.kept HKv.out HFR.out) (by omega)
                obtain ⟨y, hy⟩ : ∃ y, T.F[kk]? = some y := ⟨_, List.getElem?_eq_getElem hkl2⟩
                obtain ⟨y0, y1⟩ := hch kk y hy
                obtain ⟨ii, mm, a1, a2, a3, a4, a5, a6, a7⟩ := free_spec HT2.out hy HVs.out HF8.out HE1.out
                obtain ⟨ya, yn⟩ := y
                dsimp only at y0 y1 a1 a2 a6 a7
                have hd1 : decide (ya < f) = false := decide_eq_false (by omega)
                have hd2 : decide (ya + yn > f + m) = false := decide_eq_false (by rw [HFM.out]; omega)
                have hyn : 0 ≤ yn := by omega
                have hyf : ya + yn ≤ f + m := by rw [HFM.out]; exact a7
                have hyd : yn.tdiv 8 = (mm : Int) := by rw [a1]; exact Int.mul_tdiv_cancel_left _ (by decide)
                have A1 := Lib.hid a1
                have A2 := Lib.hid a2
                have A4 := Lib.hid a4
                have A5 := Lib.hid a5
                have hbn := HFR.out _ rfl
                have Y0 := Lib.hid y0
                have Y1 := Lib.hid y1
                clear a1 a2 a4 a5 a7 hy hch
                go_wp2_with fail
                go_quiet (fail)
                go_wp2_with fail
                go_loopw [20] (fun tt wq => ∃ jj : Nat, jj ≤ mm ∧ tt = .int .i64 jj ∧ wq.heap[wc.heap.size]? = some (.cells (intsV (setB v ii true jj)).toArray 39 (0, 0)) ∧ Keep [wc.heap.size] wr wq)
                  (fun tt _ => mm - (intOf tt).toNat)
                case atStart => exact ⟨0, Nat.zero_le _, rfl, HV.out, by repeat (first | exact Keep.refl _ _ | refine Keep.drewN ?_ _ | refine Keep.drew ?_)⟩
                case round =>
                  obtain ⟨jj, hjj, rfl, hr, hKq⟩ := hrel
                  have Hr := Lib.hid hr
                  have HKq := Lib.hid hKq
                  clear y0 y1 e0 e1
                  have y0 := hKq.cell Y0.out hbn
                  have y1 := hKq.cell Y1.out hbn
                  obtain ⟨e0, e1, _, _⟩ := box2 (hKq.row HEv.out Hne.out.2.2.2.2)
                  have zq := hKq.size
                  clear hr hKq
                  by_cases hjm : jj < mm
                  · have hcell : (setB v ii true jj)[ii + jj]? = some false := by
                      rw [setB_get _ _ _ _ _ (by have := HVs.out.len; omega), if_neg (by omega)]
                      exact A4.out _ (by omega) (by omega)
                    have c0 := ints_cell Hr.out (ii + jj) false hcell
                    have c0f := row_frozen Hr.out (ii + jj)
                    have g1 : ya - f = 8 * (ii : Int) := by have := A2.out; omega
                    have g2 : (8 * (ii : Int)).tdiv 8 = (ii : Int) := Int.mul_tdiv_cancel_left _ (by decide)
                    have g3 : ((ii : Int) + (jj : Int)).toNat = ii + jj := by omega
                    have g4 : 0 ≤ (ii : Int) + (jj : Int) := by omega
                    have g5 : (ii : Int) + (jj : Int) < 128 := by omega
                    have g6 : ii + jj < 128 := by omega
                    have g7 : 0 ≤ ya - f := by omega
                    simp only [Bool.false_eq_true, if_false] at c0
                    clear hcell
                    go_wp2_with fail
                    go_region
                    go_wp2_with fail
                    go_roundw
                    case rel =>
                      refine ⟨jj + 1, hjm, by go_num, ?_, ?_⟩
                      · have := row_set (i := ii + jj) Hr.out (.int .i64 1)
                        rw [ints_set] at this
                        exact this
                      · repeat (first | exact HKq.out | refine Keep.drewN ?_ _ | refine Keep.drew ?_ | refine Keep.setCell ?_ (.inl (by simp)) _)
                    case measure => simp [intOf]; omega
                  · obtain rfl : jj = mm := by omega
                    go_wp2_with fail
                    go_roundw
                    case rel => exact ⟨kk + 1, setB v ii true jj, by omega, by go_num, Hr.out, HKv.out.trans HKq.out, A5.out⟩
                    case measure => simp [intOf]; omega
              · obtain rfl : kk = T.F.length := by omega
                have HSv := Lib.hid (HS6.out.kept HKv.out Hne.out.1 Hne.out.2.1 Hne.out.2.2.1 Hne.out.2.2.2.1)
                have HBv := Lib.hid (Keep.under HB6.out HKv.out HB6.out.size (by simpa using zc))
                go_wp2_with fail
                go_loopw [21] (fun tt wq => ∃ i2 : Nat, i2 ≤ M ∧ tt = .int .i64 i2 ∧ wq = wr) (fun tt _ => M - (intOf tt).toNat)
                case atStart => exact ⟨0, Nat.zero_le _, rfl, rfl⟩
                case round =>
                  obtain ⟨i2, hi2, rfl, rfl⟩ := hrel
                  by_cases hil : i2 < M
                  · have hu := used_all HVs.out (til_all HT2.out) (n := i2) (by have := HFM.out; have := HMM.out; omega)
                    have c0 := ints_cell HV.out i2 true hu
                    have h128 : i2 < 128 := by omega
                    simp only [if_true] at c0
                    clear hu
                    go_wp2_with fail
                    go_roundw
                    case rel => exact ⟨i2 + 1, hil, by go_num, by first | rfl | trivial⟩
                    case measure => simp [intOf]; omega
                  · obtain rfl : i2 = M := by omega
                    go_wp2_with fail
                    go_roundw
                    case rel => exact ⟨k + 1, q2, T, by omega, by omega, by go_num, HSv.out, HT2.out, Hn2.out, HBv.out, HEv.out, Hqe2.out⟩
                    case measure => simp [intOf]; omega
    · have hex : ¬ k < l.length ∨ (k < l.length ∧ ¬ k < 20) := by omega
      clear hgo
      rcases hex with h1 | ⟨h1, h2⟩
      all_goals
        go_wp2
        go_loopw [22] (fun tt wq => ∃ (j : Nat) (q : Option Nat) (R : Sco), 1 ≤ j ∧ j ≤ n ∧ tt = .int .i64 j ∧ Scs W.heap.size wq p b g q f e R ∧ Til f e R ∧ R.l.length = n ∧ Below W.heap.size W wq ∧ wq.heap[w5.heap.size]? = some (.cells #[.int .i64 f, .int .i64 m] 32 (0, 0)) ∧ q ≠ some w5.heap.size ∧ (∀ i s, 1 ≤ i → i < j → R.l[i]? = some s → s.c.st = 0))
          (fun tt _ => n - (intOf tt).toNat)
        case atStart => exact ⟨1, q, S, by omega, n1', rfl, HS.out, HT.out, Hn.out, HB.out, HE.out, Hqe.out, fun i s h1 h2 => by omega⟩
        case round =>
          obtain ⟨j, q3, R, hj1, hjn, rfl, hS, hT, hn, hB, hE, hqe, ha⟩ := hrel
          have HS3 := Lib.hid hS
          have HT3 := Lib.hid hT
          have HB3 := Lib.hid hB
          have Hn3 := Lib.hid hn
          have HE3 := Lib.hid hE
          have Hqe3 := Lib.hid hqe
          have Ha3 := Lib.hid ha
          have z3 := lt_of_heap hE
          clear y0 y1 y2 y3
          obtain ⟨y0, y1, y2, y3, _, _, _, _⟩ := box4 (row_below HR.out hB)
          clear hS hT hn hB hE hqe ha
          by_cases hjlt : j < n
          · go_wp2_with fail
            refine (sdestroy_any _ p b g q3 f e R _ _ HS3.out).mono ?_
            rintro r w6 ⟨rfl, ⟨q6, hS6, hq6⟩, hk6⟩
            have HS7 := Lib.hid hS6
            have HB7 := Lib.hid (HS3.out.keep_below HB3.out hk6)
            have HE7 := Lib.hid (hk6.row HE3.out (notin_sct (by omega) (by omega) Hqe3.out))
            have Hq7 := Lib.hid (show q6 ≠ some w5.heap.size from fun h => by
              rcases hq6 _ h with h | h
              · exact Hqe3.out h
              · omega)
            clear hS6 hk6 hq6
            go_wp2_with fail
            go_roundw
            case rel => exact ⟨j + 1, q6, _, by omega, hjlt, by go_num, HS7.out, til_destroy HT3.out, (destroyS_len _ _ _ _).trans Hn3.out, HB7.out, HE7.out, Hq7.out, til_more HT3.out hj1 Ha3.out⟩
            case measure => simp [intOf]; omega
          · obtain rfl : j = n := by omega
            have hF := til_whole HT3.out HF8.out (by have := HFM.out; have := HF8.out; have := HM8.out; omega) (fun i s h1 h2 => Ha3.out i s h1 (by have := (List.getElem?_eq_some_iff.1 h2).1; rw [Hn3.out] at this; exact this) h2)
            have HBf := HB3.out
            go_wp2_with fail
            refine (sfree_any _ p b g q3 f e R _ HS3.out).mono ?_
            rintro r w6 ⟨v, rfl, A5, c5, rfl, hc5, hcs5, hfr, hb⟩
            obtain ⟨e0, e1, _, _⟩ := box2 (row_below HE3.out hb)
            have HB6 := Lib.hid (below_only HBW.out (HB3.out.trans (hb.mono HB3.out.size)))
            by_cases hm : m = 0
            · have hF0 : R.F = [] := by rw [hF, if_neg (by have := HFM.out; omega)]
              rw [hF0, show List.length ([] : List Ext) = 0 from rfl]
              rw [hm] at e1
              have Hm := Lib.hid hm
              clear hF hF0 hcs5 hfr hb hm
              go_wp2_with fail
              go_quiet (fail)
              go_wp2_with fail
              go_ret
              exact ⟨rfl, by repeat (first | exact HB6.out | refine below_drewN ?_ _ | refine Below.drew ?_)⟩
            · have hF0 : R.F = [(f, m)] := by rw [hF, if_pos (by have := HFM.out; omega), show e - f = m by have := HFM.out; omega]
              rw [hF0] at hcs5
              rw [hF0, show List.length [((f : Int), (m : Int))] = 1 from rfl]
              obtain ⟨bz, oz, rfl, _, hcz⟩ := exts_at hcs5 (by simp)
              obtain ⟨x0, x1⟩ := hcz 0 (f, m) rfl
              simp only [Nat.zero_mul, Nat.add_zero] at x0 x1
              have hm0 : (m == 0) = false := by simpa using hm
              clear hF hF0 hcs5 hfr hb hcz hm
              go_wp2_with fail
              go_quiet (fail)
              go_wp2_with fail
              go_ret
              exact ⟨rfl, by repeat (first | exact HB6.out | refine below_drewN ?_ _ | refine Below.drew ?_)⟩

end Go.Proofs.Ytcicpfhbpcdjcaa
