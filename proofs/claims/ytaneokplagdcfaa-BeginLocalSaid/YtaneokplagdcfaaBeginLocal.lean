/- Layer 13: the walk of BeginLocal. -/
import Derived.Test.YtaneokplagdcfaaBeginLaw
import Derived.Test.YtaneokplagdcfaaBeginOpen
import Derived.Test.YtaneokplagdcfaaOrderPlain
namespace Go.Proofs.Ytaneokplagdcfaa
open Go.RowKit
set_option linter.unusedVariables false
set_option linter.unusedSimpArgs false
theorem wpList_load_row_g {P : Program} {ops : Array Oper} {rest : List Oper} {o : Oper} {a : Act} {w : World} {Q : Exit → Act → World → Prop} (hw : Region.wanted o (yielded ops a.tmps) = true) (ty : TypeId) (x : Operand) (ho : o.op = .load ty x)
    (g : Nat) (hx : a.eval x = .pointer (some ⟨g, 0, none⟩)) (t : TypeId) (cs : Array Value) (fr : Nat × Nat) (d : TypeDesc) (hg : w.heap[g]? = some (.cells cs t fr))
    (hu : P.underlying ty = some d) (hd : (match d with | .struct _ | .array _ _ => true | _ => false) = true) (hi : (P.info? ty).map (·.size) = some cs.size)
    (h : wpList P ops Q rest (a.put o.dst (.agg cs)) w) : wpList P ops Q (o :: rest) a w :=
  BigFrame.wpList_want hw fun _ hK => wp_load_row ty x ho g hx t cs fr d hg hu hd hi (hK _ _ h)
def Flip (c : Cal) (i q x : Int) : Prop := (i = c.h ∨ i = c.v → x = q) ∧ 0 ≤ x ∧ x ≤ 18446744073709551615
theorem flip_reg {c : Cal} {q0 q1 q2 q3 x0 x1 x2 x3 i : Int} (hi : i = c.h ∨ i = c.v) (h0 : Flip c 0 q0 x0) (h1 : Flip c 1 q1 x1) (h2 : Flip c 2 q2 x2) (h3 : Flip c 3 q3 x3) : regR x0 x1 x2 x3 i = regR q0 q1 q2 q3 i := by
  unfold regR
  split
  · rename_i e; subst e; exact h0.1 hi
  · split
    · rename_i e; subst e; exact h1.1 hi
    · split
      · rename_i e; subst e; exact h2.1 hi
      · split
        · rename_i e; subst e; exact h3.1 hi
        · rfl
set_option maxRecDepth 100000 in
set_option maxHeartbeats 2000000 in
theorem beginLocal_walk (ps pt pi ph q0 q1 q2 q3 : Int) (A : Option Addr) (k : Nat) (l : List Ent) (c : Cal) (co n : Int) (w : World) (w0 : (Lit.int .i64 ps).wf = true) (w1 : (Lit.int .i64 pt).wf = true) (w2 : (Lit.int .i64 pi).wf = true) (w3 : (Lit.int .i64 ph).wf = true)
    (w4 : (Lit.int .u64 q0).wf = true) (w5 : (Lit.int .u64 q1).wf = true) (w6 : (Lit.int .u64 q2).wf = true) (w7 : (Lit.int .u64 q3).wf = true) (hl : l.length ≤ k ∧ k ≤ maxLen ∧ Ents w A l) (hc : CalOk c) :
    Calls Try.prog 5 #[.agg #[.int .i64 ps, .int .i64 pt, .int .i64 pi, .int .i64 ph], .agg #[.int .u64 q0, .int .u64 q1, .int .u64 q2, .int .u64 q3], .agg #[.slice A l.length k, .int .u8 c.op, .int .u8 c.r, .int .u8 c.h, .int .u8 c.v, .int .i64 c.a, .int .i64 c.b, .int .i64 c.c, .int .i64 co, .int .i64 n]] w fun r w' => r = .returned (.bool true) ∧ Below w.heap.size w w' := by
  obtain ⟨hlk, hkm, he⟩ := hl
  have hlm : l.length ≤ 9223372036854775807 := by unfold maxLen at hkm; omega
  have Hcal := Lib.hid hc
  have Hq : Hid (Regs4 q0 q1 q2 q3) := Lib.hid ⟨wf_u64 w4, wf_u64 w5, wf_u64 w6, wf_u64 w7⟩
  obtain ⟨Pf, HPf⟩ : ∃ x, Hid (fitP ⟨ps, pt, pi, ph⟩ = x) := ⟨_, Lib.hid rfl⟩
  have Hs : Hid (1 ≤ Pf.s ∧ Pf.s ≤ 8) := Lib.hid (by rw [← HPf.out]; exact ⟨(fitP_ok _).1, (fitP_ok _).2.1⟩)
  obtain ⟨L, HL⟩ : ∃ x, Hid (fit l = x) := ⟨_, Lib.hid rfl⟩
  have hl1 : L.length ≤ 1048576 := by rw [← HL.out]; have := (fit_good l).2; omega
  obtain ⟨hv, Hhv⟩ : ∃ x, Hid (regR q0 q1 q2 q3 c.h = x) := ⟨_, Lib.hid rfl⟩
  obtain ⟨vv, Hvv⟩ : ∃ x, Hid (regR q0 q1 q2 q3 c.v = x) := ⟨_, Lib.hid rfl⟩
  have He := Lib.hid he
  clear he hc w0 w1 w2 w3 w4 w5 w6 w7 hkm
  go_enter Try.func5, Try.ntmps5
  go_upto_region 1 with fail
  refine three_rows w _ _ _ _ _ _ ?_
  intro W hR0 hR1 hR2 hB
  have B_W := Lib.hid (hB)
  have H_P := Lib.hid (show W.heap[w.heap.size]? = some (.cells #[.int .i64 ps, .int .i64 pt, .int .i64 pi, .int .i64 ph] 23 (0, 0)) from hR0)
  have H_r := Lib.hid (show W.heap[(w.heap.size + 1)]? = some (.cells #[.int .u64 q0, .int .u64 q1, .int .u64 q2, .int .u64 q3] 25 (0, 0)) from hR1)
  have H_c := Lib.hid (show W.heap[(w.heap.size + 1 + 1)]? = some (.cells #[.slice A l.length k, .int .u8 c.op, .int .u8 c.r, .int .u8 c.h, .int .u8 c.v, .int .i64 c.a, .int .i64 c.b, .int .i64 c.c, .int .i64 co, .int .i64 n] 31 (0, 0)) from hR2)
  have E_0 := Lib.hid (Cells.below He.out hB)
  clear hR0 hR1 hR2 hB
  have BB := B_W
  go_wp2_with fail
  refine (shown13_any _).mono ?_
  rintro r w1 ⟨rfl, hb⟩
  have B_w1 := Lib.hid (BB.out.trans (hb.mono BB.out.size))
  replace H_P := Lib.hid (row_below H_P.out hb)
  replace H_r := Lib.hid (row_below H_r.out hb)
  replace H_c := Lib.hid (row_below H_c.out hb)
  replace E_0 := Lib.hid (Cells.below E_0.out hb)
  clear BB hb B_W
  have z_P := lt_of_heap H_P.out
  obtain ⟨P_0, P_1, P_2, P_3, P_f0, P_f1, P_f2, P_f3⟩ := box4 H_P.out
  go_wp2_with fail
  have BB := B_w1
  clear z_P P_0 P_1 P_2 P_3 P_f0 P_f1 P_f2 P_f3
  refine (fit_plan ⟨ps, pt, pi, ph⟩ _).mono ?_
  rintro r w2 ⟨rfl, hb⟩
  rw [HPf.out]
  have B_w2 := Lib.hid (BB.out.trans (hb.mono BB.out.size))
  replace H_P := Lib.hid (row_below H_P.out hb)
  replace H_r := Lib.hid (row_below H_r.out hb)
  replace H_c := Lib.hid (row_below H_c.out hb)
  replace E_0 := Lib.hid (Cells.below E_0.out hb)
  clear BB hb B_w1
  have z_c := lt_of_heap H_c.out
  obtain ⟨c_0, c_1, c_2, c_3, c_4, c_5, c_6, c_7, c_8, c_9⟩ := box10 H_c.out
  go_wp2_with fail
  have BB := Lib.hid (show Below w.heap.size w (w2.alloc (.cells #[.int .i64 Pf.s, .int .i64 Pf.t, .int .i64 Pf.i, .int .i64 Pf.h] 23)) by have hb0 := B_w2.out; have hz0 := hb0.size; go_grown)
  replace H_r := Lib.hid (row_alloc (o' := .cells #[.int .i64 Pf.s, .int .i64 Pf.t, .int .i64 Pf.i, .int .i64 Pf.h] 23) (H_r.out))
  replace H_c := Lib.hid (row_alloc (o' := .cells #[.int .i64 Pf.s, .int .i64 Pf.t, .int .i64 Pf.i, .int .i64 Pf.h] 23) (H_c.out))
  have H_p := Lib.hid (show (w2.alloc (.cells #[.int .i64 Pf.s, .int .i64 Pf.t, .int .i64 Pf.i, .int .i64 Pf.h] 23)).heap[w2.heap.size]? = some (.cells #[.int .i64 Pf.s, .int .i64 Pf.t, .int .i64 Pf.i, .int .i64 Pf.h] 23 (0, 0)) from row_new _ _ _)
  obtain ⟨g_p, hg_p⟩ : ∃ x, x = w2.heap.size := ⟨_, rfl⟩
  replace E_0 := Lib.hid (Cells.alloc (E_0.out) (.cells #[.int .i64 Pf.s, .int .i64 Pf.t, .int .i64 Pf.i, .int .i64 Pf.h] 23))
  clear z_c c_0 c_1 c_2 c_3 c_4 c_5 c_6 c_7 c_8 c_9
  refine (fit_any A k l _ hlm E_0.out).mono ?_
  rintro r w3 ⟨v1, rfl, A1, k1, rfl, hk1, hcs1, hfr1, hb⟩
  rw [HL.out] at hk1 hcs1 ⊢
  have B_w3 := Lib.hid (BB.out.trans (hb.mono BB.out.size))
  replace H_r := Lib.hid (row_below H_r.out hb)
  replace H_c := Lib.hid (row_below H_c.out hb)
  replace H_p := Lib.hid (row_below H_p.out hb)
  replace E_0 := Lib.hid (Cells.below E_0.out hb)
  clear BB hb B_w2
  rw [← hg_p] at H_p ⊢
  clear hg_p
  have E_l := Lib.hid (hcs1)
  clear E_0 hcs1 hfr1 H_P
  have z_r := lt_of_heap H_r.out
  obtain ⟨r_0, r_1, r_2, r_3, r_f0, r_f1, r_f2, r_f3⟩ := box4 H_r.out
  go_upto_region 5 with fail
  refine one_row w3 _ _ ?_
  intro w4 hR hb
  have n_p := lt_of_heap H_p.out
  have n_c := lt_of_heap H_c.out
  have n_r := lt_of_heap H_r.out
  have f_l := Lib.hid (ents_far E_l.out (Nat.le_refl w3.heap.size))
  have n_B := B_w3.out.size
  have BB := B_w3
  clear z_r r_0 r_1 r_2 r_3 r_f0 r_f1 r_f2 r_f3
  have B_w4 := Lib.hid (BB.out.trans (hb.mono BB.out.size))
  replace H_r := Lib.hid (row_below H_r.out hb)
  replace H_c := Lib.hid (row_below H_c.out hb)
  replace H_p := Lib.hid (row_below H_p.out hb)
  replace E_l := Lib.hid (Cells.below E_l.out hb)
  clear BB hb B_w3
  have H_o := Lib.hid (show w4.heap[w3.heap.size]? = some (.cells #[.int .u64 q0, .int .u64 q1, .int .u64 q2, .int .u64 q3] 25 (0, 0)) from hR)
  obtain ⟨go, hgo⟩ : ∃ x, x = w3.heap.size := ⟨_, rfl⟩
  rw [← hgo] at H_o f_l ⊢
  have n_po : g_p ≠ go := by omega
  have n_co : w.heap.size + 1 + 1 ≠ go := by omega
  have n_ro : w.heap.size + 1 ≠ go := by omega
  have n_go : w.heap.size ≤ go := by omega
  clear hR hgo n_p n_c n_r n_B
  obtain ⟨ch0, ch1⟩ := Hcal.out.h
  obtain ⟨cv0, cv1⟩ := Hcal.out.v
  go_wp2_with fail
  go_loopw [11] (fun t wr => ∃ (i x0 x1 x2 x3 : Int), 0 ≤ i ∧ i ≤ 4 ∧ t = .int .i64 i ∧ wr.heap[go]? = some (.cells #[.int .u64 x0, .int .u64 x1, .int .u64 x2, .int .u64 x3] 25 (0, 0)) ∧ Flip c 0 q0 x0 ∧ Flip c 1 q1 x1 ∧ Flip c 2 q2 x2 ∧ Flip c 3 q3 x3 ∧ Keep [go] w4 wr)
    (fun t _ => (4 - intOf t).toNat)
  case atStart =>
    obtain ⟨⟨a0, a1⟩, ⟨a2, a3⟩, ⟨a4, a5⟩, a6, a7⟩ := Hq.out
    exact ⟨0, q0, q1, q2, q3, by omega, by omega, rfl, H_o.out, ⟨fun _ => rfl, a0, a1⟩, ⟨fun _ => rfl, a2, a3⟩, ⟨fun _ => rfl, a4, a5⟩, ⟨fun _ => rfl, a6, a7⟩, Keep.refl _ _⟩
  case round =>
    obtain ⟨i, x0, x1, x2, x3, i0, i4, rfl, hrow, f0, f1, f2, f3, hK⟩ := hrel
    have HRo := Lib.hid hrow
    have HF := Lib.hid (And.intro f0 (And.intro f1 (And.intro f2 f3)))
    have bb := And.intro f0.2 (And.intro f1.2 (And.intro f2.2 f3.2))
    obtain ⟨⟨y0, y1⟩, ⟨y2, y3⟩, ⟨y4, y5⟩, y6, y7⟩ := bb
    have HKp := Lib.hid hK
    have HCc := Lib.hid (hK.row H_c.out (by simp; omega))
    clear hrow f0 f1 f2 f3 hK
    by_cases hlt : i < 4
    · obtain ⟨c_0, c_1, c_2, c_3, c_4, c_5, c_6, c_7, c_8, c_9⟩ := box10 HCc.out
      obtain ⟨o_0, o_1, o_2, o_3, o_f0, o_f1, o_f2, o_f3⟩ := box4 HRo.out
      obtain rfl | rfl | rfl | rfl : i = 0 ∨ i = 1 ∨ i = 2 ∨ i = 3 := by omega
      · by_cases eh : (0 : Int) = c.h
        · have d1 : ((0 : Int) != c.h) = false := by simp [← eh]
          have Heh := Lib.hid eh
          clear eh
          go_wp2_with fail
          go_roundw
          case rel => exact ⟨1, x0, x1, x2, x3, by omega, by omega, rfl, HRo.out, HF.out.1, HF.out.2.1, HF.out.2.2.1, HF.out.2.2.2, HKp.out⟩
          case measure => simp [intOf]
        · have d1 : ((0 : Int) != c.h) = true := by simpa using eh
          by_cases ev : (0 : Int) = c.v
          · have d2 : ((0 : Int) != c.v) = false := by simp [← ev]
            have Hev := Lib.hid ev
            clear ev
            go_wp2_with fail
            go_roundw
            case rel => exact ⟨1, x0, x1, x2, x3, by omega, by omega, rfl, HRo.out, HF.out.1, HF.out.2.1, HF.out.2.2.1, HF.out.2.2.2, HKp.out⟩
            case measure => simp [intOf]
          · have d2 : ((0 : Int) != c.v) = true := by simpa using ev
            go_wp2_with fail
            go_roundw
            case rel => exact ⟨1, _, x1, x2, x3, by omega, by omega, rfl, row_set (i := 0) HRo.out _, ⟨fun h => by rcases h with h | h <;> omega, wf_u64 (wf_bits _ _ _ _)⟩, HF.out.2.1, HF.out.2.2.1, HF.out.2.2.2, HKp.out.setCell (p := ⟨go, 0, none⟩) (.inl (by simp)) _⟩
            case measure => simp [intOf]
      · by_cases eh : (1 : Int) = c.h
        · have d1 : ((1 : Int) != c.h) = false := by simp [← eh]
          have Heh := Lib.hid eh
          clear eh
          go_wp2_with fail
          go_roundw
          case rel => exact ⟨2, x0, x1, x2, x3, by omega, by omega, rfl, HRo.out, HF.out.1, HF.out.2.1, HF.out.2.2.1, HF.out.2.2.2, HKp.out⟩
          case measure => simp [intOf]
        · have d1 : ((1 : Int) != c.h) = true := by simpa using eh
          by_cases ev : (1 : Int) = c.v
          · have d2 : ((1 : Int) != c.v) = false := by simp [← ev]
            have Hev := Lib.hid ev
            clear ev
            go_wp2_with fail
            go_roundw
            case rel => exact ⟨2, x0, x1, x2, x3, by omega, by omega, rfl, HRo.out, HF.out.1, HF.out.2.1, HF.out.2.2.1, HF.out.2.2.2, HKp.out⟩
            case measure => simp [intOf]
          · have d2 : ((1 : Int) != c.v) = true := by simpa using ev
            go_wp2_with fail
            go_roundw
            case rel => exact ⟨2, x0, _, x2, x3, by omega, by omega, rfl, row_set (i := 1) HRo.out _, HF.out.1, ⟨fun h => by rcases h with h | h <;> omega, wf_u64 (wf_bits _ _ _ _)⟩, HF.out.2.2.1, HF.out.2.2.2, HKp.out.setCell (p := ⟨go, 1, none⟩) (.inl (by simp)) _⟩
            case measure => simp [intOf]
      · by_cases eh : (2 : Int) = c.h
        · have d1 : ((2 : Int) != c.h) = false := by simp [← eh]
          have Heh := Lib.hid eh
          clear eh
          go_wp2_with fail
          go_roundw
          case rel => exact ⟨3, x0, x1, x2, x3, by omega, by omega, rfl, HRo.out, HF.out.1, HF.out.2.1, HF.out.2.2.1, HF.out.2.2.2, HKp.out⟩
          case measure => simp [intOf]
        · have d1 : ((2 : Int) != c.h) = true := by simpa using eh
          by_cases ev : (2 : Int) = c.v
          · have d2 : ((2 : Int) != c.v) = false := by simp [← ev]
            have Hev := Lib.hid ev
            clear ev
            go_wp2_with fail
            go_roundw
            case rel => exact ⟨3, x0, x1, x2, x3, by omega, by omega, rfl, HRo.out, HF.out.1, HF.out.2.1, HF.out.2.2.1, HF.out.2.2.2, HKp.out⟩
            case measure => simp [intOf]
          · have d2 : ((2 : Int) != c.v) = true := by simpa using ev
            go_wp2_with fail
            go_roundw
            case rel => exact ⟨3, x0, x1, _, x3, by omega, by omega, rfl, row_set (i := 2) HRo.out _, HF.out.1, HF.out.2.1, ⟨fun h => by rcases h with h | h <;> omega, wf_u64 (wf_bits _ _ _ _)⟩, HF.out.2.2.2, HKp.out.setCell (p := ⟨go, 2, none⟩) (.inl (by simp)) _⟩
            case measure => simp [intOf]
      · by_cases eh : (3 : Int) = c.h
        · have d1 : ((3 : Int) != c.h) = false := by simp [← eh]
          have Heh := Lib.hid eh
          clear eh
          go_wp2_with fail
          go_roundw
          case rel => exact ⟨4, x0, x1, x2, x3, by omega, by omega, rfl, HRo.out, HF.out.1, HF.out.2.1, HF.out.2.2.1, HF.out.2.2.2, HKp.out⟩
          case measure => simp [intOf]
        · have d1 : ((3 : Int) != c.h) = true := by simpa using eh
          by_cases ev : (3 : Int) = c.v
          · have d2 : ((3 : Int) != c.v) = false := by simp [← ev]
            have Hev := Lib.hid ev
            clear ev
            go_wp2_with fail
            go_roundw
            case rel => exact ⟨4, x0, x1, x2, x3, by omega, by omega, rfl, HRo.out, HF.out.1, HF.out.2.1, HF.out.2.2.1, HF.out.2.2.2, HKp.out⟩
            case measure => simp [intOf]
          · have d2 : ((3 : Int) != c.v) = true := by simpa using ev
            go_wp2_with fail
            go_roundw
            case rel => exact ⟨4, x0, x1, x2, _, by omega, by omega, rfl, row_set (i := 3) HRo.out _, HF.out.1, HF.out.2.1, HF.out.2.2.1, ⟨fun h => by rcases h with h | h <;> omega, wf_u64 (wf_bits _ _ _ _)⟩, HKp.out.setCell (p := ⟨go, 3, none⟩) (.inl (by simp)) _⟩
            case measure => simp [intOf]
    · obtain rfl : i = 4 := by omega
      replace H_p := Lib.hid (HKp.out.row H_p.out (by simp; omega))
      replace H_r := Lib.hid (HKp.out.row H_r.out (by simp; omega))
      replace H_c := HCc
      replace E_l := Lib.hid (ents_kept E_l.out HKp.out (fun a h0 ha => by simp only [List.mem_cons, List.not_mem_nil, or_false]; exact f_l.out a h0 ha))
      have B_wr := Lib.hid (Keep.under B_w4.out HKp.out (by have := B_w4.out.size; omega) (by simp; omega))
      have H_o2 := HRo
      have Hq2 : Hid (Regs4 x0 x1 x2 x3) := Lib.hid ⟨⟨y0, y1⟩, ⟨y2, y3⟩, ⟨y4, y5⟩, y6, y7⟩
      have Hhv2 := Lib.hid ((flip_reg (.inl rfl) HF.out.1 HF.out.2.1 HF.out.2.2.1 HF.out.2.2.2).trans Hhv.out)
      have Hvv2 := Lib.hid ((flip_reg (.inr rfl) HF.out.1 HF.out.2.1 HF.out.2.2.1 HF.out.2.2.2).trans Hvv.out)
      clear H_o HCc HRo HF HKp B_w4 y0 y1 y2 y3 y4 y5 y6 y7 hlt i0 i4 ch0 ch1 cv0 cv1
      have H_o := H_o2
      clear H_o2
      have z_p := lt_of_heap H_p.out
      obtain ⟨p_0, p_1, p_2, p_3, p_f0, p_f1, p_f2, p_f3⟩ := box4 H_p.out
      have z_r := lt_of_heap H_r.out
      obtain ⟨r_0, r_1, r_2, r_3, r_f0, r_f1, r_f2, r_f3⟩ := box4 H_r.out
      have z_c := lt_of_heap H_c.out
      obtain ⟨c_0, c_1, c_2, c_3, c_4, c_5, c_6, c_7, c_8, c_9⟩ := box10 H_c.out
      go_upto_region 10 with fail
      go_cut [12] from 12 to 50 (fun v wx => ∃ (g kc : Nat) (cA : Option Addr), v = .pointer (some ⟨g, 0, none⟩) ∧ wr.heap.size ≤ g ∧ wx.heap[g]? = some (.cells (Rn.arr (beginRn Pf.s L c hv vv ⟨cA, L.length, kc⟩)) 39 (0, 0)) ∧ Ents wx cA L ∧ Below wr.heap.size wr wx)
      case first =>
        refine wp_region_held_drew (S := Old wr) (by kernel_rfl) (old_of (by go_grown)) ?_
        intro hS
        generalize wr.drew = y0 at hS ⊢
        refine wpAnyH_take_at (i := 0) (v := ?v0x13) (some 45) rfl rfl (by kernel_rfl) (by kernel_rfl) (by kernel_rfl) (fun _ _ _ h => h) (Or.inl ⟨by kernel_rfl, ?h0x13⟩) (by assumption) ?r0x13
        case h0x13 => (intro w hSw; (try dsimp only at hSw); go_simp; first | done | (with_reducible rfl))
        try simp only [Act.put]
        try simp only [List.setIfInBounds_toArray]
        try simp only [List.set_cons_succ]
        try simp only [List.set_cons_zero]
        refine wpAnyH_take_at (i := 1) (v := ?v1x14) (some 46) rfl rfl (by kernel_rfl) (by kernel_rfl) (by kernel_rfl) (fun _ _ _ h => h) (Or.inl ⟨by kernel_rfl, ?h1x14⟩) (by assumption) ?r1x14
        case h1x14 => (intro w hSw; (try dsimp only at hSw); go_simp; first | done | (with_reducible rfl))
        try simp only [Act.put]
        try simp only [List.setIfInBounds_toArray]
        try simp only [List.set_cons_succ]
        try simp only [List.set_cons_zero]
        refine wpAnyH_take_at (i := 2) (v := ?v2x15) (some 47) rfl rfl (by kernel_rfl) (by kernel_rfl) (by kernel_rfl) (fun _ _ _ h => h) (Or.inl ⟨by kernel_rfl, ?h2x15⟩) (by assumption) ?r2x15
        case h2x15 => (intro w hSw; (try dsimp only at hSw); go_simp; first | done | (with_reducible rfl))
        try simp only [Act.put]
        try simp only [List.setIfInBounds_toArray]
        try simp only [List.set_cons_succ]
        try simp only [List.set_cons_zero]
        refine wpAnyH_take_at (i := 3) (v := ?v3x16) (some 48) rfl rfl (by kernel_rfl) (by kernel_rfl) (by kernel_rfl) (fun _ _ _ h => h) (Or.inl ⟨by kernel_rfl, ?h3x16⟩) (by assumption) ?r3x16
        case h3x16 => (intro w hSw; (try dsimp only at hSw); go_simp; first | done | (with_reducible rfl))
        try simp only [Act.put]
        try simp only [List.setIfInBounds_toArray]
        try simp only [List.set_cons_succ]
        try simp only [List.set_cons_zero]
        refine wpAnyH_take_at (i := 4) (v := ?v4x17) (some 49) rfl rfl (by kernel_rfl) (by kernel_rfl) (by kernel_rfl) (fun _ _ _ h => h) (Or.inl ⟨by kernel_rfl, ?h4x17⟩) (by assumption) ?r4x17
        case h4x17 => (intro w hSw; (try dsimp only at hSw); go_simp; first | done | (with_reducible rfl))
        try simp only [Act.put]
        try simp only [List.setIfInBounds_toArray]
        try simp only [List.set_cons_succ]
        try simp only [List.set_cons_zero]
        refine wpAnyH_ready (rs := [5, 6]) (by kernel_rfl) (by simp) ?_
        refine AllReadyH.cons rfl (fun K hK => ?_) (AllReadyH.cons rfl (fun K hK => ?_) AllReadyH.nil)
        · skip
          go_simp
          refine (of_any_at Pf A1 k1 L c q0 q1 q2 q3 hv vv (w.heap.size + 1) _ hk1 hl1 (Cells.below E_l.out hS.1) Hs.out.1 Hs.out.2 Hcal.out Hq.out Hhv.out Hvv.out ?_).mono ?_
          exact ⟨cell_later hS.1 r_0, cell_later hS.1 r_1, cell_later hS.1 r_2, cell_later hS.1 r_3⟩
          rintro r yC ⟨kc, cA, rfl, hcs, hC⟩
          go_simp
          have oC := below_only hS.1 hC
          refine hK.out _ _ (old_of oC) (fun hS => ?_)
          clear hK K
          try simp only [Act.put]
          try simp only [List.setIfInBounds_toArray]
          try simp only [List.set_cons_succ]
          try simp only [List.set_cons_zero]
          refine wpAnyH_ready (rs := [6]) (by kernel_rfl) (by simp) ?_
          refine AllReadyH.cons rfl (fun K hK => ?_) AllReadyH.nil
          refine step_alloc_run (some 12) rfl rfl rfl ?_
          refine k_alloc (fun yA hZ hA => ?_)
          have oA := below_only hS.1 hA
          have hgZ : wr.heap.size ≤ yC.heap.size := hS.1.size
          have hfar : ∀ a, 0 < L.length → cA = some a → a.block ≠ yC.heap.size := ents_far hcs.1 (Nat.le_refl _)
          replace hcs : Ents yA cA L ∧ True := ⟨Cells.below hcs.1 hA, trivial⟩
          obtain ⟨gZ, HgZ⟩ : ∃ x, x = yC.heap.size := ⟨_, rfl⟩
          rw [← HgZ] at hZ hgZ hfar ⊢
          clear HgZ
          refine hK.out _ _ (old_of oA) (fun hS => ?_)
          clear hK K
          try simp only [Act.put]
          try simp only [List.setIfInBounds_toArray]
          try simp only [List.set_cons_succ]
          try simp only [List.set_cons_zero]
          refine wpAnyH_ready (rs := [7]) (by kernel_rfl) (by simp) ?_
          refine AllReadyH.cons rfl (fun K hK => ?_) AllReadyH.nil
          refine step_store_row none rfl rfl 39 (.tmp 12) (.tmp 50) rfl gZ _ rfl rfl 39 ZRun hZ infoRun rfl (Rn.one _) ?_
          refine hK.out _ _ (old_of (below_setRow hS.1 hgZ _)) (fun hS => ?_)
          clear hK K
          try simp only [Act.put]
          try simp only [List.setIfInBounds_toArray]
          try simp only [List.set_cons_succ]
          try simp only [List.set_cons_zero]
          refine wpAnyH_done (by kernel_rfl) ?_ _
          go_wp2_with fail
          go_meet
          exact ⟨gZ, kc, cA, rfl, hgZ, setRow_heap _ _ _ _ _ _ hZ, ents_setRow hcs.1 hfar _, below_setRow (by assumption) hgZ _⟩
        · skip
          refine step_alloc_run (some 12) rfl rfl rfl ?_
          refine k_alloc (fun yA hZ hA => ?_)
          have oA := below_only hS.1 hA
          have hgZ : wr.heap.size ≤ y0.heap.size := hS.1.size
          obtain ⟨gZ, HgZ⟩ : ∃ x, x = y0.heap.size := ⟨_, rfl⟩
          rw [← HgZ] at hZ hgZ ⊢
          clear HgZ
          refine hK.out _ _ (old_of oA) (fun hS => ?_)
          clear hK K
          try simp only [Act.put]
          try simp only [List.setIfInBounds_toArray]
          try simp only [List.set_cons_succ]
          try simp only [List.set_cons_zero]
          refine wpAnyH_ready (rs := [5]) (by kernel_rfl) (by simp) ?_
          refine AllReadyH.cons rfl (fun K hK => ?_) AllReadyH.nil
          go_simp
          refine (of_any_at Pf A1 k1 L c q0 q1 q2 q3 hv vv (w.heap.size + 1) _ hk1 hl1 (Cells.below E_l.out hS.1) Hs.out.1 Hs.out.2 Hcal.out Hq.out Hhv.out Hvv.out ?_).mono ?_
          exact ⟨cell_later hS.1 r_0, cell_later hS.1 r_1, cell_later hS.1 r_2, cell_later hS.1 r_3⟩
          rintro r yC ⟨kc, cA, rfl, hcs, hC⟩
          go_simp
          have oC := below_only hS.1 hC
          have hZ0 := hZ
          replace hZ := row_below hZ hC
          have hfar : ∀ a, 0 < L.length → cA = some a → a.block ≠ gZ := fun a h0 ha => by have := hcs.2 a h0 ha; have := lt_of_heap hZ0; omega
          clear hZ0
          refine hK.out _ _ (old_of oC) (fun hS => ?_)
          clear hK K
          try simp only [Act.put]
          try simp only [List.setIfInBounds_toArray]
          try simp only [List.set_cons_succ]
          try simp only [List.set_cons_zero]
          refine wpAnyH_ready (rs := [7]) (by kernel_rfl) (by simp) ?_
          refine AllReadyH.cons rfl (fun K hK => ?_) AllReadyH.nil
          refine step_store_row none rfl rfl 39 (.tmp 12) (.tmp 50) rfl gZ _ rfl rfl 39 ZRun hZ infoRun rfl (Rn.one _) ?_
          refine hK.out _ _ (old_of (below_setRow hS.1 hgZ _)) (fun hS => ?_)
          clear hK K
          try simp only [Act.put]
          try simp only [List.setIfInBounds_toArray]
          try simp only [List.set_cons_succ]
          try simp only [List.set_cons_zero]
          refine wpAnyH_done (by kernel_rfl) ?_ _
          go_wp2_with fail
          go_meet
          exact ⟨gZ, kc, cA, rfl, hgZ, setRow_heap _ _ _ _ _ _ hZ, ents_setRow hcs.1 hfar _, below_setRow (by assumption) hgZ _⟩
      case rest =>
        obtain ⟨g_x, k_x, A_x, rfl, hg_x, hR, hE, hb⟩ := hcut
        obtain ⟨wX, hwn⟩ : ∃ x, x = wc := ⟨_, rfl⟩
        subst hwn
        have BB := B_wr
        clear z_p p_0 p_1 p_2 p_3 p_f0 p_f1 p_f2 p_f3 z_r r_0 r_1 r_2 r_3 r_f0 r_f1 r_f2 r_f3 z_c c_0 c_1 c_2 c_3 c_4 c_5 c_6 c_7 c_8 c_9
        have B_wX := Lib.hid (BB.out.trans (hb.mono BB.out.size))
        replace H_r := Lib.hid (row_below H_r.out hb)
        replace H_c := Lib.hid (row_below H_c.out hb)
        replace H_p := Lib.hid (row_below H_p.out hb)
        replace H_o := Lib.hid (row_below H_o.out hb)
        replace E_l := Lib.hid (Cells.below E_l.out hb)
        clear BB hb B_wr
        have H_x := Lib.hid (show wX.heap[g_x]? = some (.cells (Rn.arr (beginRn Pf.s L c hv vv ⟨A_x, L.length, k_x⟩)) 39 (0, 0)) from hR)
        have E_x := Lib.hid (hE)
        clear hR hE
        have z_p := lt_of_heap H_p.out
        obtain ⟨p_0, p_1, p_2, p_3, p_f0, p_f1, p_f2, p_f3⟩ := box4 H_p.out
        have z_o := lt_of_heap H_o.out
        obtain ⟨o_0, o_1, o_2, o_3, o_f0, o_f1, o_f2, o_f3⟩ := box4 H_o.out
        have z_c := lt_of_heap H_c.out
        obtain ⟨c_0, c_1, c_2, c_3, c_4, c_5, c_6, c_7, c_8, c_9⟩ := box10 H_c.out
        go_upto_region 11 with fail
        go_cut [13] from 13 to 56 (fun v wx => ∃ (g kc : Nat) (cA : Option Addr), v = .pointer (some ⟨g, 0, none⟩) ∧ wX.heap.size ≤ g ∧ wx.heap[g]? = some (.cells (Rn.arr (beginRn Pf.s L c hv vv ⟨cA, L.length, kc⟩)) 39 (0, 0)) ∧ Ents wx cA L ∧ Below wX.heap.size wX wx)
        case first =>
          refine wp_region_held_drew (S := Old wX) (by kernel_rfl) (old_of (by go_grown)) ?_
          intro hS
          generalize wX.drew = y0 at hS ⊢
          refine wpAnyH_take_at (i := 0) (v := ?v0x18) (some 51) rfl rfl (by kernel_rfl) (by kernel_rfl) (by kernel_rfl) (fun _ _ _ h => h) (Or.inl ⟨by kernel_rfl, ?h0x18⟩) (by assumption) ?r0x18
          case h0x18 => (intro w hSw; (try dsimp only at hSw); go_simp; first | done | (with_reducible rfl))
          try simp only [Act.put]
          try simp only [List.setIfInBounds_toArray]
          try simp only [List.set_cons_succ]
          try simp only [List.set_cons_zero]
          refine wpAnyH_take_at (i := 1) (v := ?v1x19) (some 52) rfl rfl (by kernel_rfl) (by kernel_rfl) (by kernel_rfl) (fun _ _ _ h => h) (Or.inl ⟨by kernel_rfl, ?h1x19⟩) (by assumption) ?r1x19
          case h1x19 => (intro w hSw; (try dsimp only at hSw); go_simp; first | done | (with_reducible rfl))
          try simp only [Act.put]
          try simp only [List.setIfInBounds_toArray]
          try simp only [List.set_cons_succ]
          try simp only [List.set_cons_zero]
          refine wpAnyH_take_at (i := 2) (v := ?v2x20) (some 53) rfl rfl (by kernel_rfl) (by kernel_rfl) (by kernel_rfl) (fun _ _ _ h => h) (Or.inl ⟨by kernel_rfl, ?h2x20⟩) (by assumption) ?r2x20
          case h2x20 => (intro w hSw; (try dsimp only at hSw); go_simp; first | done | (with_reducible rfl))
          try simp only [Act.put]
          try simp only [List.setIfInBounds_toArray]
          try simp only [List.set_cons_succ]
          try simp only [List.set_cons_zero]
          refine wpAnyH_take_at (i := 3) (v := ?v3x21) (some 54) rfl rfl (by kernel_rfl) (by kernel_rfl) (by kernel_rfl) (fun _ _ _ h => h) (Or.inl ⟨by kernel_rfl, ?h3x21⟩) (by assumption) ?r3x21
          case h3x21 => (intro w hSw; (try dsimp only at hSw); go_simp; first | done | (with_reducible rfl))
          try simp only [Act.put]
          try simp only [List.setIfInBounds_toArray]
          try simp only [List.set_cons_succ]
          try simp only [List.set_cons_zero]
          refine wpAnyH_take_at (i := 4) (v := ?v4x22) (some 55) rfl rfl (by kernel_rfl) (by kernel_rfl) (by kernel_rfl) (fun _ _ _ h => h) (Or.inl ⟨by kernel_rfl, ?h4x22⟩) (by assumption) ?r4x22
          case h4x22 => (intro w hSw; (try dsimp only at hSw); go_simp; first | done | (with_reducible rfl))
          try simp only [Act.put]
          try simp only [List.setIfInBounds_toArray]
          try simp only [List.set_cons_succ]
          try simp only [List.set_cons_zero]
          refine wpAnyH_ready (rs := [5, 6]) (by kernel_rfl) (by simp) ?_
          refine AllReadyH.cons rfl (fun K hK => ?_) (AllReadyH.cons rfl (fun K hK => ?_) AllReadyH.nil)
          · skip
            go_simp
            refine (of_any_at Pf A1 k1 L c x0 x1 x2 x3 hv vv go _ hk1 hl1 (Cells.below E_l.out hS.1) Hs.out.1 Hs.out.2 Hcal.out Hq2.out Hhv2.out Hvv2.out ?_).mono ?_
            exact ⟨cell_later hS.1 o_0, cell_later hS.1 o_1, cell_later hS.1 o_2, cell_later hS.1 o_3⟩
            rintro r yC ⟨kc, cA, rfl, hcs, hC⟩
            go_simp
            have oC := below_only hS.1 hC
            refine hK.out _ _ (old_of oC) (fun hS => ?_)
            clear hK K
            try simp only [Act.put]
            try simp only [List.setIfInBounds_toArray]
            try simp only [List.set_cons_succ]
            try simp only [List.set_cons_zero]
            refine wpAnyH_ready (rs := [6]) (by kernel_rfl) (by simp) ?_
            refine AllReadyH.cons rfl (fun K hK => ?_) AllReadyH.nil
            refine step_alloc_run (some 13) rfl rfl rfl ?_
            refine k_alloc (fun yA hZ hA => ?_)
            have oA := below_only hS.1 hA
            have hgZ : wX.heap.size ≤ yC.heap.size := hS.1.size
            have hfar : ∀ a, 0 < L.length → cA = some a → a.block ≠ yC.heap.size := ents_far hcs.1 (Nat.le_refl _)
            replace hcs : Ents yA cA L ∧ True := ⟨Cells.below hcs.1 hA, trivial⟩
            obtain ⟨gZ, HgZ⟩ : ∃ x, x = yC.heap.size := ⟨_, rfl⟩
            rw [← HgZ] at hZ hgZ hfar ⊢
            clear HgZ
            refine hK.out _ _ (old_of oA) (fun hS => ?_)
            clear hK K
            try simp only [Act.put]
            try simp only [List.setIfInBounds_toArray]
            try simp only [List.set_cons_succ]
            try simp only [List.set_cons_zero]
            refine wpAnyH_ready (rs := [7]) (by kernel_rfl) (by simp) ?_
            refine AllReadyH.cons rfl (fun K hK => ?_) AllReadyH.nil
            refine step_store_row none rfl rfl 39 (.tmp 13) (.tmp 56) rfl gZ _ rfl rfl 39 ZRun hZ infoRun rfl (Rn.one _) ?_
            refine hK.out _ _ (old_of (below_setRow hS.1 hgZ _)) (fun hS => ?_)
            clear hK K
            try simp only [Act.put]
            try simp only [List.setIfInBounds_toArray]
            try simp only [List.set_cons_succ]
            try simp only [List.set_cons_zero]
            refine wpAnyH_done (by kernel_rfl) ?_ _
            go_wp2_with fail
            go_meet
            exact ⟨gZ, kc, cA, rfl, hgZ, setRow_heap _ _ _ _ _ _ hZ, ents_setRow hcs.1 hfar _, below_setRow (by assumption) hgZ _⟩
          · skip
            refine step_alloc_run (some 13) rfl rfl rfl ?_
            refine k_alloc (fun yA hZ hA => ?_)
            have oA := below_only hS.1 hA
            have hgZ : wX.heap.size ≤ y0.heap.size := hS.1.size
            obtain ⟨gZ, HgZ⟩ : ∃ x, x = y0.heap.size := ⟨_, rfl⟩
            rw [← HgZ] at hZ hgZ ⊢
            clear HgZ
            refine hK.out _ _ (old_of oA) (fun hS => ?_)
            clear hK K
            try simp only [Act.put]
            try simp only [List.setIfInBounds_toArray]
            try simp only [List.set_cons_succ]
            try simp only [List.set_cons_zero]
            refine wpAnyH_ready (rs := [5]) (by kernel_rfl) (by simp) ?_
            refine AllReadyH.cons rfl (fun K hK => ?_) AllReadyH.nil
            go_simp
            refine (of_any_at Pf A1 k1 L c x0 x1 x2 x3 hv vv go _ hk1 hl1 (Cells.below E_l.out hS.1) Hs.out.1 Hs.out.2 Hcal.out Hq2.out Hhv2.out Hvv2.out ?_).mono ?_
            exact ⟨cell_later hS.1 o_0, cell_later hS.1 o_1, cell_later hS.1 o_2, cell_later hS.1 o_3⟩
            rintro r yC ⟨kc, cA, rfl, hcs, hC⟩
            go_simp
            have oC := below_only hS.1 hC
            have hZ0 := hZ
            replace hZ := row_below hZ hC
            have hfar : ∀ a, 0 < L.length → cA = some a → a.block ≠ gZ := fun a h0 ha => by have := hcs.2 a h0 ha; have := lt_of_heap hZ0; omega
            clear hZ0
            refine hK.out _ _ (old_of oC) (fun hS => ?_)
            clear hK K
            try simp only [Act.put]
            try simp only [List.setIfInBounds_toArray]
            try simp only [List.set_cons_succ]
            try simp only [List.set_cons_zero]
            refine wpAnyH_ready (rs := [7]) (by kernel_rfl) (by simp) ?_
            refine AllReadyH.cons rfl (fun K hK => ?_) AllReadyH.nil
            refine step_store_row none rfl rfl 39 (.tmp 13) (.tmp 56) rfl gZ _ rfl rfl 39 ZRun hZ infoRun rfl (Rn.one _) ?_
            refine hK.out _ _ (old_of (below_setRow hS.1 hgZ _)) (fun hS => ?_)
            clear hK K
            try simp only [Act.put]
            try simp only [List.setIfInBounds_toArray]
            try simp only [List.set_cons_succ]
            try simp only [List.set_cons_zero]
            refine wpAnyH_done (by kernel_rfl) ?_ _
            go_wp2_with fail
            go_meet
            exact ⟨gZ, kc, cA, rfl, hgZ, setRow_heap _ _ _ _ _ _ hZ, ents_setRow hcs.1 hfar _, below_setRow (by assumption) hgZ _⟩
        case rest =>
          obtain ⟨g_y, k_y, A_y, rfl, hg_y, hR, hE, hb⟩ := hcut
          obtain ⟨wY, hwn⟩ : ∃ x, x = wc := ⟨_, rfl⟩
          subst hwn
          have BB := B_wX
          clear z_p p_0 p_1 p_2 p_3 p_f0 p_f1 p_f2 p_f3 z_o o_0 o_1 o_2 o_3 o_f0 o_f1 o_f2 o_f3 z_c c_0 c_1 c_2 c_3 c_4 c_5 c_6 c_7 c_8 c_9
          have B_wY := Lib.hid (BB.out.trans (hb.mono BB.out.size))
          replace H_r := Lib.hid (row_below H_r.out hb)
          replace H_c := Lib.hid (row_below H_c.out hb)
          replace H_p := Lib.hid (row_below H_p.out hb)
          replace H_o := Lib.hid (row_below H_o.out hb)
          replace H_x := Lib.hid (row_below H_x.out hb)
          replace E_l := Lib.hid (Cells.below E_l.out hb)
          replace E_x := Lib.hid (Cells.below E_x.out hb)
          clear BB hb B_wX
          have H_y := Lib.hid (show wY.heap[g_y]? = some (.cells (Rn.arr (beginRn Pf.s L c hv vv ⟨A_y, L.length, k_y⟩)) 39 (0, 0)) from hR)
          have E_y := Lib.hid (hE)
          clear hR hE
          obtain ⟨R, HR⟩ : ∃ R, Hid (beginRn Pf.s L c hv vv ⟨A_x, L.length, k_x⟩ = R) := ⟨_, Lib.hid rfl⟩
          have e2 : beginRn Pf.s L c hv vv ⟨A_y, L.length, k_y⟩ = { R with chain := ⟨A_y, L.length, k_y⟩, list := noS, said := noS, asaid := noS } := by rw [← HR.out]; rfl
          have Hr : Hid (R.chain = ⟨A_x, L.length, k_x⟩ ∧ R.list = noS ∧ R.said = noS ∧ R.asaid = noS) := Lib.hid (by rw [← HR.out]; exact ⟨rfl, rfl, rfl, rfl⟩)
          have hx' := H_x.out
          have hy' := H_y.out
          rw [HR.out] at hx'
          rw [e2] at hy'
          clear H_x H_y e2
          have H_x := Lib.hid hx'
          have H_y := Lib.hid hy'
          clear hx' hy'
          go_wp2_with (first | refine wpList_load_row_g (by rfl) 39 (.tmp 12) rfl g_x rfl 39 R.arr (0, 0) _ H_x.out undRun rfl infoRun ?_ | refine wpList_load_row_g (by rfl) 39 (.tmp 13) rfl g_y rfl 39 (Rn.arr { R with chain := ⟨A_y, L.length, k_y⟩, list := noS, said := noS, asaid := noS }) (0, 0) _ H_y.out undRun rfl infoRun ?_)
          have BB := B_wY
          refine (same_run R ⟨A_y, L.length, k_y⟩ noS noS noS L [] [] [] _ (runIn_plain Hr.out.1 hl1 E_x.out Hr.out.2.1 Hr.out.2.2.1 Hr.out.2.2.2) (runIn_plain rfl hl1 E_y.out rfl rfl rfl)).mono ?_
          rintro r w6 ⟨rfl, hb⟩
          have B_w6 := Lib.hid (BB.out.trans (hb.mono BB.out.size))
          replace H_r := Lib.hid (row_below H_r.out hb)
          replace H_c := Lib.hid (row_below H_c.out hb)
          replace H_p := Lib.hid (row_below H_p.out hb)
          replace H_o := Lib.hid (row_below H_o.out hb)
          replace H_x := Lib.hid (row_below H_x.out hb)
          replace H_y := Lib.hid (row_below H_y.out hb)
          replace E_l := Lib.hid (Cells.below E_l.out hb)
          replace E_x := Lib.hid (Cells.below E_x.out hb)
          replace E_y := Lib.hid (Cells.below E_y.out hb)
          clear BB hb B_wY
          have B := B_w6.out
          clear B_w6
          go_wp2_with fail
          go_ret
          exact ⟨by first | rfl | simp, B⟩

end Go.Proofs.Ytaneokplagdcfaa
