/- Layer 14: the walk of FoundNew. -/
import Derived.Test.YthedndejlfkknaaFNo
import Derived.Test.YthedndejlfkknaaFOpen
namespace Go.Proofs.Ythedndejlfkknaa
open Go.RowKit
set_option linter.unusedVariables false
set_option linter.unusedSimpArgs false

/-- how many of the first k words are not 0 -/
def cnt (ws : List Int) (k : Nat) : Nat := ((ws.take k).filter fun x => x != 0).length
theorem cnt_le (ws : List Int) (k : Nat) : cnt ws k ≤ k := by
  unfold cnt
  have h1 := List.length_filter_le (fun x => x != 0) (ws.take k)
  have h2 := List.length_take_le k ws
  omega
theorem cnt_next {ws : List Int} {k : Nat} {x : Int} (h : ws[k]? = some x) : cnt ws (k + 1) = if x = 0 then cnt ws k else cnt ws k + 1 := by
  unfold cnt
  rw [List.take_add_one, h, Option.toList_some, List.filter_append, List.length_append]
  by_cases h0 : x = 0
  · rw [if_pos h0, h0]; rfl
  · rw [if_neg h0]
    simp [h0]
theorem filter_rep (m : Nat) : (List.replicate m (0:Int)).filter (fun x => x != 0) = [] := by
  induction m with
  | zero => rfl
  | succ m ih => simp [List.replicate_succ, ih]
theorem cnt_new {s t i h : Int} (H : PlanOk s t i h) : cnt (newWs s i h) (newWs s i h).length = if 0 < i then 3 else 2 := by
  obtain ⟨s0, s1, t0, t1, i0, i1, h0, h1, i8, h8⟩ := H
  unfold cnt
  rw [List.take_of_length_le (Nat.le_refl _)]
  unfold newWs
  obtain ⟨m, hm⟩ : ∃ m, ((64 * s + i + h) / 8).toNat = m + 3 := ⟨((64 * s + i + h) / 8).toNat - 3, by omega⟩
  rw [hm, show List.replicate (m + 3) (0:Int) = 0 :: 0 :: 0 :: List.replicate m 0 from rfl]
  simp only [List.set_cons_zero, List.set_cons_succ]
  have hw : (word immC != 0) = true := by decide
  have hs : (64 * s != 0) = true := by simp; omega
  by_cases hi : 0 < i
  · have hi' : (i != 0) = true := by simp; omega
    rw [if_pos hi, List.filter_cons, if_pos hw, List.filter_cons, if_pos hs, List.filter_cons, if_pos hi', filter_rep]
    rfl
  · have hi' : ¬ (i != 0) = true := by simp; omega
    rw [if_neg hi, List.filter_cons, if_pos hw, List.filter_cons, if_pos hs, List.filter_cons, if_neg hi', filter_rep]
    rfl

set_option maxRecDepth 100000 in
set_option maxHeartbeats 8000000 in
theorem foundNew_walk (s t i h : Int) (w : World) (z0 : (Lit.int .i64 s).wf = true) (z1 : (Lit.int .i64 t).wf = true) (z2 : (Lit.int .i64 i).wf = true) (z3 : (Lit.int .i64 h).wf = true) :
    Calls Try.prog 5 #[.agg #[.int .i64 s, .int .i64 t, .int .i64 i, .int .i64 h]] w fun r w' => r = .returned (.bool true) ∧ Below w.heap.size w w' := by
  clear z0 z1 z2 z3
  go_enter Try.func5, Try.ntmps5
  go_upto_region 1 with fail
  refine one_row w _ _ ?_
  intro w1 hr hb
  have B := Lib.hid (hb)
  clear hb
  have H_q := Lib.hid (show w1.heap[w.heap.size]? = some (.cells #[.int .i64 s, .int .i64 t, .int .i64 i, .int .i64 h] 23 (0, 0)) from hr)
  clear hr
  go_wp2_with fail
  refine (shown_any _).mono ?_
  rintro r w2 ⟨rfl, hb⟩
  have hsz := (hb).size
  replace H_q := Lib.hid (row_below H_q.out hb)
  replace B := Lib.hid (below_only B.out hb)
  clear hb hsz
  obtain ⟨q_0, q_1, q_2, q_3, q_f0, q_f1, q_f2, q_f3⟩ := box4 H_q.out
  have z_q := lt_of_heap H_q.out
  go_wp2_with fail
  clear q_0 q_1 q_2 q_3 q_f0 q_f1 q_f2 q_f3 z_q
  by_cases H : PlanOk s t i h
  · skip
    have HPl := Lib.hid H
    have Hd := Lib.hid (decide_eq_true H)
    clear H
    refine (foundNewG_any s t i h _ HPl.out).mono ?_
    rintro r w3 ⟨p, b, gg, q, rfl, hA, -, hl, -, hb⟩
    have hlq := lt_of_heap H_q.out
    have hB2 := B.out.size
    obtain ⟨ws, hws⟩ : ∃ x, x = newWs s i h := ⟨_, rfl⟩
    rw [← hws] at hA
    have HA : Hid (Arn w3 p b ws) := Lib.hid hA
    have Hb : Hid (w.heap.size ≤ b) := Lib.hid (by omega)
    have N_q : Hid (w.heap.size ≠ b) := Lib.hid (by omega)
    have HC : Hid (cnt ws ws.length = if 0 < i then 3 else 2) := Lib.hid (by rw [hws]; exact cnt_new HPl.out)
    have H0 : Hid (ws[0]? = some (word immC)) := Lib.hid (by rw [hws]; exact (wsS_new HPl.out).blk 0 ⟨⟨2, 1, -1, 0⟩, (s * 64, i)⟩ rfl |>.1)
    obtain ⟨n, hn⟩ : ∃ n : Nat, n = ws.length * 8 := ⟨_, rfl⟩
    have Hn := Lib.hid hn
    have hsm := hA.small
    have hn1 : n ≤ 65536 := by omega
    have HSz : Hid (64 * s + i + h = (n : Int)) := Lib.hid (by rw [hn, hws, newWs_len]; have := HPl.out; obtain ⟨a1, a2, a3, a4, a5, a6, a7, a8, a9, a10⟩ := this; omega)
    have HL : Hid (∀ w0, Arn w0 p b ws → Calls Try.prog 20 #[.pointer (some ⟨p, 0, none⟩)] w0 fun r w' => r = .returned (.int .i64 (n : Int)) ∧ w' = w0) := Lib.hid fun w0 hA => by rw [Hn.out]; exact arnLen_any p b ws w0 hA
    have H3 := Lib.hid hws
    clear hA hl hlq hB2 hws hn hsm
    have hsz := (hb).size
    replace H_q := Lib.hid (row_below H_q.out hb)
    replace B := Lib.hid (below_only B.out hb)
    clear hb hsz
    obtain ⟨q_0, q_1, q_2, q_3, q_f0, q_f1, q_f2, q_f3⟩ := box4 H_q.out
    have z_q := lt_of_heap H_q.out
    go_wp2_with fail
    refine (rplanRight_any s t i h _).mono ?_
    rintro r w4 ⟨rfl, hb⟩
    rw [Hd.out]
    clear q_0 q_1 q_2 q_3 q_f0 q_f1 q_f2 q_f3 z_q
    have hsz := (hb).size
    replace H_q := Lib.hid (row_below H_q.out hb)
    replace HA := Lib.hid (HA.out.below hb)
    replace B := Lib.hid (below_only B.out hb)
    clear hb hsz
    go_upto_region 6 with fail
    try simp only [Act.put]
    go_cut [55] from 39 to 55 (fun vd wx => vd = .bool false ∧ Below w4.heap.size w4 wx)
    case first =>
      refine wp_region_held_drew (S := fun W' => W'.heap[w.heap.size]? = some (.cells #[.int .i64 s, .int .i64 t, .int .i64 i, .int .i64 h] 23 (0, 0))) (by kernel_rfl) (show w4.drew.heap[_]? = _ from H_q.out) ?_
      intro hS
      have hA0 : Arn w4.drew p b ws := HA.out.below (Below.drew (Below.refl _ _))
      have hb0 : Below w4.heap.size w4 w4.drew := Below.drew (Below.refl _ _)
      generalize w4.drew = y0 at hS hA0 hb0 ⊢
      refine wpAnyH_take_at (i := 0) (v := ?v0x1) (some 39) rfl rfl (by kernel_rfl) (by kernel_rfl) (by kernel_rfl) (fun _ _ _ h => h) (Or.inl ⟨by kernel_rfl, ?h0x1⟩) (by assumption) ?r0x1
      case h0x1 => (intro w' hSw; go_simp; first | done | (with_reducible rfl))
      try simp only [Act.put]
      try simp only [List.setIfInBounds_toArray]
      try simp only [List.set_cons_succ]
      try simp only [List.set_cons_zero]
      refine wpAnyH_take_at (i := 1) (v := ?v1x2) (some 40) rfl rfl (by kernel_rfl) (by kernel_rfl) (by kernel_rfl) (fun _ _ _ h => h) (Or.inl ⟨by kernel_rfl, ?h1x2⟩) (by assumption) ?r1x2
      case h1x2 => (intro w' hSw; go_simp; first | done | (with_reducible rfl))
      try simp only [Act.put]
      try simp only [List.setIfInBounds_toArray]
      try simp only [List.set_cons_succ]
      try simp only [List.set_cons_zero]
      refine wpAnyH_take_at (i := 2) (v := ?v2x3) (some 41) rfl rfl (by kernel_rfl) (by kernel_rfl) (by kernel_rfl) (fun _ _ _ h => h) (Or.inl ⟨by kernel_rfl, ?h2x3⟩) (by assumption) ?r2x3
      case h2x3 => (intro w' hSw; go_simp; first | done | (with_reducible rfl))
      try simp only [Act.put]
      try simp only [List.setIfInBounds_toArray]
      try simp only [List.set_cons_succ]
      try simp only [List.set_cons_zero]
      refine wpAnyH_take_at (i := 3) (v := ?v3x4) (some 42) rfl rfl (by kernel_rfl) (by kernel_rfl) (by kernel_rfl) (fun _ _ _ h => h) (Or.inl ⟨by kernel_rfl, ?h3x4⟩) (by assumption) ?r3x4
      case h3x4 => (intro w' hSw; go_simp; first | done | (with_reducible rfl))
      try simp only [Act.put]
      try simp only [List.setIfInBounds_toArray]
      try simp only [List.set_cons_succ]
      try simp only [List.set_cons_zero]
      refine wpAnyH_take_at (i := 4) (v := ?v4x5) (some 43) rfl rfl (by kernel_rfl) (by kernel_rfl) (by kernel_rfl) (fun _ _ _ h => h) (Or.inl ⟨by kernel_rfl, ?h4x5⟩) (by assumption) ?r4x5
      case h4x5 => (intro w' hSw; go_simp; first | done | (with_reducible rfl))
      try simp only [Act.put]
      try simp only [List.setIfInBounds_toArray]
      try simp only [List.set_cons_succ]
      try simp only [List.set_cons_zero]
      refine wpAnyH_take_at (i := 5) (v := ?v5x6) (some 44) rfl rfl (by kernel_rfl) (by kernel_rfl) (by kernel_rfl) (fun _ _ _ h => h) (Or.inl ⟨by kernel_rfl, ?h5x6⟩) (by assumption) ?r5x6
      case h5x6 => (intro w' hSw; go_simp; first | done | (with_reducible rfl))
      try simp only [Act.put]
      try simp only [List.setIfInBounds_toArray]
      try simp only [List.set_cons_succ]
      try simp only [List.set_cons_zero]
      refine wpAnyH_take_at (i := 6) (v := ?v6x7) (some 45) rfl rfl (by kernel_rfl) (by kernel_rfl) (by kernel_rfl) (fun _ _ _ h => h) (Or.inl ⟨by kernel_rfl, ?h6x7⟩) (by assumption) ?r6x7
      case h6x7 => (intro w' hSw; go_simp; first | done | (with_reducible rfl))
      try simp only [Act.put]
      try simp only [List.setIfInBounds_toArray]
      try simp only [List.set_cons_succ]
      try simp only [List.set_cons_zero]
      refine wpAnyH_take_at (i := 7) (v := ?v7x8) (some 46) rfl rfl (by kernel_rfl) (by kernel_rfl) (by kernel_rfl) (fun _ _ _ h => h) (Or.inl ⟨by kernel_rfl, ?h7x8⟩) (by assumption) ?r7x8
      case h7x8 => (intro w' hSw; go_simp; first | done | (with_reducible rfl))
      try simp only [Act.put]
      try simp only [List.setIfInBounds_toArray]
      try simp only [List.set_cons_succ]
      try simp only [List.set_cons_zero]
      refine wpAnyH_take_at (i := 8) (v := ?v8x9) (some 47) rfl rfl (by kernel_rfl) (by kernel_rfl) (by kernel_rfl) (fun _ _ _ h => h) (Or.inl ⟨by kernel_rfl, ?h8x9⟩) (by assumption) ?r8x9
      case h8x9 => (intro w' hSw; go_simp; first | done | (with_reducible rfl))
      try simp only [Act.put]
      try simp only [List.setIfInBounds_toArray]
      try simp only [List.set_cons_succ]
      try simp only [List.set_cons_zero]
      refine wpAnyH_take_at (i := 9) (v := ?v9x10) (some 48) rfl rfl (by kernel_rfl) (by kernel_rfl) (by kernel_rfl) (fun _ _ _ h => h) (Or.inl ⟨by kernel_rfl, ?h9x10⟩) (by assumption) ?r9x10
      case h9x10 => (intro w' hSw; go_simp; first | done | (with_reducible rfl))
      try simp only [Act.put]
      try simp only [List.setIfInBounds_toArray]
      try simp only [List.set_cons_succ]
      try simp only [List.set_cons_zero]
      refine wpAnyH_take_at (i := 10) (v := ?v10x11) (some 49) rfl rfl (by kernel_rfl) (by kernel_rfl) (by kernel_rfl) (fun _ _ _ h => h) (Or.inl ⟨by kernel_rfl, ?h10x11⟩) (by assumption) ?r10x11
      case h10x11 => (intro w' hSw; go_simp; first | done | (with_reducible rfl))
      try simp only [Act.put]
      try simp only [List.setIfInBounds_toArray]
      try simp only [List.set_cons_succ]
      try simp only [List.set_cons_zero]
      refine wpAnyH_take_at (i := 11) (v := ?v11x12) (some 50) rfl rfl (by kernel_rfl) (by kernel_rfl) (by kernel_rfl) (fun _ _ _ h => h) (Or.inl ⟨by kernel_rfl, ?h11x12⟩) (by assumption) ?r11x12
      case h11x12 => (intro w' hSw; go_simp; first | done | (with_reducible rfl))
      try simp only [Act.put]
      try simp only [List.setIfInBounds_toArray]
      try simp only [List.set_cons_succ]
      try simp only [List.set_cons_zero]
      refine wpAnyH_take_at (i := 13) (v := .agg #[.int .i64 s, .int .i64 t, .int .i64 i, .int .i64 h]) (some 52) rfl rfl (by kernel_rfl) (by kernel_rfl) (by kernel_rfl) (fun _ _ _ h => h) (yieldsIf_load_row (by kernel_rfl) 23 (.tmp 1) rfl w.heap.size rfl #[.int .i64 s, .int .i64 t, .int .i64 i, .int .i64 h] (fun W' hW' => hW') undPln4 rfl infoPln4) (by assumption) ?_
      try simp only [Act.put]
      try simp only [List.setIfInBounds_toArray]
      try simp only [List.set_cons_succ]
      try simp only [List.set_cons_zero]
      refine wpAnyH_ready (rs := [12]) (by kernel_rfl) (by simp) ?_
      refine AllReadyH.cons rfl (fun K hK => ?_) AllReadyH.nil
      go_simp
      refine (HL.out _ hA0).mono ?_
      rintro e' v1 ⟨rfl, hv1⟩
      subst hv1
      go_simp
      refine hK.out _ _ (hS) (fun hS => ?_)
      clear hK K
      try simp only [Act.put]
      try simp only [List.setIfInBounds_toArray]
      try simp only [List.set_cons_succ]
      try simp only [List.set_cons_zero]
      refine wpAnyH_ready (rs := [14]) (by kernel_rfl) (by simp) ?_
      refine AllReadyH.cons rfl (fun K hK => ?_) AllReadyH.nil
      go_simp
      refine (rplanSize_any s t i h _ HPl.out).mono ?_
      rintro e' yS ⟨rfl, hb⟩
      rw [HSz.out]
      go_simp
      replace hA0 := hA0.below hb
      replace hb0 := below_only hb0 hb
      refine hK.out _ _ (row_below hS hb) (fun hS => ?_)
      clear hK K
      try simp only [Act.put]
      try simp only [List.setIfInBounds_toArray]
      try simp only [List.set_cons_succ]
      try simp only [List.set_cons_zero]
      refine wpAnyH_take_at (i := 15) (v := ?v15x13) (some 54) rfl rfl (by kernel_rfl) (by kernel_rfl) (by kernel_rfl) (fun _ _ _ h => h) (Or.inl ⟨by kernel_rfl, ?h15x13⟩) (by assumption) ?r15x13
      case h15x13 => (intro w' hSw; go_simp; first | done | (with_reducible rfl))
      try simp only [Act.put]
      try simp only [List.setIfInBounds_toArray]
      try simp only [List.set_cons_succ]
      try simp only [List.set_cons_zero]
      refine wpAnyH_take_at (i := 16) (v := ?v16x14) (some 55) rfl rfl (by kernel_rfl) (by kernel_rfl) (by kernel_rfl) (fun _ _ _ h => h) (Or.inl ⟨by kernel_rfl, ?h16x14⟩) (by assumption) ?r16x14
      case h16x14 => (intro w' hSw; go_simp; first | done | (with_reducible rfl))
      try simp only [Act.put]
      try simp only [List.setIfInBounds_toArray]
      try simp only [List.set_cons_succ]
      try simp only [List.set_cons_zero]
      refine wpAnyH_done (by kernel_rfl) ?_ _
      go_wp2_with fail
      go_meet
      exact ⟨by first | rfl | simp, hb0⟩
    case rest =>
      obtain ⟨rfl, hb⟩ := hcut
      obtain ⟨w5, hwx⟩ : ∃ x, x = wc := ⟨_, rfl⟩
      subst hwx
      have hsz := (hb).size
      replace H_q := Lib.hid (row_below H_q.out hb)
      replace HA := Lib.hid (HA.out.below hb)
      replace B := Lib.hid (below_only B.out hb)
      clear hb hsz
      go_wp2_with fail
      go_loopw [8, 9] (fun v t wr => ∃ (k o : Nat), k ≤ ws.length ∧ o = k * 8 ∧ v = .int .i64 (cnt ws k) ∧ t = .int .i64 o ∧ Below w5.heap.size w5 wr) (fun _ t _ => n - (intOf t).toNat)
      case atStart => exact ⟨0, 0, Nat.zero_le _, rfl, by simp [cnt], rfl, Below.refl _ _⟩
      case round =>
        obtain ⟨k, o, hk, ho, rfl, rfl, hB⟩ := hrel
        have HBz := Lib.hid hB
        have HW := Lib.hid (HA.out.below hB)
        have Ho := Lib.hid ho
        have Hk := Lib.hid hk
        have hcl := cnt_le ws k
        have hk2 : k ≤ 8192 := by have h2 := HA.out.small; omega
        clear hB ho hk
        by_cases hlt : k < ws.length
        · obtain ⟨x, hx⟩ : ∃ x, ws[k]? = some x := ⟨_, List.getElem?_eq_getElem hlt⟩
          have Hx := Lib.hid hx
          have HN := Lib.hid (cnt_next hx)
          have HWd : Hid (∀ w0, Arn w0 p b ws → Calls Try.prog 22 #[.pointer (some ⟨p, 0, none⟩), .int .i64 (o : Int)] w0 fun r w' => r = .returned (.tuple #[.int .u64 x, .int .i64 0]) ∧ w' = w0) := Lib.hid fun w0 hA => by rw [Ho.out]; exact arnWord_any p b ws k x w0 hA Hx.out
          have hon : o < n := by have h1 := Ho.out; have h2 := Hn.out; omega
          clear hx hlt
          by_cases hx0 : x = 0
          · subst hx0
            go_wp2_with (first | (go_at_call 20; refine (HL.out _ HW.out).mono ?_; rintro r w6 ⟨rfl, rfl⟩) | (go_at_call 22; refine (HWd.out _ HW.out).mono ?_; rintro r w6 ⟨rfl, rfl⟩))
            go_roundw
            case rel => exact ⟨k + 1, o + 8, by have h1 := Ho.out; have h2 := Hn.out; omega, by have h1 := Ho.out; omega, by rw [HN.out]; simp, by go_num, HBz.out⟩
            case measure => simp [intOf]; omega
          · have qx : (x == 0) = false := by simpa using hx0
            go_wp2_with (first | (go_at_call 20; refine (HL.out _ HW.out).mono ?_; rintro r w6 ⟨rfl, rfl⟩) | (go_at_call 22; refine (HWd.out _ HW.out).mono ?_; rintro r w6 ⟨rfl, rfl⟩))
            go_roundw
            case rel => exact ⟨k + 1, o + 8, by have h1 := Ho.out; have h2 := Hn.out; omega, by have h1 := Ho.out; omega, by rw [HN.out, if_neg hx0]; go_num, by go_num, HBz.out⟩
            case measure => simp [intOf]; omega
        · skip
          have hkl : k = ws.length := by have := Hk.out; omega
          have hon : ¬ (o : Int) < (n : Int) := by have h1 := Ho.out; have h2 := Hn.out; omega
          obtain ⟨c, hcc⟩ : ∃ c, cnt ws k = c := ⟨_, rfl⟩
          have Hc : Hid (c = if 0 < i then 3 else 2) := Lib.hid (by rw [← hcc, hkl]; exact HC.out)
          rw [hcc]
          have hb := HBz.out
          clear hlt hcl hk2 hkl hcc HBz HC
          have hsz := (hb).size
          replace H_q := Lib.hid (row_below H_q.out hb)
          replace HA := Lib.hid (HA.out.below hb)
          replace B := Lib.hid (below_only B.out hb)
          clear hb hsz
          have x2 := (box4 H_q.out).2.2.1
          clear x2
          obtain ⟨q_0, q_1, q_2, q_3, q_f0, q_f1, q_f2, q_f3⟩ := box4 H_q.out
          have z_q := lt_of_heap H_q.out
          go_wp2_with (first | (go_at_call 20; refine (HL.out _ HA.out).mono ?_; rintro r w6 ⟨rfl, rfl⟩))
          refine (foundCtl_any p b s t i h ws 0 0 immC _ HPl.out HA.out immC_right H0.out (by decide) (by have := HPl.out.s0; omega)).mono ?_
          rintro r w7 ⟨rfl, hb⟩
          try (rw [show immC = ⟨2, 1, -1, 0⟩ from rfl])
          clear q_0 q_1 q_2 q_3 q_f0 q_f1 q_f2 q_f3 z_q
          have hsz := (hb).size
          replace H_q := Lib.hid (row_below H_q.out hb)
          replace HA := Lib.hid (HA.out.below hb)
          replace B := Lib.hid (below_only B.out hb)
          clear hb hsz
          go_upto_region 16 with fail
          refine one_row w7 _ _ ?_
          intro w8 hr hb
          have hlB := B.out.size
          have hl_q := lt_of_heap H_q.out
          have hsz := (hb).size
          replace H_q := Lib.hid (row_below H_q.out hb)
          replace HA := Lib.hid (HA.out.below hb)
          replace B := Lib.hid (below_only B.out hb)
          clear hb hsz
          have H_c := Lib.hid (show w8.heap[w7.heap.size]? = some (.cells #[.int .i64 2, .int .i64 1, .int .i64 (-1), .int .i64 0] 56 (0, 0)) from hr)
          clear hr
          obtain ⟨g_c, hg_c⟩ : ∃ x, x = w7.heap.size := ⟨_, rfl⟩
          rw [← hg_c] at H_c ⊢
          have M_q_c : Hid (w.heap.size ≠ g_c) := Lib.hid (by omega)
          have M_c_q : Hid (g_c ≠ w.heap.size) := Lib.hid (by omega)
          clear hl_q
          have L_c : Hid (w.heap.size ≤ g_c) := Lib.hid (by omega)
          clear hg_c hlB
          obtain ⟨q_0, q_1, q_2, q_3, q_f0, q_f1, q_f2, q_f3⟩ := box4 H_q.out
          have z_q := lt_of_heap H_q.out
          obtain ⟨c_0, c_1, c_2, c_3, c_f0, c_f1, c_f2, c_f3⟩ := box4 H_c.out
          have z_c := lt_of_heap H_c.out
          have B2 := B.out
          clear B
          by_cases hi : 0 < i
          · obtain rfl : c = 3 := by rw [Hc.out, if_pos hi]
            go_wp2_with fail
            go_ret
            exact ⟨by first | rfl | simp, B2⟩
          · obtain rfl : c = 2 := by rw [Hc.out, if_neg hi]
            go_wp2_with fail
            go_ret
            exact ⟨by first | rfl | simp, B2⟩
  · skip
    have Hd := Lib.hid (decide_eq_false H)
    have HN := Lib.hid H
    clear H
    refine (foundNew_no s t i h _ HN.out).mono ?_
    rintro r w3 ⟨rfl, hb⟩
    have hsz := (hb).size
    replace H_q := Lib.hid (row_below H_q.out hb)
    replace B := Lib.hid (below_only B.out hb)
    clear hb hsz
    obtain ⟨q_0, q_1, q_2, q_3, q_f0, q_f1, q_f2, q_f3⟩ := box4 H_q.out
    have z_q := lt_of_heap H_q.out
    go_wp2_with fail
    refine (rplanRight_any s t i h _).mono ?_
    rintro r w4 ⟨rfl, hb⟩
    rw [Hd.out]
    clear q_0 q_1 q_2 q_3 q_f0 q_f1 q_f2 q_f3 z_q
    have hsz := (hb).size
    replace H_q := Lib.hid (row_below H_q.out hb)
    replace B := Lib.hid (below_only B.out hb)
    clear hb hsz
    have B2 := B.out
    clear B
    go_wp2_with fail
    go_ret
    exact ⟨by first | rfl | simp, B2⟩

end Go.Proofs.Ythedndejlfkknaa
