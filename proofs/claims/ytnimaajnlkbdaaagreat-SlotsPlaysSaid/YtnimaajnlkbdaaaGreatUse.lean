/- Layer 16: a load or store on its way in memory; the walk of fresh. (Printed by gen_use.py.) -/
import Derived.Test.YtnimaajnlkbdaaaGreatMQ
import Derived.Test.YtnimaajnlkbdaaaGreatSteps
import Derived.Test.YtnimaajnlkbdaaaGreatFound
namespace Go.Proofs.YtnimaajnlkbdaaaGreat
open Go.RowKit
set_option linter.unusedVariables false
set_option linter.unusedSimpArgs false
theorem tk {P : Program} {md : Region.Mode} {ops : Array Oper} {Q : Exit → Act → World → Prop} {S : World → Prop} {i : Nat} {oi : Oper} {v : Value} {fuel : Nat} {listed : Array Bool} {a : Act} {w : World} (d : Option Tmp) (hi : ops[i]? = some oi) (hd : oi.dst = d)
  (hy : YieldsIf P ops S oi v a) (h : wpAnyH P md ops Q S fuel (listed.setIfInBounds i true) (a.put d v) w)
  (hs : Region.noSelect ops = true := by kernel_rfl) (hf : Region.free md ops listed i = true := by kernel_rfl) (hr : (Region.ready md ops listed).contains i = true := by kernel_rfl)
  (hQ : ∀ c a w, Q (.panic c) (a.put d v) w → Q (.panic c) a w := by exact fun _ _ _ h => h) (hS : S w := by assumption) : wpAnyH P md ops Q S (fuel + 1) listed a w :=
 wpAnyH_take_at d hi hd hs hf hr hQ hy hS h

abbrev usePre (p : Nat) (s t i h : Int) : Array Value := #[.int .i64 s, .int .i64 t, .int .i64 i, .int .i64 h, .pointer (some ⟨p, 0, none⟩)]
abbrev useCs (r : Rn) (e : Int) : Array Value := r.arr ++ #[.int .i64 e]
abbrev Use (w : World) (g p : Nat) (s t i h : Int) (r : Rn) (e : Int) : Prop := w.heap[g]? = some (.cells (preArr (usePre p s t i h) (useCs r e)) 96 (0, 0))
section
variable {w : World} {g p : Nat} {s t i h : Int} {r : Rn} {e : Int}
theorem Use.lo (H : Use w g p s t i h r e) (n : Nat) (v : Value) (hn : (usePre p s t i h)[n]? = some v) : w.cell? ⟨g, n, none⟩ = some v := by
 rw [row_cell H, pre_low _ _ _ (by rcases Nat.lt_or_ge n (usePre p s t i h).size with h1 | h1; exact h1; rw [Array.getElem?_eq_none h1] at hn; cases hn), hn]
theorem Use.hi (H : Use w g p s t i h r e) (n j : Nat) (v : Value) (hn : n = 5 + j) (hj : (useCs r e)[j]? = some v) : w.cell? ⟨g, n, none⟩ = some v := by
 rw [row_cell H, pre_get (usePre p s t i h) _ n j hn, hj]
theorem use_box (H : Use w g p s t i h r e) :
  w.cell? ⟨g, 0, none⟩ = some (.int .i64 s) ∧ w.cell? ⟨g, 1, none⟩ = some (.int .i64 t) ∧ w.cell? ⟨g, 2, none⟩ = some (.int .i64 i) ∧ w.cell? ⟨g, 3, none⟩ = some (.int .i64 h) ∧ w.cell? ⟨g, 4, none⟩ = some (.pointer (some ⟨p, 0, none⟩)) ∧ w.cell? ⟨g, 5, none⟩ = some (.int .u8 r.c.op) ∧ w.cell? ⟨g, 9, none⟩ = some (.int .i64 r.c.a) ∧ w.cell? ⟨g, 10, none⟩ = some (.int .i64 r.c.b) ∧ w.cell? ⟨g, 12, none⟩ = some (.int .i64 r.pc) ∧ w.cell? ⟨g, 14, none⟩ = some (.int .u64 r.hand) ∧ w.cell? ⟨g, 15, none⟩ = some (.int .u64 r.val) ∧ w.cell? ⟨g, 16, none⟩ = some (r.chain.v) ∧ w.cell? ⟨g, 19, none⟩ = some (.int .i64 r.at_) ∧ w.cell? ⟨g, 31, none⟩ = some (.int .i64 e) ∧ w.frozen? ⟨g, 12, none⟩ = false ∧ w.frozen? ⟨g, 19, none⟩ = false ∧ w.frozen? ⟨g, 31, none⟩ = false ∧ g < w.heap.size :=
 ⟨H.lo 0 _ rfl, H.lo 1 _ rfl, H.lo 2 _ rfl, H.lo 3 _ rfl, H.lo 4 _ rfl, H.hi 5 0 _ rfl rfl, H.hi 9 4 _ rfl rfl, H.hi 10 5 _ rfl rfl, H.hi 12 7 _ rfl rfl, H.hi 14 9 _ rfl rfl, H.hi 15 10 _ rfl rfl, H.hi 16 11 _ rfl rfl, H.hi 19 14 _ rfl rfl, H.hi 31 26 _ rfl rfl, row_frozen H 12, row_frozen H 19, row_frozen H 31, lt_of_heap H⟩
theorem Use.setE (H : Use w g p s t i h r e) (e' : Int) : Use (w.setCell ⟨g, 31, none⟩ (.int .i64 e')) g p s t i h r e' := by
 have h := row_set (i := 31) H (.int .i64 e')
 rw [pre_set _ _ 31 26 _ rfl] at h
 exact h
theorem Use.setPc (H : Use w g p s t i h r e) (x : Int) : Use (w.setCell ⟨g, 12, none⟩ (.int .i64 x)) g p s t i h { r with pc := x } e := by
 have h := row_set (i := 12) H (.int .i64 x)
 rw [pre_set _ _ 12 7 _ rfl] at h
 exact h
theorem Use.setAt (H : Use w g p s t i h r e) (x : Int) : Use (w.setCell ⟨g, 19, none⟩ (.int .i64 x)) g p s t i h { r with at_ := x } e := by
 have h := row_set (i := 19) H (.int .i64 x)
 rw [pre_set _ _ 19 14 _ rfl] at h
 exact h
end
theorem refUnpack_as {h sc ep at_ c : Int} (hU : unpackR h = ((sc, ep, at_), c)) (h0 : 0 ≤ h) (h1 : h ≤ 18446744073709551615) (w : World) :
  Calls Tryz.prog 80 #[.int .u64 h] w fun r w' => r = .returned (.tuple #[.agg #[.int .i64 sc, .int .i64 ep, .int .i64 at_], .int .i64 c]) ∧ Below w.heap.size w w' := by
 have h9 := unpackR_any h w h0 h1
 rw [hU] at h9
 exact h9
set_option maxRecDepth 100000 in
set_option maxHeartbeats 4000000 in
theorem useFresh_any (g p b : Nat) (s t i h : Int) (ws : List Int) (k : Nat) (c : Ctl) (r : Rn) (hv next sc ep at_ : Int) (w : World) (H : PlanOk s t i h) (hT : Use w g p s t i h r 0) (hA : Arn w p b ws) (hc : Right c) (hk : ws[k]? = some (word c)) (ha : (k : Int) = 8 * sc) (hs : 0 ≤ sc ∧ sc ≤ s - 1) (hu : unpackR hv = ((sc, ep, at_), 0)) (h0 : 0 ≤ hv ∧ hv ≤ 18446744073709551615) :
  Calls Tryz.prog 33 #[.pointer (some ⟨g, 0, none⟩), .int .u64 hv, .int .i64 next] w fun e w' => e = .returned (.tuple #[]) ∧ Use w' g p s t i h { r with pc := next } (if c.ep = ep then 0 else 19) ∧ Keep [g] w w' := by
 have HC := fun w' (h' : Arn w' p b ws) => Lib.hid (foundCtl_any p b s t i h ws k sc c w' H h' hc hk ha hs)
 have HU := fun w' => Lib.hid (refUnpack_as hu h0.1 h0.2 w')
 have HT := Lib.hid hT
 have HA := Lib.hid hA
 have e0 : 0 ≤ c.ep := hc.1
 have e1 : c.ep ≤ 16777215 := hc.2.1
 obtain ⟨c1, c2, c3, c4⟩ := c
 have e0 : 0 ≤ c4 := e0
 have e1 : c4 ≤ 16777215 := e1
 clear H hT hA hc hk ha hs hu h0
 go_enter Tryz.func33, Tryz.ntmps33
 go_wp2_with fail
 refine (HU _).out.mono ?_
 rintro r2 w1 ⟨rfl, hb⟩
 replace HT := Lib.hid (row_below HT.out hb)
 replace HA := Lib.hid (HA.out.below hb)
 have HB := Lib.hid hb
 clear hb HU
 go_upto_region 1 with fail
 refine one_row w1 _ _ ?_
 intro w2 hr hb
 have hg := lt_of_heap HT.out
 replace HT := Lib.hid (row_below HT.out hb)
 replace HA := Lib.hid (HA.out.below hb)
 replace HB := Lib.hid (below_only HB.out hb)
 obtain ⟨gf, hgf⟩ : ∃ x, x = w1.heap.size := ⟨_, rfl⟩
 rw [← hgf] at hr ⊢
 have HR := Lib.hid hr
 have Mgf : Hid (g ≠ gf) := Lib.hid (by omega)
 clear hgf hr hb hg
 try simp only [Act.put]
 go_cut [8, 9] from 8 to 28 (fun v8 v9 wx => ∃ gZ, v8 = .pointer (some ⟨gZ, 0, none⟩) ∧ v9 = .int .i64 0 ∧ w2.heap.size ≤ gZ ∧ wx.heap[gZ]? = some (.cells #[.int .i64 c1, .int .i64 c2, .int .i64 c3, .int .i64 c4] 78 (0, 0)) ∧ Below w2.heap.size w2 wx)
 case first =>
  refine wp_region_held_drew (S := fun W => Use W g p s t i h r 0 ∧ W.heap[gf]? = some (.cells #[.int .i64 sc, .int .i64 ep, .int .i64 at_] 70 (0, 0))) (by kernel_rfl) (show Use w2.drew g p s t i h r 0 ∧ w2.drew.heap[gf]? = _ from ⟨HT.out, HR.out⟩) ?_
  intro hS
  have hA0 : Arn w2.drew p b ws := HA.out.drew
  have hB0 : Below w2.heap.size w2 w2.drew := by go_grown
  generalize w2.drew = y0 at hS hA0 hB0 ⊢
  refine tk (i := 0) (v := ?v0x1) (some 16) rfl rfl (Or.inl ⟨by kernel_rfl, ?h0x1⟩) ?r0x1
  case h0x1 => (intro w hSw; obtain ⟨s1, s2⟩ := hSw; obtain ⟨b0, b1, b2, b3, b4, b5, b9, b10, b12, b14, b15, b16, b19, b31, bf12, bf19, bf31, bz⟩ := use_box s1; obtain ⟨f0, f1, f2, _, _, _⟩ := box3 s2; have zf := lt_of_heap s2; go_simp; first | done | (with_reducible rfl))
  try simp only [Act.put, List.setIfInBounds_toArray, List.set_cons_succ, List.set_cons_zero]
  refine tk (i := 1) (v := ?v1x2) (some 17) rfl rfl (Or.inl ⟨by kernel_rfl, ?h1x2⟩) ?r1x2
  case h1x2 => (intro w hSw; obtain ⟨s1, s2⟩ := hSw; obtain ⟨b0, b1, b2, b3, b4, b5, b9, b10, b12, b14, b15, b16, b19, b31, bf12, bf19, bf31, bz⟩ := use_box s1; obtain ⟨f0, f1, f2, _, _, _⟩ := box3 s2; have zf := lt_of_heap s2; go_simp; first | done | (with_reducible rfl))
  try simp only [Act.put, List.setIfInBounds_toArray, List.set_cons_succ, List.set_cons_zero]
  refine tk (i := 2) (v := ?v2x3) (some 18) rfl rfl (Or.inl ⟨by kernel_rfl, ?h2x3⟩) ?r2x3
  case h2x3 => (intro w hSw; obtain ⟨s1, s2⟩ := hSw; obtain ⟨b0, b1, b2, b3, b4, b5, b9, b10, b12, b14, b15, b16, b19, b31, bf12, bf19, bf31, bz⟩ := use_box s1; obtain ⟨f0, f1, f2, _, _, _⟩ := box3 s2; have zf := lt_of_heap s2; go_simp; first | done | (with_reducible rfl))
  try simp only [Act.put, List.setIfInBounds_toArray, List.set_cons_succ, List.set_cons_zero]
  refine tk (i := 3) (v := ?v3x4) (some 19) rfl rfl (Or.inl ⟨by kernel_rfl, ?h3x4⟩) ?r3x4
  case h3x4 => (intro w hSw; obtain ⟨s1, s2⟩ := hSw; obtain ⟨b0, b1, b2, b3, b4, b5, b9, b10, b12, b14, b15, b16, b19, b31, bf12, bf19, bf31, bz⟩ := use_box s1; obtain ⟨f0, f1, f2, _, _, _⟩ := box3 s2; have zf := lt_of_heap s2; go_simp; first | done | (with_reducible rfl))
  try simp only [Act.put, List.setIfInBounds_toArray, List.set_cons_succ, List.set_cons_zero]
  refine tk (i := 4) (v := ?v4x5) (some 20) rfl rfl (Or.inl ⟨by kernel_rfl, ?h4x5⟩) ?r4x5
  case h4x5 => (intro w hSw; obtain ⟨s1, s2⟩ := hSw; obtain ⟨b0, b1, b2, b3, b4, b5, b9, b10, b12, b14, b15, b16, b19, b31, bf12, bf19, bf31, bz⟩ := use_box s1; obtain ⟨f0, f1, f2, _, _, _⟩ := box3 s2; have zf := lt_of_heap s2; go_simp; first | done | (with_reducible rfl))
  try simp only [Act.put, List.setIfInBounds_toArray, List.set_cons_succ, List.set_cons_zero]
  refine tk (i := 5) (v := ?v5x6) (some 21) rfl rfl (Or.inl ⟨by kernel_rfl, ?h5x6⟩) ?r5x6
  case h5x6 => (intro w hSw; obtain ⟨s1, s2⟩ := hSw; obtain ⟨b0, b1, b2, b3, b4, b5, b9, b10, b12, b14, b15, b16, b19, b31, bf12, bf19, bf31, bz⟩ := use_box s1; obtain ⟨f0, f1, f2, _, _, _⟩ := box3 s2; have zf := lt_of_heap s2; go_simp; first | done | (with_reducible rfl))
  try simp only [Act.put, List.setIfInBounds_toArray, List.set_cons_succ, List.set_cons_zero]
  refine tk (i := 6) (v := ?v6x7) (some 22) rfl rfl (Or.inl ⟨by kernel_rfl, ?h6x7⟩) ?r6x7
  case h6x7 => (intro w hSw; obtain ⟨s1, s2⟩ := hSw; obtain ⟨b0, b1, b2, b3, b4, b5, b9, b10, b12, b14, b15, b16, b19, b31, bf12, bf19, bf31, bz⟩ := use_box s1; obtain ⟨f0, f1, f2, _, _, _⟩ := box3 s2; have zf := lt_of_heap s2; go_simp; first | done | (with_reducible rfl))
  try simp only [Act.put, List.setIfInBounds_toArray, List.set_cons_succ, List.set_cons_zero]
  refine tk (i := 7) (v := ?v7x8) (some 23) rfl rfl (Or.inl ⟨by kernel_rfl, ?h7x8⟩) ?r7x8
  case h7x8 => (intro w hSw; obtain ⟨s1, s2⟩ := hSw; obtain ⟨b0, b1, b2, b3, b4, b5, b9, b10, b12, b14, b15, b16, b19, b31, bf12, bf19, bf31, bz⟩ := use_box s1; obtain ⟨f0, f1, f2, _, _, _⟩ := box3 s2; have zf := lt_of_heap s2; go_simp; first | done | (with_reducible rfl))
  try simp only [Act.put, List.setIfInBounds_toArray, List.set_cons_succ, List.set_cons_zero]
  refine tk (i := 8) (v := ?v8x9) (some 24) rfl rfl (Or.inl ⟨by kernel_rfl, ?h8x9⟩) ?r8x9
  case h8x9 => (intro w hSw; obtain ⟨s1, s2⟩ := hSw; obtain ⟨b0, b1, b2, b3, b4, b5, b9, b10, b12, b14, b15, b16, b19, b31, bf12, bf19, bf31, bz⟩ := use_box s1; obtain ⟨f0, f1, f2, _, _, _⟩ := box3 s2; have zf := lt_of_heap s2; go_simp; first | done | (with_reducible rfl))
  try simp only [Act.put, List.setIfInBounds_toArray, List.set_cons_succ, List.set_cons_zero]
  refine tk (i := 9) (v := ?v9x10) (some 25) rfl rfl (Or.inl ⟨by kernel_rfl, ?h9x10⟩) ?r9x10
  case h9x10 => (intro w hSw; obtain ⟨s1, s2⟩ := hSw; obtain ⟨b0, b1, b2, b3, b4, b5, b9, b10, b12, b14, b15, b16, b19, b31, bf12, bf19, bf31, bz⟩ := use_box s1; obtain ⟨f0, f1, f2, _, _, _⟩ := box3 s2; have zf := lt_of_heap s2; go_simp; first | done | (with_reducible rfl))
  try simp only [Act.put, List.setIfInBounds_toArray, List.set_cons_succ, List.set_cons_zero]
  refine wpAnyH_ready (rs := [10, 14]) (by kernel_rfl) (by simp) ?_
  refine AllReadyH.cons rfl (fun K hK => ?_) (AllReadyH.cons rfl (fun K hK => ?_) AllReadyH.nil)
  ·skip
   go_simp
   refine (HC _ hA0).out.mono ?_
   rintro e' yE ⟨rfl, hb⟩
   go_simp
   replace hA0 := hA0.below hb
   replace hB0 := below_only hB0 hb
   refine hK.out _ _ (⟨row_below hS.1 hb, row_below hS.2 hb⟩) (fun hS => ?_)
   clear hK K
   try simp only [Act.put, List.setIfInBounds_toArray, List.set_cons_succ, List.set_cons_zero]
   refine tk (i := 11) (v := ?v11x11) (some 15) rfl rfl (Or.inl ⟨by kernel_rfl, ?h11x11⟩) ?r11x11
   case h11x11 => (intro w hSw; obtain ⟨s1, s2⟩ := hSw; obtain ⟨b0, b1, b2, b3, b4, b5, b9, b10, b12, b14, b15, b16, b19, b31, bf12, bf19, bf31, bz⟩ := use_box s1; obtain ⟨f0, f1, f2, _, _, _⟩ := box3 s2; have zf := lt_of_heap s2; go_simp; first | done | (with_reducible rfl))
   try simp only [Act.put, List.setIfInBounds_toArray, List.set_cons_succ, List.set_cons_zero]
   refine tk (i := 12) (v := ?v12x12) (some 27) rfl rfl (Or.inl ⟨by kernel_rfl, ?h12x12⟩) ?r12x12
   case h12x12 => (intro w hSw; obtain ⟨s1, s2⟩ := hSw; obtain ⟨b0, b1, b2, b3, b4, b5, b9, b10, b12, b14, b15, b16, b19, b31, bf12, bf19, bf31, bz⟩ := use_box s1; obtain ⟨f0, f1, f2, _, _, _⟩ := box3 s2; have zf := lt_of_heap s2; go_simp; first | done | (with_reducible rfl))
   try simp only [Act.put, List.setIfInBounds_toArray, List.set_cons_succ, List.set_cons_zero]
   refine tk (i := 13) (v := ?v13x13) (some 28) rfl rfl (Or.inl ⟨by kernel_rfl, ?h13x13⟩) ?r13x13
   case h13x13 => (intro w hSw; obtain ⟨s1, s2⟩ := hSw; obtain ⟨b0, b1, b2, b3, b4, b5, b9, b10, b12, b14, b15, b16, b19, b31, bf12, bf19, bf31, bz⟩ := use_box s1; obtain ⟨f0, f1, f2, _, _, _⟩ := box3 s2; have zf := lt_of_heap s2; go_simp; first | done | (with_reducible rfl))
   try simp only [Act.put, List.setIfInBounds_toArray, List.set_cons_succ, List.set_cons_zero]
   refine wpAnyH_ready (rs := [14]) (by kernel_rfl) (by simp) ?_
   refine AllReadyH.cons rfl (fun K hK => ?_) AllReadyH.nil
   go_simp
   refine k_alloc (fun yZ hZ hb => ?_)
   have hgZ : w2.heap.size ≤ yE.heap.size := hB0.size
   replace hA0 := hA0.below hb
   replace hB0 := below_only hB0 hb
   obtain ⟨gZ, HgZ⟩ : ∃ x, x = yE.heap.size := ⟨_, rfl⟩
   have hS1 := row_below hS.1 hb
   have hS2 := row_below hS.2 hb
   have hgg : g ≠ gZ := by have := lt_of_heap hS.1; omega
   have hgg2 : gf ≠ gZ := by have := lt_of_heap hS.2; omega
   rw [← HgZ] at hZ hgZ ⊢
   clear HgZ hb
   refine hK.out _ _ (⟨hS1, hS2⟩) (fun hS => ?_)
   clear hK K
   try simp only [Act.put, List.setIfInBounds_toArray, List.set_cons_succ, List.set_cons_zero]
   clear hS1 hS2
   refine wpAnyH_ready (rs := [15]) (by kernel_rfl) (by simp) ?_
   refine AllReadyH.cons rfl (fun K hK => ?_) AllReadyH.nil
   refine step_store_row none rfl rfl 78 (.tmp 8) (.tmp 27) rfl gZ #[.int .i64 c1, .int .i64 c2, .int .i64 c3, .int .i64 c4] rfl rfl 78 #[.int .i64 0, .int .i64 0, .int .i64 0, .int .i64 0] hZ infoCtl4 rfl (one4 _ _ _ _) ?_
   refine hK.out _ _ (⟨(setRow_other _ _ _ _ hgg).trans hS.1, (setRow_other _ _ _ _ hgg2).trans hS.2⟩) (fun hS => ?_)
   clear hK K
   try simp only [Act.put, List.setIfInBounds_toArray, List.set_cons_succ, List.set_cons_zero]
   refine tk (i := 16) (v := ?v16x14) (some 9) rfl rfl (Or.inl ⟨by kernel_rfl, ?h16x14⟩) ?r16x14
   case h16x14 => (intro w hSw; obtain ⟨s1, s2⟩ := hSw; obtain ⟨b0, b1, b2, b3, b4, b5, b9, b10, b12, b14, b15, b16, b19, b31, bf12, bf19, bf31, bz⟩ := use_box s1; obtain ⟨f0, f1, f2, _, _, _⟩ := box3 s2; have zf := lt_of_heap s2; go_simp; first | done | (with_reducible rfl))
   try simp only [Act.put, List.setIfInBounds_toArray, List.set_cons_succ, List.set_cons_zero]
   refine wpAnyH_done (by kernel_rfl) ?_ _
   go_wp2_with fail
   go_meet
   exact ⟨gZ, rfl, rfl, hgZ, setRow_heap _ _ _ _ _ _ hZ, below_setRow hB0 hgZ _⟩
  ·skip
   go_simp
   refine k_alloc (fun yZ hZ hb => ?_)
   have hgZ : w2.heap.size ≤ y0.heap.size := hB0.size
   replace hA0 := hA0.below hb
   replace hB0 := below_only hB0 hb
   obtain ⟨gZ, HgZ⟩ : ∃ x, x = y0.heap.size := ⟨_, rfl⟩
   have hS1 := row_below hS.1 hb
   have hS2 := row_below hS.2 hb
   have hgg : g ≠ gZ := by have := lt_of_heap hS.1; omega
   have hgg2 : gf ≠ gZ := by have := lt_of_heap hS.2; omega
   rw [← HgZ] at hZ hgZ ⊢
   clear HgZ hb
   refine hK.out _ _ (⟨hS1, hS2⟩) (fun hS => ?_)
   clear hK K
   try simp only [Act.put, List.setIfInBounds_toArray, List.set_cons_succ, List.set_cons_zero]
   clear hS1 hS2
   refine wpAnyH_ready (rs := [10]) (by kernel_rfl) (by simp) ?_
   refine AllReadyH.cons rfl (fun K hK => ?_) AllReadyH.nil
   go_simp
   refine (HC _ hA0).out.mono ?_
   rintro e' yE ⟨rfl, hb⟩
   go_simp
   replace hA0 := hA0.below hb
   replace hB0 := below_only hB0 hb
   replace hZ := row_below hZ hb
   refine hK.out _ _ (⟨row_below hS.1 hb, row_below hS.2 hb⟩) (fun hS => ?_)
   clear hK K
   try simp only [Act.put, List.setIfInBounds_toArray, List.set_cons_succ, List.set_cons_zero]
   refine tk (i := 11) (v := ?v11x15) (some 15) rfl rfl (Or.inl ⟨by kernel_rfl, ?h11x15⟩) ?r11x15
   case h11x15 => (intro w hSw; obtain ⟨s1, s2⟩ := hSw; obtain ⟨b0, b1, b2, b3, b4, b5, b9, b10, b12, b14, b15, b16, b19, b31, bf12, bf19, bf31, bz⟩ := use_box s1; obtain ⟨f0, f1, f2, _, _, _⟩ := box3 s2; have zf := lt_of_heap s2; go_simp; first | done | (with_reducible rfl))
   try simp only [Act.put, List.setIfInBounds_toArray, List.set_cons_succ, List.set_cons_zero]
   refine tk (i := 12) (v := ?v12x16) (some 27) rfl rfl (Or.inl ⟨by kernel_rfl, ?h12x16⟩) ?r12x16
   case h12x16 => (intro w hSw; obtain ⟨s1, s2⟩ := hSw; obtain ⟨b0, b1, b2, b3, b4, b5, b9, b10, b12, b14, b15, b16, b19, b31, bf12, bf19, bf31, bz⟩ := use_box s1; obtain ⟨f0, f1, f2, _, _, _⟩ := box3 s2; have zf := lt_of_heap s2; go_simp; first | done | (with_reducible rfl))
   try simp only [Act.put, List.setIfInBounds_toArray, List.set_cons_succ, List.set_cons_zero]
   refine tk (i := 13) (v := ?v13x17) (some 28) rfl rfl (Or.inl ⟨by kernel_rfl, ?h13x17⟩) ?r13x17
   case h13x17 => (intro w hSw; obtain ⟨s1, s2⟩ := hSw; obtain ⟨b0, b1, b2, b3, b4, b5, b9, b10, b12, b14, b15, b16, b19, b31, bf12, bf19, bf31, bz⟩ := use_box s1; obtain ⟨f0, f1, f2, _, _, _⟩ := box3 s2; have zf := lt_of_heap s2; go_simp; first | done | (with_reducible rfl))
   try simp only [Act.put, List.setIfInBounds_toArray, List.set_cons_succ, List.set_cons_zero]
   refine wpAnyH_ready (rs := [15]) (by kernel_rfl) (by simp) ?_
   refine AllReadyH.cons rfl (fun K hK => ?_) AllReadyH.nil
   refine step_store_row none rfl rfl 78 (.tmp 8) (.tmp 27) rfl gZ #[.int .i64 c1, .int .i64 c2, .int .i64 c3, .int .i64 c4] rfl rfl 78 #[.int .i64 0, .int .i64 0, .int .i64 0, .int .i64 0] hZ infoCtl4 rfl (one4 _ _ _ _) ?_
   refine hK.out _ _ (⟨(setRow_other _ _ _ _ hgg).trans hS.1, (setRow_other _ _ _ _ hgg2).trans hS.2⟩) (fun hS => ?_)
   clear hK K
   try simp only [Act.put, List.setIfInBounds_toArray, List.set_cons_succ, List.set_cons_zero]
   refine tk (i := 16) (v := ?v16x18) (some 9) rfl rfl (Or.inl ⟨by kernel_rfl, ?h16x18⟩) ?r16x18
   case h16x18 => (intro w hSw; obtain ⟨s1, s2⟩ := hSw; obtain ⟨b0, b1, b2, b3, b4, b5, b9, b10, b12, b14, b15, b16, b19, b31, bf12, bf19, bf31, bz⟩ := use_box s1; obtain ⟨f0, f1, f2, _, _, _⟩ := box3 s2; have zf := lt_of_heap s2; go_simp; first | done | (with_reducible rfl))
   try simp only [Act.put, List.setIfInBounds_toArray, List.set_cons_succ, List.set_cons_zero]
   refine wpAnyH_done (by kernel_rfl) ?_ _
   go_wp2_with fail
   go_meet
   exact ⟨gZ, rfl, rfl, hgZ, setRow_heap _ _ _ _ _ _ hZ, below_setRow hB0 hgZ _⟩
 case rest =>
  obtain ⟨gZ, rfl, rfl, hgZ, hR, hb⟩ := hcut
  obtain ⟨w5, hwx⟩ : ∃ x, x = wc := ⟨_, rfl⟩
  subst hwx
  have hgl := lt_of_heap HT.out
  have hgl2 := HB.out.size
  have HT5 : Hid (Use w5 g p s t i h r 0) := Lib.hid (row_below HT.out hb)
  have HR5 := Lib.hid (row_below HR.out hb)
  have HB5 := Lib.hid (below_only HB.out hb)
  have hZr := Lib.hid hR
  obtain ⟨x0, x1, x2, x3, _⟩ := box4 hR
  obtain ⟨f0, f1, f2, _, _, _⟩ := box3 HR5.out
  have zf := lt_of_heap HR5.out
  have zZ := lt_of_heap hR
  clear hb hR hgZ hgl hgl2
  obtain ⟨v0, v1, v2, v3, v4, v5, v9, v10, v12, v14, v15, v16, v19, v31, vf12, vf19, vf31, vz⟩ := use_box HT5.out
  by_cases he : c4 = ep
  ·subst he
   go_wp2_with fail
   go_end0
   exact ⟨rfl, by first | (rw [if_pos rfl]; exact HT5.out.setPc next) | exact HT5.out.setPc next, (keep_below HB5.out [g]).setCell (p := ⟨g, 12, none⟩) (.inl (by simp)) _⟩
  ·have he2 : (c4 == ep) = false := by simpa using he
   have he3 : decide (c4 = ep) = false := decide_eq_false he
   go_wp2_with fail
   go_end0
   exact ⟨rfl, by first | (rw [if_neg he]; exact (HT5.out.setE 19).setPc next) | exact (HT5.out.setE 19).setPc next, ((keep_below HB5.out [g]).setCell (p := ⟨g, 31, none⟩) (.inl (by simp)) _).setCell (p := ⟨g, 12, none⟩) (.inl (by simp)) _⟩
end Go.Proofs.YtnimaajnlkbdaaaGreat
