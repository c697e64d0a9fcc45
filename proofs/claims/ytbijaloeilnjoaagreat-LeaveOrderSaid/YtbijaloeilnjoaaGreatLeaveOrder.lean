/- Layer 18: the document's finalizers: Of, Step, Run. (Printed by gen_rfin.py.) Layer 18: the walk of LeaveOrder. (Printed by gen_lo18.py.) -/
import Derived.Test.YtbijaloeilnjoaaGreatLvS
import Derived.Test.YtbijaloeilnjoaaGreatLO
import Derived.Test.YtbijaloeilnjoaaGreatLvC
import Derived.Test.YtbijaloeilnjoaaGreatLw
namespace Go.Proofs.YtbijaloeilnjoaaGreat
open Go.RowKit
set_option linter.unusedVariables false
set_option linter.unusedSimpArgs false

theorem rfinOf_any (A : Option Addr) (c : Nat) (fl : List FSl) (tg : Nat) (w : World) (h : FinsAt w A fl) (hl : fl.length ≤ 8) (ht : tg < 8) :
    Calls Tryz.prog 25 #[.slice A fl.length c, .int .i64 tg] w fun r w' => r = .returned (.slice (finOf fl tg).a (finOf fl tg).l.length (finOf fl tg).c) ∧ w' = w := by
  have hlI : (fl.length : Int) ≤ 8 := by omega
  have hl0 : (0 : Int) ≤ (fl.length : Int) := by omega
  have htI : (tg : Int) < 8 := by omega
  have ht0 : (0 : Int) ≤ (tg : Int) := by omega
  have HF := Lib.hid h
  clear h
  go_enter Tryz.func25, Tryz.ntmps25
  by_cases hlt : tg < fl.length
  · obtain ⟨x, hx⟩ : ∃ x, fl[tg]? = some x := ⟨_, List.getElem?_eq_getElem hlt⟩
    obtain ⟨b, off, rfl, hbl, hc⟩ := HF.out.at_ (by omega)
    have q0 := hc tg x hx
    have e : finOf fl tg = x := by unfold finOf; rw [hx]; rfl
    have HE := Lib.hid e
    have hltI : (tg : Int) < (fl.length : Int) := by omega
    clear hc hx e
    go_wp2_with fail
    go_ret
    exact ⟨by rw [HE.out]; rfl, rfl⟩
  · have e : finOf fl tg = ⟨none, 0, []⟩ := by unfold finOf; rw [List.getElem?_eq_none (by omega)]; rfl
    have HE := Lib.hid e
    have hltI : ¬ ((tg : Int) < (fl.length : Int)) := by omega
    have hltI2 : (fl.length : Int) ≤ (tg : Int) := by omega
    clear e hlt
    go_wp2_with fail
    go_ret
    exact ⟨by rw [HE.out]; rfl, rfl⟩
set_option maxRecDepth 100000 in
set_option maxHeartbeats 4000000 in
theorem rfinStep_any (A : Option Addr) (c : Nat) (ops : List Fo) (k : Nat) (B : Option Addr) (cB : Nat) (sl : List Int) (w : World) (o : Fo) (ho : Cells w A (ops.flatMap foCells)) (hl : ops.length ≤ 8) (hk : ops[k]? = some o) (ok : FoOk o) (hs : Cells w B (sl.flatMap uCells)) (hn : sl.length ≤ 6) :
    Calls Tryz.prog 59 #[.slice A ops.length c, .int .i64 k, .slice B sl.length cB] w fun r w' => ∃ A2 c2 A3 c3, r = .returned (.tuple #[.int .i64 (finN o k sl : Nat), .slice A2 sl.length c2, .slice A3 (finS o).length c3, .bool (finH o)]) ∧ Cells w' A2 ((finW o sl).flatMap uCells) ∧ Cells w' A3 ((finS o).flatMap nCells) ∧ (∀ z, A2 = some z → w.heap.size ≤ z.block) ∧ (∀ z, A3 = some z → w.heap.size ≤ z.block) ∧ Below w.heap.size w w' := by
  obtain ⟨i0, hi0, hz0, hz1, hz2⟩ := info_parts infoU64
  have hkl := (List.getElem?_eq_some_iff.1 hk).1
  have klI : (k : Int) < (ops.length : Int) := by omega
  have k0I : (0 : Int) ≤ (k : Int) := by omega
  have opI : (ops.length : Int) ≤ 8 := by omega
  have hkw : IntKind.i64.wrap ((k : Int) + 1) = (k : Int) + 1 := IntWalk.i64_in _ (by omega)
  obtain ⟨b, off, rfl, hbl, hc⟩ := fo_at ho (by omega)
  obtain ⟨e0, e1, e2⟩ := hc k o hk
  have HE := Lib.hid (And.intro e0 (And.intro e1 e2))
  have Hbl := Lib.hid hbl
  have HN := Lib.hid hn
  have hs' := hs
  have nI6 : (sl.length : Int) ≤ 6 := by omega
  have nI0 : (0 : Int) ≤ (sl.length : Int) := by omega
  clear ho hk hc e0 e1 e2 hbl hkl hl hn
  go_enter Tryz.func59, Tryz.ntmps59
  go_upto_region 2 with (at_builtin; refine wpList_append_any _ rfl _ _ _ rfl w.heap.size 36 i0 _ 1 8 Tryz.underlying71 hi0 hz0 hz1 hz2 rfl (by omega) (.slice (some ⟨w.heap.size, 0, none⟩) 0 0) 0 [] rfl (World.ownsRow_lit (e := 36) _ _ 0 (Nat.le_refl _) (by simp [maxLen]) rfl) B sl.length cB (sl.flatMap uCells) rfl (flat_length uCells 1 (fun _ => rfl) sl) (Cells.alloc hs' _) (u_one sl) (by have := HN.out; simp only [maxLen]; omega) (by have := HN.out; omega) (by simp) ?_; intro v1 w1 hown hg hat; rw [List.nil_append, Nat.zero_add] at hown; have HB0 := Lib.hid (show Below w.heap.size w w1 from ((Below.refl _ _).alloc (Nat.le_refl _) _).grown hg (by simp) (by simp [Value.ownBlock])); obtain ⟨A1, c1, rfl, hfar, hsl⟩ := slOk_of_own hown; have hup := own_lt hown; clear hown hg hat)
  obtain ⟨oo, oa, oq⟩ := o
  obtain ⟨e0, e1, e2⟩ := HE.out
  dsimp only at e0 e1 e2
  replace e0 := (HB0.out.cell (p := ⟨b, off + k * 3, none⟩) Hbl.out).trans e0
  replace e1 := (HB0.out.cell (p := ⟨b, off + k * 3 + 1, none⟩) Hbl.out).trans e1
  replace e2 := (HB0.out.cell (p := ⟨b, off + k * 3 + 2, none⟩) Hbl.out).trans e2
  have zb : b < w1.heap.size := Nat.lt_of_lt_of_le Hbl.out HB0.out.size
  have HSl0 := Lib.hid hsl
  have HF := Lib.hid hfar
  have HFu := Lib.hid hup
  obtain ⟨a, rfl⟩ : ∃ a : Nat, oa = (a : Int) := ⟨oa.toNat, by have := ok.a; dsimp only at this; omega⟩
  obtain ⟨q, rfl⟩ : ∃ q : Nat, oq = (q : Int) := ⟨oq.toNat, by have := ok.b; dsimp only at this; omega⟩
  have a0 : (0 : Int) ≤ (a : Int) := by omega
  have a63 : (a : Int) ≤ 63 := ok.a.2
  have q0 : (0 : Int) ≤ (q : Int) := by omega
  have q7 : (q : Int) ≤ 7 := ok.b.2
  have hop : oo = 0 ∨ oo = 1 ∨ oo = 2 ∨ oo = 3 ∨ oo = 4 := by have := ok.op; dsimp only at this; omega
  have Hok := Lib.hid ok
  have hkw2 : IntKind.i64.wrap ((k : Int) + 1 + (q : Int)) = (k : Int) + 1 + (q : Int) := IntWalk.i64_in _ (by omega)
  clear hsl hfar hup hs hs' HE ok
  go_upto_region 5 with fail
  refine one_row w1 _ _ ?_
  intro w2 hr hb
  clear e0 e1 e2 zb
  obtain ⟨g, Hg⟩ : ∃ x, Hid (x = w1.heap.size) := ⟨_, Lib.hid rfl⟩
  rw [← Hg.out] at hr ⊢
  have HB := Lib.hid (below_only HB0.out hb)
  have HSl : Hid (SlOk w2 g A1 sl) := Lib.hid (HSl0.out.imp id fun ⟨bs, cur, h⟩ => ⟨bs, cur, ⟨h.a, row_below h.row hb, h.at_⟩, by have := lt_of_heap h.row; have := Hg.out; omega⟩)
  have HR := Lib.hid hr
  obtain ⟨y0, y1, y2, _, _, _⟩ := box3 hr
  have zy := lt_of_heap hr
  clear hr hb HSl0 HB0
  have HC : Hid (Cells w2 A1 (sl.flatMap uCells)) := Lib.hid (SlOk.cells HSl.out)
  rcases hop with rfl | rfl | rfl | rfl | rfl
  · go_wp2_with fail
    go_region
    all_goals
      go_wp2_with fail
      refine bodyPost_ret (results_tmp4 rfl _ _ _) rfl ?_
      refine ⟨A1, c1, some ⟨w2.heap.size, 0, none⟩, 1, by simp [finN, finS, finH], ?_, ?_, HF.out, fun z hz => (by injection hz with hz; subst hz; exact HB.out.size), ?_⟩
      · exact Cells.below (w := w2) HC.out (by go_grown)
      · exact cells_of (row_new _ _ _)
      · exact below_only HB.out (by go_grown)
  · by_cases hlt : a < sl.length
    · have hW : Hid (finW ⟨1, (a : Int), (q : Int)⟩ sl = sl.set a 0) := Lib.hid (by simp [finW])
      rcases HSl.out with h0 | ⟨bs, cur, h, hne⟩
      · rw [h0] at hlt; simp at hlt
      have hltI : (a : Int) < (sl.length : Int) := by omega
      have HSB := Lib.hid h
      have Hne := Lib.hid hne
      have hne1 : ¬ bs = g := hne
      have hne2 : ¬ g = bs := fun e => hne e.symm
      have hA := h.a
      subst hA
      have fa := row_frozen h.row a
      obtain ⟨xa, hxa⟩ : ∃ x, sl[a]? = some x := ⟨_, List.getElem?_eq_getElem hlt⟩
      have ca : w2.cell? ⟨bs, a, none⟩ = some (.int .u64 xa) := by rw [row_cell h.row]; exact h.at_ a xa hxa
      have za := lt_of_heap h.row
      have Hlt := Lib.hid hlt
      clear hxa h hne hlt
      go_wp2_with fail
      go_region
      all_goals
        go_wp2_with fail
        refine bodyPost_ret (results_tmp4 rfl _ _ _) rfl ?_
        have h2 := row_set (i := a) HSB.out.row (.int .u64 0)
        have hk := ((Keep.refl [bs] w2).setCell (p := ⟨bs, a, none⟩) (.inl (by simp)) (.int .u64 0)).drew
        refine ⟨_, c1, none, 0, by simp [finN, finS, finH], ?_, Cells.nil, HF.out, fun z hz => (by cases hz), ?_⟩
        · rw [hW.out]
          exact SlOk.cells (g := g) (.inr ⟨bs, _, HSB.out.set h2, Hne.out⟩)
        · have h9 := Keep.under HB.out hk HB.out.size (by simp; exact HF.out _ rfl)
          first | exact h9 | exact h9.drew
    · have hltI : ¬ ((a : Int) < (sl.length : Int)) := by omega
      have hltI2 : (sl.length : Int) ≤ (a : Int) := by omega
      have hW : Hid (finW ⟨1, (a : Int), (q : Int)⟩ sl = sl) := Lib.hid (by simp only [finW, if_true]; rw [List.set_eq_of_length_le (by simp; omega)])
      clear hlt
      go_wp2_with fail
      go_region
      all_goals
        go_wp2_with fail
        refine bodyPost_ret (results_tmp4 rfl _ _ _) rfl ?_
        exact ⟨A1, c1, none, 0, by simp [finN, finS, finH], by rw [hW.out]; exact HC.out, Cells.nil, HF.out, fun z hz => (by cases hz), by first | exact HB.out | exact HB.out.drew⟩
  · by_cases hlt2 : a < sl.length ∧ q < sl.length
    · obtain ⟨hlt, hltb⟩ := hlt2
      rcases HSl.out with h0 | ⟨bs, cur, h, hne⟩
      · rw [h0] at hlt; simp at hlt
      have hltI : (a : Int) < (sl.length : Int) := by omega
      have HSB := Lib.hid h
      have Hne := Lib.hid hne
      have hne1 : ¬ bs = g := hne
      have hne2 : ¬ g = bs := fun e => hne e.symm
      have hA := h.a
      subst hA
      have fa := row_frozen h.row a
      obtain ⟨xa, hxa⟩ : ∃ x, sl[a]? = some x := ⟨_, List.getElem?_eq_getElem hlt⟩
      have ca : w2.cell? ⟨bs, a, none⟩ = some (.int .u64 xa) := by rw [row_cell h.row]; exact h.at_ a xa hxa
      have za := lt_of_heap h.row
      have hltIb : (q : Int) < (sl.length : Int) := by omega
      obtain ⟨xb, hxb⟩ : ∃ x, sl[q]? = some x := ⟨_, List.getElem?_eq_getElem hltb⟩
      have cb : w2.cell? ⟨bs, q, none⟩ = some (.int .u64 xb) := by rw [row_cell h.row]; exact h.at_ q xb hxb
      have hW : Hid (finW ⟨2, (a : Int), (q : Int)⟩ sl = sl.set a xb) := Lib.hid (by simp [finW, hxb])
      have Hlt := Lib.hid hlt
      clear hxa hxb h hne hlt hltb
      go_wp2_with fail
      go_region
      all_goals
        go_wp2_with fail
        go_region
        all_goals
          go_wp2_with fail
          refine bodyPost_ret (results_tmp4 rfl _ _ _) rfl ?_
          have h2 := row_set (i := a) HSB.out.row (.int .u64 xb)
          have hk := ((Keep.refl [bs] w2).setCell (p := ⟨bs, a, none⟩) (.inl (by simp)) (.int .u64 xb)).drew
          refine ⟨_, c1, none, 0, by simp [finN, finS, finH], ?_, Cells.nil, HF.out, fun z hz => (by cases hz), ?_⟩
          · rw [hW.out]
            exact SlOk.cells (g := g) (.inr ⟨bs, _, HSB.out.set h2, Hne.out⟩)
          · have h9 := Keep.under HB.out hk HB.out.size (by simp; exact HF.out _ rfl)
            first | exact h9 | exact h9.drew
    · have hW : Hid (finW ⟨2, (a : Int), (q : Int)⟩ sl = sl) := Lib.hid (by
        have e : (2 : Int) ≠ 1 := by omega
        simp only [finW, if_neg e, if_true, Int.toNat_natCast]
        by_cases hb9 : q < sl.length
        · rw [List.getElem?_eq_getElem hb9]
          dsimp only
          rw [List.set_eq_of_length_le (by omega)]
        · rw [List.getElem?_eq_none (by omega)])
      by_cases hlt : a < sl.length
      · have hltI : (a : Int) < (sl.length : Int) := by omega
        have hltIb : ¬ ((q : Int) < (sl.length : Int)) := by omega
        clear hlt hlt2
        go_wp2_with fail
        go_region
        all_goals
          go_wp2_with fail
          refine bodyPost_ret (results_tmp4 rfl _ _ _) rfl ?_
          exact ⟨A1, c1, none, 0, by simp [finN, finS, finH], by rw [hW.out]; exact HC.out, Cells.nil, HF.out, fun z hz => (by cases hz), by first | exact HB.out | exact HB.out.drew⟩
      · have hltI : ¬ ((a : Int) < (sl.length : Int)) := by omega
        clear hlt hlt2
        go_wp2_with fail
        go_region
        all_goals
          go_wp2_with fail
          refine bodyPost_ret (results_tmp4 rfl _ _ _) rfl ?_
          exact ⟨A1, c1, none, 0, by simp [finN, finS, finH], by rw [hW.out]; exact HC.out, Cells.nil, HF.out, fun z hz => (by cases hz), by first | exact HB.out | exact HB.out.drew⟩
  · have hW : Hid (finW ⟨3, (a : Int), (q : Int)⟩ sl = sl) := Lib.hid (by simp [finW])
    by_cases hlt : a < sl.length
    · rcases HSl.out with h0 | ⟨bs, cur, h, hne⟩
      · rw [h0] at hlt; simp at hlt
      have hltI : (a : Int) < (sl.length : Int) := by omega
      have HSB := Lib.hid h
      have Hne := Lib.hid hne
      have hne1 : ¬ bs = g := hne
      have hne2 : ¬ g = bs := fun e => hne e.symm
      have hA := h.a
      subst hA
      have fa := row_frozen h.row a
      obtain ⟨xa, hxa⟩ : ∃ x, sl[a]? = some x := ⟨_, List.getElem?_eq_getElem hlt⟩
      have ca : w2.cell? ⟨bs, a, none⟩ = some (.int .u64 xa) := by rw [row_cell h.row]; exact h.at_ a xa hxa
      have za := lt_of_heap h.row
      have Hxa := Lib.hid hxa
      by_cases hx0 : xa = 0
      · subst hx0
        have HNz : Hid (((finN ⟨3, (a : Int), (q : Int)⟩ k sl : Nat) : Int) = (k : Int) + 1 + (q : Int)) := Lib.hid (by simp [finN, Hxa.out])
        clear hxa h hne hlt
        go_wp2_with fail
        refine bodyPost_ret (results_tmp4 rfl _ _ _) rfl ?_
        exact ⟨some ⟨bs, 0, none⟩, c1, none, ⟨0, by simp [finS, finH, HNz.out]⟩, by rw [hW.out]; exact HC.out, Cells.nil, HF.out, fun z hz => (by cases hz), by first | exact HB.out | exact HB.out.drew⟩
      · have HNz : Hid (((finN ⟨3, (a : Int), (q : Int)⟩ k sl : Nat) : Int) = (k : Int) + 1) := Lib.hid (by simp [finN, Hxa.out, hx0])
        clear hxa h hne hlt
        go_wp2_with fail
        go_region
        all_goals
          go_wp2_with fail
          refine bodyPost_ret (results_tmp4 rfl _ _ _) rfl ?_
          exact ⟨some ⟨bs, 0, none⟩, c1, none, 0, by simp [finS, finH, HNz.out], by rw [hW.out]; exact HC.out, Cells.nil, HF.out, fun z hz => (by cases hz), by first | exact HB.out | exact HB.out.drew⟩
    · have hltI : ¬ ((a : Int) < (sl.length : Int)) := by omega
      have hltI2 : (sl.length : Int) ≤ (a : Int) := by omega
      have HNz : Hid (((finN ⟨3, (a : Int), (q : Int)⟩ k sl : Nat) : Int) = (k : Int) + 1) := Lib.hid (by simp [finN, List.getElem?_eq_none (Nat.le_of_not_lt hlt)])
      clear hlt
      go_wp2_with fail
      go_region
      all_goals
        go_wp2_with fail
        refine bodyPost_ret (results_tmp4 rfl _ _ _) rfl ?_
        exact ⟨A1, c1, none, 0, by simp [finS, finH, HNz.out], by rw [hW.out]; exact HC.out, Cells.nil, HF.out, fun z hz => (by cases hz), by first | exact HB.out | exact HB.out.drew⟩
  · have hW : Hid (finW ⟨4, (a : Int), (q : Int)⟩ sl = sl) := Lib.hid (by simp [finW])
    go_wp2_with fail
    go_region
    all_goals
      go_wp2_with fail
      refine bodyPost_ret (results_tmp4 rfl _ _ _) rfl ?_
      exact ⟨A1, c1, none, 0, by simp [finN, finS, finH], by rw [hW.out]; exact HC.out, Cells.nil, HF.out, fun z hz => (by cases hz), by first | exact HB.out | exact HB.out.drew⟩
/-- where a run stands in memory -/
structure RunAt (w0 : World) (ops : List Fo) (sl : List Int) (wr : World) (k : Nat) (A2 : Option Addr) (slk : List Int) (A3 : Option Addr) (c3 : Nat) (sd : List Int) (hd : Bool) (n : Nat) : Prop where
  len : slk.length = sl.length
  cs : Cells wr A2 (slk.flatMap uCells)
  ow : wr.ownsRow w0.heap.size 3 1 (.slice A3 sd.length c3) sd.length (sd.flatMap nCells)
  is : fin8 ops 0 sl = ⟨(fin8 ops k slk).sl, sd ++ (fin8 ops k slk).said, hd || (fin8 ops k slk).held, n + (fin8 ops k slk).n⟩
  far : ∀ z, A2 = some z → w0.heap.size ≤ z.block
  nk : n ≤ k ∧ sd.length ≤ n ∧ k ≤ 15
  b : Below w0.heap.size w0 wr
set_option maxRecDepth 100000 in
set_option maxHeartbeats 4000000 in
theorem rfinRun_any (A : Option Addr) (c : Nat) (ops : List Fo) (B : Option Addr) (cB : Nat) (sl : List Int) (w : World) (ho : Cells w A (ops.flatMap foCells)) (hl : ops.length ≤ 8) (ok : ∀ o ∈ ops, FoOk o) (hs : Cells w B (sl.flatMap uCells)) (hn : sl.length ≤ 6) :
    Calls Tryz.prog 26 #[.slice A ops.length c, .slice B sl.length cB] w fun r w' => ∃ A2 c2 A3 c3, r = .returned (.tuple #[.slice A2 sl.length c2, .slice A3 (fin8 ops 0 sl).said.length c3, .bool (fin8 ops 0 sl).held, .int .i64 ((fin8 ops 0 sl).n : Nat)]) ∧ Cells w' A2 ((fin8 ops 0 sl).sl.flatMap uCells) ∧ Cells w' A3 ((fin8 ops 0 sl).said.flatMap nCells) ∧ (∀ z, A2 = some z → w.heap.size ≤ z.block) ∧ (∀ z, A3 = some z → w.heap.size ≤ z.block) ∧ Below w.heap.size w w' := by
  obtain ⟨i0, hi0, hz0, hz1, hz2⟩ := info_parts infoU64
  obtain ⟨j0, hj0, hy0, hy1, hy2⟩ := info_parts infoInt
  have HN := Lib.hid hn
  have HO := Lib.hid ho
  have Hok := Lib.hid ok
  have Hl := Lib.hid hl
  have hs' := hs
  have opI : (ops.length : Int) ≤ 8 := by omega
  have opI0 : (0 : Int) ≤ (ops.length : Int) := by omega
  clear ho hl hn ok hs
  go_enter Tryz.func26, Tryz.ntmps26
  go_upto_region 2 with (at_builtin; refine wpList_append_any _ rfl _ _ _ rfl w.heap.size 36 i0 _ 1 8 Tryz.underlying71 hi0 hz0 hz1 hz2 rfl (by omega) (.slice (some ⟨w.heap.size, 0, none⟩) 0 0) 0 [] rfl (World.ownsRow_lit (e := 36) _ _ 0 (Nat.le_refl _) (by simp [maxLen]) rfl) B sl.length cB (sl.flatMap uCells) rfl (flat_length uCells 1 (fun _ => rfl) sl) (Cells.alloc hs' _) (u_one sl) (by have := HN.out; simp only [maxLen]; omega) (by have := HN.out; omega) (by simp) ?_; intro v1 w1 hown hg hat; rw [List.nil_append, Nat.zero_add] at hown; have HB0 := Lib.hid (show Below w.heap.size w w1 from ((Below.refl _ _).alloc (Nat.le_refl _) _).grown hg (by simp) (by simp [Value.ownBlock])); obtain ⟨A1, c1, rfl, hfar, hsl⟩ := slOk_of_own hown; have hup := own_lt hown; clear hown hg hat)
  have HSl0 := Lib.hid hsl
  have HF := Lib.hid hfar
  have HS : Hid (Cells w1 A1 (sl.flatMap uCells)) := Lib.hid (SlOk.cells (g := w1.heap.size) (hsl.imp id fun ⟨bs, cur, h⟩ => ⟨bs, cur, h, by have := lt_of_heap h.row; omega⟩))
  clear hsl hfar hup hs' HSl0
  go_wp2_with fail
  go_loopw [8, 9, 10, 11, 12] (fun vo vs vh va vn wr => ∃ (k : Nat) (A2 : Option Addr) (c2 : Nat) (slk : List Int) (A3 : Option Addr) (c3 : Nat) (sd : List Int) (hd : Bool) (n : Nat), vo = .slice A2 slk.length c2 ∧ vs = .slice A3 sd.length c3 ∧ vh = .bool hd ∧ va = .int .i64 k ∧ vn = .int .i64 n ∧ RunAt w ops sl wr k A2 slk A3 c3 sd hd n) (fun _ _ _ va _ _ => (8 - intOf va).toNat)
  case atStart =>
    refine ⟨0, A1, c1, sl, _, _, [], false, 0, rfl, rfl, rfl, rfl, rfl, ?_⟩
    have hb : Below w1.heap.size w1 (w1.alloc (.cells #[] 3)) := by go_grown
    exact ⟨rfl, Cells.below HS.out hb, own_empty HB0.out.size (row_new _ _ _), by simp, HF.out, ⟨Nat.le_refl _, Nat.le_refl _, by omega⟩, below_only HB0.out hb⟩
  case round =>
    obtain ⟨k, A2, c2, slk, A3, c3, sd, hd, n, rfl, rfl, rfl, rfl, rfl, hR⟩ := hrel
    have HR := Lib.hid hR
    have hnk := hR.nk
    have kI0 : (0 : Int) ≤ (k : Int) := by omega
    have kI : (k : Int) ≤ 15 := by omega
    have nI0 : (0 : Int) ≤ (n : Int) := by omega
    have nI : (n : Int) ≤ 15 := by omega
    have nw : IntKind.i64.wrap ((n : Int) + 1) = (n : Int) + 1 := IntWalk.i64_in _ (by omega)
    have Hnk := Lib.hid hnk
    clear hR hnk
    by_cases hlt : k < ops.length
    · obtain ⟨o, ho⟩ : ∃ o, ops[k]? = some o := ⟨_, List.getElem?_eq_getElem hlt⟩
      have klI : (k : Int) < (ops.length : Int) := by omega
      have Ho := Lib.hid ho
      have Hlt := Lib.hid hlt
      clear ho hlt
      go_wp2_with fail
      refine (rfinStep_any A c ops k A2 c2 slk _ o (Cells.below HO.out HR.out.b) Hl.out Ho.out (Hok.out o (List.mem_of_getElem? Ho.out)) HR.out.cs (by rw [HR.out.len]; exact HN.out)).mono ?_
      rintro r w2 ⟨A4, c4, A5, c5, rfl, h4, h5, f4, f5, hb⟩
      have H4 := Lib.hid (And.intro h4 f4)
      have H5 := Lib.hid (And.intro h5 f5)
      have Hb := Lib.hid hb
      have hS1 := finS_len o
      have HS1 := Lib.hid hS1
      have HW := Lib.hid (finW_len o slk)
      have HNx := Lib.hid (finN_le (Hok.out o (List.mem_of_getElem? Ho.out)) k slk)
      obtain ⟨so, Hso⟩ : ∃ s, Hid (finS o = s) := ⟨_, Lib.hid rfl⟩
      obtain ⟨kn, Hkn⟩ : ∃ s, Hid (finN o k slk = s) := ⟨_, Lib.hid rfl⟩
      obtain ⟨ho, Hho⟩ : ∃ s, Hid (finH o = s) := ⟨_, Lib.hid rfl⟩
      rw [Hso.out, Hkn.out, Hho.out]
      have hOwn : w2.ownsRow w.heap.size 3 1 (.slice A3 sd.length c3) sd.length (sd.flatMap nCells) := own_below HR.out.ow hb
      have HOwn := Lib.hid hOwn
      clear h4 h5 f4 f5 hb hS1 hOwn
      go_upto_region 11 with (at_builtin; refine wpList_append_any _ rfl (.tmp 36) (.tmp 37) _ (by rfl) w.heap.size 3 j0 _ 1 8 Tryz.underlying38 hj0 hy0 hy1 hy2 rfl (by omega) (.slice A3 sd.length c3) sd.length (sd.flatMap nCells) (by rfl) HOwn.out A5 so.length c5 (so.flatMap nCells) (by rfl) (flat_length nCells 1 (fun _ => rfl) _) (by rw [← Hso.out]; exact H5.out.1) (n_one _) (by have := Hnk.out; have := HS1.out; rw [Hso.out] at this; simp only [maxLen]; omega) (by have := Hnk.out; have := HS1.out; rw [Hso.out] at this; omega) (Nat.le_trans HR.out.b.size Hb.out.size) ?_; intro v6 w6 hown6 hg6 hat6)
      obtain ⟨A6, c6, rfl, -, -, -⟩ := own_slice hown6
      have hN : RunAt w ops sl w6 kn A4 (finW o slk) A6 c6 (sd ++ so) (hd || ho) (n + 1) := by
        have hf := fin8_step (sl := slk) Hl.out Ho.out
        have hi := HR.out.is
        refine ⟨(HW.out).trans HR.out.len, Cells.grown H4.out.1 hg6 (fun z hz e => ?_), ?_, ?_, fun z hz => Nat.le_trans HR.out.b.size (H4.out.2 z hz), ⟨?_, ?_, ?_⟩, ?_⟩
        · have h1 := H4.out.2 z hz
          have h2 := own_ltF HR.out.ow z.block e.symm
          omega
        · rw [List.length_append, List.flatMap_append]; exact hown6
        · rw [hi, hf, Hso.out, Hkn.out, Hho.out]
          simp [List.append_assoc, Bool.or_assoc, Nat.add_assoc, Nat.add_comm 1]
        · have h1 := finN_lt o k slk; have := Hnk.out; rw [Hkn.out] at h1; omega
        · have := Hnk.out; have h9 := HS1.out; rw [Hso.out] at h9; rw [List.length_append]; omega
        · have h9 := HNx.out; have := Hlt.out; have := Hl.out; rw [Hkn.out] at h9; omega
        · exact Below.grown (below_only HR.out.b Hb.out) hg6 (Nat.le_trans HR.out.b.size Hb.out.size) (fun i hi => own_ge HOwn.out i hi)
      have HNN := Lib.hid hN
      have HM : Hid ((8 - ((kn : Int))).toNat < (8 - (k : Int)).toNat) := Lib.hid (by have h1 := finN_lt o k slk; rw [Hkn.out] at h1; have := Hlt.out; have := Hl.out; omega)
      have HLn : Hid ((finW o slk).length = slk.length) := HW
      have HLs : Hid ((sd ++ so).length = sd.length + so.length) := Lib.hid List.length_append
      clear hN hown6 hg6 hat6
      cases hd
      all_goals
        go_wp2_with fail
        go_roundw
        case rel => exact ⟨kn, A4, c4, finW o slk, A6, c6, sd ++ so, _, n + 1, by rw [HLn.out], by rw [HLs.out], by rfl, rfl, by go_num, HNN.out⟩
        case measure => simpa [intOf] using HM.out
    · have klI : ¬ ((k : Int) < (ops.length : Int)) := by omega
      have Hlt := Lib.hid hlt
      clear hlt
      go_wp2_with fail
      refine bodyPost_ret (results_tmp4 rfl _ _ _) rfl ?_
      have hi := HR.out.is
      have he := fin8_end (ops := ops) (k := k) (sl := slk) (by have := Hlt.out; omega)
      rw [he] at hi
      simp only [List.append_nil, Bool.or_false, Nat.add_zero] at hi
      rw [hi]
      refine ⟨A2, c2, A3, ⟨c3, by simp [HR.out.len]⟩, HR.out.cs, ?_, HR.out.far, ?_, HR.out.b⟩
      · obtain ⟨A9, c9, e9, -, -, h9⟩ := own_slice HR.out.ow
        injection e9 with e1 e2 e3
        subst e1
        exact h9
      · exact fun z hz => own_ge HR.out.ow z.block (by rw [hz]; rfl)
end Go.Proofs.YtbijaloeilnjoaaGreat

namespace Go.Proofs.YtbijaloeilnjoaaGreat
open Go.RowKit
set_option linter.unusedVariables false
set_option linter.unusedSimpArgs false

theorem finGo_said (ops : List Fo) : ∀ (f k : Nat) (sl : List Int), (finGo ops f k sl).said.length ≤ f
  | 0, k, sl => Nat.le_refl _
  | f + 1, k, sl => by
    unfold finGo
    cases h : ops[k]? with
    | none => exact Nat.zero_le _
    | some o =>
      have h1 := finGo_said ops f (finN o k sl) (finW o sl)
      have h2 := finS_len o
      dsimp only
      rw [List.length_append]
      omega
/-- what has been said of the objects from the j-th one on -/
structure OrdAt (w0 : World) (fs : List (List Fo)) (obs : List Ob) (wr : World) (j : Nat) (A3 : Option Addr) (c3 : Nat) (sd : List Int) (hd : Bool) (n : Nat) : Prop where
  ow : wr.ownsRow w0.heap.size 3 1 (.slice A3 sd.length c3) sd.length (sd.flatMap nCells)
  is : sd = ((todoD fs obs j).map (frOf fs obs)).flatMap (·.said) ∧ hd = ((todoD fs obs j).map (frOf fs obs)).any (·.held) ∧ n = (todoD fs obs j).length
  bd : n + j ≤ 8 ∧ sd.length ≤ 8 * n
  b : Below w0.heap.size w0 wr
set_option maxRecDepth 100000 in
set_option maxHeartbeats 8000000 in
theorem leaveOrder_walk (A0 : Option Addr) (c0 : Nat) (l0 : List FSl) (A1 : Option Addr) (c1 : Nat) (l1 : List Oj) (W : World) (hl0 : l0.length ≤ c0) (hc0 : c0 ≤ maxLen) (he0 : Cells W A0 (l0.flatMap fslCells)) (hq0 : ∀ e ∈ l0, FslOk W e) (hl1 : l1.length ≤ c1) (hc1 : c1 ≤ maxLen) (he1 : Cells W A1 (l1.flatMap jCells)) (hq1 : ∀ e ∈ l1, OjOk e) :
    Calls Tryz.prog 5 #[.slice A0 l0.length c0, .slice A1 l1.length c1] W fun r w' => r = .returned (.bool true) ∧ Below W.heap.size W w' := by
  obtain ⟨i0, hi0, hz0, hz1, hz2⟩ := info_parts infoU64
  obtain ⟨j0, hj0, hy0, hy1, hy2⟩ := info_parts infoInt
  have HI0 := Lib.hid (finsAt_in he0 hq0)
  have Hq0 := Lib.hid hq0
  have HJ1 := Lib.hid he1
  have Hq1 := Lib.hid hq1
  have Hln := Lib.hid (And.intro (Nat.le_trans hl0 hc0) (Nat.le_trans hl1 hc1))
  have l1I : (l1.length : Int) ≤ 9223372036854775807 := by have := Nat.le_trans hl1 hc1; unfold maxLen at this; omega
  clear hl0 hc0 he0 hq0 hl1 hc1 he1 hq1
  go_enter Tryz.func5, Tryz.ntmps5
  go_wp2_with fail
  refine (shown18_any _).mono ?_
  rintro r w1 ⟨rfl, hb⟩
  have HB := Lib.hid hb
  replace HI0 := Lib.hid (HI0.out.below hb)
  replace HJ1 := Lib.hid (Cells.below HJ1.out hb)
  clear hb
  go_wp2_with fail
  refine (fit_any A0 c0 l0 _ HI0.out (fun x hx o ho => ((Hq0.out x hx).o o ho).op) Hln.out.1 (fun x hx => Nat.le_trans (Hq0.out x hx).n.1 (Hq0.out x hx).n.2)).mono ?_
  rintro r w2 ⟨fA, fc, fl, rfl, hft, hb⟩
  have HFt := Lib.hid hft
  replace HJ1 := Lib.hid (Cells.below HJ1.out hb)
  replace HB := Lib.hid (below_only HB.out hb)
  have HBz := Lib.hid HB.out.size
  have HFs : Hid (fsL fl = fitL (fsL l0)) := Lib.hid hft.is
  have HFa : Hid (FinsAt w2 fA fl) := Lib.hid (hft.fins)
  clear hft hb HI0 Hq0
  go_wp2_with fail
  refine (laid_any ⟨fA, fl.length, fc⟩ A1 c1 l1 1 _ (by decide) HJ1.out Hq1.out Hln.out.2).mono ?_
  rintro r w3 ⟨p, b, X, q, d, rfl, hT, -, hb⟩
  have HT := Lib.hid hT
  replace HB := Lib.hid (below_only HB.out hb)
  have HOff : Hid (FinsOff fA fl b) := Lib.hid (HFt.out.off hT.low.2.1)
  replace HFa := Lib.hid (HFa.out.below hb)
  have HLw : Hid (w2.heap.size ≤ b ∧ W.heap.size ≤ b) := Lib.hid ⟨hT.low.2.1, Nat.le_trans HBz.out hT.low.2.1⟩
  replace HJ1 := Lib.hid (Cells.below HJ1.out hb)
  clear hT hb HFt
  have HI := Lib.hid (alIn_laid (fs := fsL fl) l1 HFs.out)
  have HF8 : Hid (fl.length ≤ 8) := Lib.hid (by have h9 := HI.out.fl; simpa [fsL] using h9)
  obtain ⟨k, Hk⟩ : ∃ k : Nat, Hid ((obsOf l1).length = k ∧ k = min l1.length 8) := ⟨_, Lib.hid ⟨rfl, obsOf_len l1⟩⟩
  have k8 : (k : Int) ≤ 8 := by have := Hk.out; omega
  have hmin : (if (8 : Int) < (l1.length : Int) then (8 : Int) else (l1.length : Int)) = (k : Int) := by have := Hk.out; split <;> omega
  have hkw : IntKind.i64.wrap ((k : Int) - 1) = (k : Int) - 1 := IntWalk.i64_in _ (by omega)
  go_wp2_with fail
  clear hmin
  go_loopw [9, 10, 11, 12] (fun vs vn vh vi wr => ∃ (j : Nat) (A3 : Option Addr) (c3 : Nat) (sd : List Int) (hd : Bool) (n : Nat), j ≤ k ∧ vs = .slice A3 sd.length c3 ∧ vn = .int .i64 n ∧ vh = .bool hd ∧ vi = .int .i64 ((j : Int) - 1) ∧ OrdAt w3 (fsL fl) (obsOf l1) wr j A3 c3 sd hd n) (fun _ _ _ vi _ => (intOf vi + 1).toNat)
  case atStart =>
    have he : todoD (fsL fl) (obsOf l1) k = [] := by rw [← Hk.out.1]; exact todoD_end _ _
    exact ⟨k, _, _, [], false, 0, Nat.le_refl _, rfl, rfl, rfl, rfl, ⟨own_empty (Nat.le_refl _) (row_new _ _ _), by rw [he]; exact ⟨rfl, rfl, rfl⟩, ⟨by have := Hk.out; omega, Nat.le_refl _⟩, (Below.refl _ _).alloc (Nat.le_refl _) _⟩⟩
  case round =>
    obtain ⟨j, A3, c3, sd, hd, n, hj, rfl, rfl, rfl, rfl, hO⟩ := hrel
    have HO := Lib.hid hO
    have hbd := hO.bd
    have n8 : (n : Int) ≤ 8 := by omega
    have n0 : (0 : Int) ≤ (n : Int) := by omega
    have s64 : sd.length ≤ 64 := by omega
    have Hs64 := Lib.hid s64
    have nw : IntKind.i64.wrap ((n : Int) + 1) = (n : Int) + 1 := IntWalk.i64_in _ (by omega)
    obtain ⟨w4, hw4⟩ : ∃ x, x = wr := ⟨_, rfl⟩
    subst hw4
    clear hO hbd s64
    by_cases hlt : 0 < j
    · obtain ⟨i, rfl⟩ : ∃ i, j = i + 1 := ⟨j - 1, by omega⟩
      rw [show (((i + 1 : Nat) : Int) - 1) = (i : Int) from by omega]
      have iN : i < l1.length := by have := Hk.out; omega
      have i8N : i < 8 := by have := Hk.out; omega
      obtain ⟨y, hy⟩ : ∃ y, l1[i]? = some y := ⟨_, List.getElem?_eq_getElem iN⟩
      have hob : (obsOf l1)[i]? = some (obOf y) := by unfold obsOf; rw [List.getElem?_map, List.getElem?_take, if_pos i8N, hy]; rfl
      have hyq := Hq1.out y (List.mem_of_getElem? hy)
      obtain ⟨ys, yh, yt, yd⟩ := y
      obtain ⟨⟨s0, s1⟩, ⟨h0, h1⟩, ⟨t0, t1⟩⟩ := hyq
      dsimp only at s0 s1 h0 h1 t0 t1
      obtain ⟨bl, ol, hlA, hbl, hlc⟩ := j_at HJ1.out (by omega)
      obtain ⟨hc0, hc1, hc2, hc3⟩ := hlc i _ hy
      have HJ : Hid (w3.cell? ⟨bl, ol + i * 4, none⟩ = some (.int .u8 ys) ∧ w3.cell? ⟨bl, ol + i * 4 + 1, none⟩ = some (.int .u8 yh) ∧ w3.cell? ⟨bl, ol + i * 4 + 2, none⟩ = some (.int .u8 yt) ∧ w3.cell? ⟨bl, ol + i * 4 + 3, none⟩ = some (.bool yd) ∧ bl < w3.heap.size) := Lib.hid ⟨hc0, hc1, hc2, hc3, hbl⟩
      have g0 := (HO.out.b.cell (p := ⟨bl, ol + i * 4, none⟩) hbl).trans hc0
      have g1 := (HO.out.b.cell (p := ⟨bl, ol + i * 4 + 1, none⟩) hbl).trans hc1
      have g2 := (HO.out.b.cell (p := ⟨bl, ol + i * 4 + 2, none⟩) hbl).trans hc2
      have g3 := (HO.out.b.cell (p := ⟨bl, ol + i * 4 + 3, none⟩) hbl).trans hc3
      have gz := Nat.lt_of_lt_of_le hbl HO.out.b.size
      subst hlA
      have Hob := Lib.hid hob
      have iL : (i : Int) < (l1.length : Int) := by omega
      have iI0 : (0 : Int) ≤ (i : Int) := by omega
      have iI8 : (i : Int) < 8 := by omega
      have iw : IntKind.i64.wrap ((i : Int) - 1) = (i : Int) - 1 := IntWalk.i64_in _ (by omega)
      obtain ⟨q, Hq⟩ : ∃ n : Nat, Hid (Oj.n ⟨ys, yh, yt, yd⟩ = n ∧ ys % 7 = (n : Int) ∧ n ≤ 6) := ⟨_, Lib.hid ⟨rfl, by unfold Oj.n; dsimp only; omega, Oj.n6 _⟩⟩
      obtain ⟨tg, Htg⟩ : ∃ n : Nat, Hid (Oj.tg ⟨ys, yh, yt, yd⟩ = n ∧ yt % 8 = (n : Int) ∧ n < 8) := ⟨_, Lib.hid ⟨rfl, by unfold Oj.tg; dsimp only; omega, Oj.t7 _⟩⟩
      have hsm : ys.tmod 7 = (q : Int) := by rw [Int.tmod_eq_emod_of_nonneg s0]; exact Hq.out.2.1
      have htm : yt.tmod 8 = (tg : Int) := by rw [Int.tmod_eq_emod_of_nonneg t0]; exact Htg.out.2.1
      have q6 : (q : Int) ≤ 6 := by have := Hq.out; omega
      have q0 : (0 : Int) ≤ (q : Int) := by omega
      have tg7 : (tg : Int) ≤ 7 := by have := Htg.out; omega
      have tg0 : (0 : Int) ≤ (tg : Int) := by omega
      obtain ⟨fn, Hfn⟩ : ∃ n : Nat, Hid (fl.length = n) := ⟨_, Lib.hid rfl⟩
      clear hlc hc0 hc1 hc2 hc3 hbl hob hy iN i8N hlt
      go_wp2_with fail
      refine (rfinOf_any fA fc fl tg _ (HFa.out.below HO.out.b) HF8.out Htg.out.2.2).mono ?_
      rintro r w5 ⟨rfl, rfl⟩
      obtain ⟨⟨pa, pc, pl⟩, HP⟩ : ∃ p, Hid (finOf fl tg = p) := ⟨_, Lib.hid rfl⟩
      rw [HP.out]
      have HPl : Hid (fsOf (fsL fl) (obOf ⟨ys, yh, yt, yd⟩).tg = pl) := Lib.hid (by
        have h9 := finOf_l fl tg
        rw [HP.out] at h9
        show fsOf (fsL fl) (Oj.tg ⟨ys, yh, yt, yd⟩) = pl
        rw [Htg.out.1]
        exact h9.symm)
      have HPc : Hid (Cells w5 pa (pl.flatMap foCells)) := Lib.hid (by have h9 := (HFa.out.below HO.out.b).of tg; rw [HP.out] at h9; exact h9)
      have HP8 : Hid (pl.length ≤ 8 ∧ ∀ o ∈ pl, FoOk o) := Lib.hid (by
        rw [← HPl.out]
        refine ⟨HI.out.f8 _, fun o ho => ?_⟩
        by_cases he : fsOf (fsL fl) (obOf ⟨ys, yh, yt, yd⟩).tg = []
        · rw [he] at ho; cases ho
        · exact HI.out.fok _ (fsOf_mem he) o ho)
      dsimp only
      have HTd := Lib.hid (todoD_step (fs := fsL fl) Hob.out)
      have HNo : Hid (isTodo (fsL fl) (obOf ⟨ys, yh, yt, yd⟩) = false → OrdAt w3 (fsL fl) (obsOf l1) w5 i A3 c3 sd hd n) := Lib.hid (fun hno => by
        have h9 := HTd.out
        rw [hno] at h9
        simp only [Bool.false_eq_true, if_false, List.append_nil] at h9
        exact ⟨HO.out.ow, by rw [h9]; exact HO.out.is, ⟨by have := HO.out.bd; omega, HO.out.bd.2⟩, HO.out.b⟩)
      cases yd with
      | true =>
        have hO9 := HNo.out (by unfold isTodo; rfl)
        go_wp2_with fail
        go_roundw
        case rel => exact ⟨i, A3, c3, sd, hd, n, by omega, rfl, rfl, rfl, by go_num, hO9⟩
        case measure => simp [intOf] <;> omega
      | false =>
        by_cases hp0 : pl.length = 0
        · have hO9 := HNo.out (by
            have hp1 : pl = [] := List.eq_nil_of_length_eq_zero hp0
            unfold isTodo
            rw [HPl.out, hp1]
            rfl)
          have hpI : (pl.length : Int) = 0 := by omega
          rw [hp0]
          clear hpI
          go_wp2_with fail
          go_roundw
          case rel => exact ⟨i, A3, c3, sd, hd, n, by omega, rfl, rfl, rfl, by go_num, hO9⟩
          case measure => simp [intOf] <;> omega
        · have hp1 : ¬ ((pl.length : Int) = 0) := by omega
          have HYes : Hid (isTodo (fsL fl) (obOf ⟨ys, yh, yt, false⟩) = true) := Lib.hid (by
            unfold isTodo
            rw [HPl.out]
            cases pl with
            | nil => exact absurd rfl hp0
            | cons a l => rfl)
          rw [HYes.out, if_pos rfl] at HTd
          have hp2 : ((pl.length : Int) == 0) = false := by simpa using hp1
          clear HNo hp0 hp1
          go_wp2_with fail
          clear g2 g3
          go_loopw [14, 15] (fun v t wz => ∃ (u : Nat) (Aq : Option Addr) (cq : Nat), u ≤ q ∧ v = .slice Aq u cq ∧ t = .int .i64 u ∧ wz.ownsRow w5.heap.size 36 1 (.slice Aq u cq) u (((List.range u).map (hasB yh)).flatMap uCells) ∧ Below w5.heap.size w5 wz) (fun _ t _ => (q - intOf t).toNat)
          case atStart => exact ⟨0, _, _, by omega, rfl, rfl, own_empty (Nat.le_refl _) (row_new _ _ _), (Below.refl _ _).alloc (Nat.le_refl _) _⟩
          case round =>
            obtain ⟨u, Aq, cq, hu, rfl, rfl, hown, hBz⟩ := hrel
            have Hown := Lib.hid hown
            have HBz := Lib.hid hBz
            have u0 : (0 : Int) ≤ (u : Int) := by omega
            have u6 : (u : Int) ≤ 6 := by omega
            replace g0 := (hBz.cell (p := ⟨bl, ol + i * 4, none⟩) gz).trans g0
            replace g1 := (hBz.cell (p := ⟨bl, ol + i * 4 + 1, none⟩) gz).trans g1
            replace gz := Nat.lt_of_lt_of_le gz hBz.size
            clear hown hBz
            by_cases hut : u < q
            · have uI : (u : Int) < (q : Int) := by omega
              obtain ⟨bt, Hbt⟩ : ∃ x : Int, Hid (yh / 2 ^ u % 2 = x ∧ 0 ≤ x ∧ x ≤ 1) := ⟨_, Lib.hid ⟨rfl, by omega, by omega⟩⟩
              have hbit : bits .and .u8 (yh / 2 ^ u) 1 = bt := by rw [has_bits h0 h1]; exact Hbt.out.1
              obtain ⟨_, bt0, bt1⟩ := Hbt.out
              have hbw1 : IntKind.u64.wrap bt = bt := by rw [IntKind.wrap_u64]; omega
              have hbw2 : IntKind.u64.wrap (bt * 7) = bt * 7 := by rw [IntKind.wrap_u64]; omega
              have uw : IntKind.i64.wrap ((u : Int) + 1) = (u : Int) + 1 := IntWalk.i64_in _ (by omega)
              have HSn : Hid (((List.range (u + 1)).map (hasB yh)).flatMap uCells = ((List.range u).map (hasB yh)).flatMap uCells ++ [.int .u64 (bt * 7)]) := Lib.hid (by
                have e9 : hasB yh u = bt * 7 := by unfold hasB; rw [Hbt.out.1]; omega
                rw [List.range_succ, List.map_append, List.flatMap_append]
                simp [e9])
              go_upto_region 17 with (at_builtin; refine wpList_append_any _ rfl (.tmp 78) (.tmp 89) _ (by rfl) w5.heap.size 36 i0 _ 1 8 Tryz.underlying71 hi0 hz0 hz1 hz2 rfl (by omega) (.slice Aq u cq) u (((List.range u).map (hasB yh)).flatMap uCells) (by rfl) (own_below Hown.out (by go_grown)) (some ⟨wr.heap.size, 0, none⟩) 1 1 [.int .u64 (bt * 7)] (by rfl) rfl (cells_of (row_new _ _ _)) (by intro v hv; simp at hv; subst hv; rfl) (by simp only [maxLen]; omega) (by omega) (by simp; have := HBz.out.size; omega) ?_; intro v6 w6 hown6 hg6 hat6)
              rw [← HSn.out] at hown6
              obtain ⟨A6, c6, rfl, -, -, -⟩ := own_slice hown6
              have B6 := Lib.hid (Below.grown (below_only HBz.out (by go_grown)) hg6 (by simp; have := HBz.out.size; omega) (fun i hi => own_ge Hown.out i hi))
              go_wp2_with fail
              go_roundw
              case rel => exact ⟨u + 1, A6, c6, by omega, rfl, by go_num, hown6, B6.out⟩
              case measure => simp [intOf] <;> omega
            · have uI : ¬ ((u : Int) < (q : Int)) := by omega
              obtain rfl : u = q := by omega
              have HSl : Hid ((obOf ⟨ys, yh, yt, false⟩).sl = (List.range u).map (hasB yh)) := Lib.hid (by unfold obOf; rw [Hq.out.1])
              have HSln : Hid (((List.range u).map (hasB yh)).length = u) := Lib.hid (by simp)
              have HSc : Hid (Cells wr Aq (((List.range u).map (hasB yh)).flatMap uCells)) := Lib.hid (by
                obtain ⟨A9, c9, e9, -, -, h9⟩ := own_slice Hown.out
                injection e9 with e1 e2 e3
                subst e1
                exact h9)
              have HRn := Lib.hid (rfinRun_any pa pc pl Aq cq ((List.range u).map (hasB yh)) wr (Cells.below HPc.out HBz.out) HP8.out.1 HP8.out.2 HSc.out (by rw [HSln.out]; omega))
              rw [HSln.out] at HRn
              clear hut Hown g1
              go_wp2_with fail
              clear g0 gz uI
              refine HRn.out.mono ?_
              rintro r w6 ⟨A7, c7, A8, c8, rfl, -, h8, -, f8, hb⟩
              obtain ⟨fr, Hfr⟩ : ∃ x, Hid (fin8 pl 0 ((List.range u).map (hasB yh)) = x) := ⟨_, Lib.hid rfl⟩
              rw [Hfr.out] at h8 ⊢
              have HFr : Hid (frOf (fsL fl) (obsOf l1) i = fr) := Lib.hid (by unfold frOf; rw [Hob.out]; show fin8 (fsOf (fsL fl) (obOf ⟨ys, yh, yt, false⟩).tg) 0 (obOf ⟨ys, yh, yt, false⟩).sl = fr; rw [HPl.out, HSl.out]; exact Hfr.out)
              obtain ⟨frs, frsaid, frh, frn⟩ := fr
              dsimp only at h8 ⊢
              have H8 := Lib.hid h8
              have HS8 : Hid (frsaid.length ≤ 8) := Lib.hid (by have h9 := finGo_said pl 8 0 ((List.range u).map (hasB yh)); have h10 := Hfr.out; unfold fin8 at h10; rw [h10] at h9; exact h9)
              have hb5 : Below w5.heap.size w5 w6 := below_only HBz.out hb
              have HBb := Lib.hid hb5
              have HOwn : Hid (w6.ownsRow w3.heap.size 3 1 (.slice A3 sd.length c3) sd.length (sd.flatMap nCells)) := Lib.hid (own_below HO.out.ow hb5)
              clear h8 f8 hb hb5 HRn
              go_upto_region 21 with (at_builtin; refine wpList_append_any _ rfl (.tmp 99) (.tmp 100) _ (by rfl) w3.heap.size 3 j0 _ 1 8 Tryz.underlying38 hj0 hy0 hy1 hy2 rfl (by omega) (.slice A3 sd.length c3) sd.length (sd.flatMap nCells) (by rfl) HOwn.out A8 frsaid.length c8 (frsaid.flatMap nCells) (by rfl) (flat_length nCells 1 (fun _ => rfl) _) H8.out (n_one _) (by have := Hs64.out; have := HS8.out; simp only [maxLen]; omega) (by have := Hs64.out; have := HS8.out; omega) (Nat.le_trans HO.out.b.size HBb.out.size) ?_; intro v9 w9 hown9 hg9 hat9)
              obtain ⟨A9, c9, rfl, -, -, -⟩ := own_slice hown9
              have hN : OrdAt w3 (fsL fl) (obsOf l1) w9 i A9 c9 (sd ++ frsaid) (hd || frh) (n + 1) := by
                refine ⟨by rw [List.length_append, List.flatMap_append]; exact hown9, ?_, ⟨by have := HO.out.bd; omega, by rw [List.length_append]; have := HO.out.bd; have := HS8.out; omega⟩, Below.grown (below_only HO.out.b HBb.out) hg9 (Nat.le_trans HO.out.b.size HBb.out.size) (fun i hi => own_ge HOwn.out i hi)⟩
                obtain ⟨e1, e2, e3⟩ := HO.out.is
                rw [HTd.out, List.map_append, List.flatMap_append, List.any_append, List.length_append, ← e1, ← e2, ← e3]
                simp [HFr.out]
              have HNN := Lib.hid hN
              have HLs : Hid ((sd ++ frsaid).length = sd.length + frsaid.length) := Lib.hid List.length_append
              clear hN hown9 hg9 hat9
              cases hd
              all_goals
                go_wp2_with fail
                go_roundw
                case rel => exact ⟨i, A9, c9, sd ++ frsaid, _, n + 1, by omega, by rw [HLs.out], by go_num, rfl, by go_num, HNN.out⟩
                case measure => simp [intOf] <;> omega
    · obtain rfl : j = 0 := by omega
      rw [show (((0 : Nat) : Int) - 1) = -1 from rfl]
      obtain ⟨e1, e2, e3⟩ := HO.out.is
      rw [todoD_all] at e1 e2 e3
      obtain ⟨f1, f2⟩ := laFa_is (fsL fl) (obsOf l1)
      have HE : Hid ((laFa (fsL fl) (obsOf l1)).said = sd ∧ (laFa (fsL fl) (obsOf l1)).held = hd ∧ (todoR (fsL fl) (obsOf l1)).length = n) := Lib.hid ⟨by rw [f1, e1], by rw [f2, e2], e3.symm⟩
      have HB4 := Lib.hid (below_only HB.out HO.out.b)
      have HL4 : Hid (w3.heap.size ≤ w4.heap.size) := Lib.hid HO.out.b.size
      have hAb : ∀ z, A3 = some z → w3.heap.size ≤ z.block := fun z hz => own_ge HO.out.ow z.block (by rw [hz]; rfl)
      have HSd : Hid (Cells w4 A3 (sd.flatMap nCells) ∧ ∀ z, A3 = some z → w3.heap.size ≤ z.block) := Lib.hid (by
        refine ⟨?_, hAb⟩
        obtain ⟨A9, c9, e9, -, -, h9⟩ := own_slice HO.out.ow
        injection e9 with e1 e2 e3
        subst e1
        exact h9)
      have HZb : Hid (b < w3.heap.size) := Lib.hid (lt_of_heap HT.out.a.row)
      have HA4 : Hid (Arn w4 p b (wsL (c18 1) (8 * (used (obsOf l1) : Int)) 99 (extE (obsOf l1)))) := Lib.hid (HT.out.a.below HO.out.b)
      have HF4 : Hid (FinsAt w4 fA fl) := Lib.hid (HFa.out.below HO.out.b)
      clear e1 e2 e3 f1 f2 HO HB HT HFa hAb hj hlt
      go_wp2_with fail
      refine (alone_any fl (obsOf l1) (c18 1) ⟨3, 0, 0, 4⟩ fA fc p b _ HI.out HA4.out HF4.out HOff.out).mono ?_
      rintro r w5 ⟨ch, T, R, rfl, hal, hK⟩
      have hE := hal.ended HI.out
      have HDn : Hid (R.done = true ∧ R.code = (if hd = true then 25 else 0) ∧ R.an = (n : Int)) := Lib.hid ⟨hE.dn, by rw [hE.co, HE.out.2.1], by rw [hE.an, HE.out.2.2]⟩
      have HSa : Hid (R.asaid.n = sd.length ∧ Cells w5 R.asaid.a (sd.flatMap nCells)) := Lib.hid (by have h9 := hE.sa; rw [HE.out.1] at h9; exact ⟨h9.n, h9.e⟩)
      have HS5 : Hid (Cells w5 A3 (sd.flatMap nCells)) := Lib.hid (Cells.kept HSd.out.1 hK (fun z hz => by have h1 := HSd.out.2 z hz; have h2 := HZb.out; simp only [List.mem_singleton]; omega))
      replace HB4 := Lib.hid (Keep.under HB4.out hK (by have := HB4.out.size; omega) (by simp; exact HLw.out.2))
      clear hal hK hE HA4 HF4 HSd HZb HL4
      go_upto_region 24 with (refine wpList_store_row rfl 43 (.tmp 20) (.tmp 112) rfl w5.heap.size R.arr rfl rfl 43 ZRun (row_new _ _ _) infoRun rfl (Rn.one _) ?_; (try simp only [Act.put]); (try simp only [List.setIfInBounds_toArray]); (try simp only [List.set_cons_succ]); (try simp only [List.set_cons_zero]))
      refine alloc_set' w5 _ _ _ ?_
      intro w6 hr hb
      have c21 : w6.cell? ⟨w5.heap.size, 21, none⟩ = some (.bool true) := by rw [row_cell hr, ← HDn.out.1]; rfl
      have c23 : w6.cell? ⟨w5.heap.size, 23, none⟩ = some (.int .i64 (if hd = true then 25 else 0)) := by rw [row_cell hr, ← HDn.out.2.1]; rfl
      have c24 : w6.cell? ⟨w5.heap.size, 24, none⟩ = some (.int .i64 (n : Int)) := by rw [row_cell hr, ← HDn.out.2.2]; rfl
      have c25 : w6.cell? ⟨w5.heap.size, 25, none⟩ = some (.slice R.asaid.a sd.length R.asaid.c) := by rw [row_cell hr, ← HSa.out.1]; rfl
      have z6 := lt_of_heap hr
      obtain ⟨g6, Hg6⟩ : ∃ x, Hid (w5.heap.size = x) := ⟨_, Lib.hid rfl⟩
      have HC6 : Hid (w6.cell? ⟨g6, 21, none⟩ = some (.bool true) ∧ w6.cell? ⟨g6, 23, none⟩ = some (.int .i64 (if hd = true then 25 else 0)) ∧ w6.cell? ⟨g6, 24, none⟩ = some (.int .i64 (n : Int)) ∧ g6 < w6.heap.size) := Lib.hid (by rw [← Hg6.out]; exact ⟨c21, c23, c24, z6⟩)
      rw [Hg6.out] at c25 z6 ⊢
      have HSa6 := Lib.hid (Cells.below HSa.out.2 hb)
      replace HS5 := Lib.hid (Cells.below HS5.out hb)
      replace HB4 := Lib.hid (below_only HB4.out hb)
      clear hr hb c21 c23 c24 HSa
      go_wp2_with fail
      clear c25 z6
      refine (ints_refl R.asaid.a A3 R.asaid.c c3 sd _ (by have := Hs64.out; omega) HSa6.out HS5.out).mono ?_
      rintro r w7 ⟨rfl, hb⟩
      replace HB4 := Lib.hid (below_only HB4.out hb)
      obtain ⟨c21, c23, c24, z6⟩ := HC6.out
      replace c21 := (hb.cell (p := ⟨g6, 21, none⟩) z6).trans c21
      replace c23 := (hb.cell (p := ⟨g6, 23, none⟩) z6).trans c23
      replace c24 := (hb.cell (p := ⟨g6, 24, none⟩) z6).trans c24
      replace z6 := Nat.lt_of_lt_of_le z6 hb.size
      clear hb HC6 HSa6 HS5 Hg6 HDn
      cases hd
      · simp only [Bool.false_eq_true, if_false] at c23
        go_wp2_with fail
        go_ret
        exact ⟨rfl, HB4.out⟩
      · simp only [if_true] at c23
        go_wp2_with fail
        go_ret
        exact ⟨rfl, HB4.out⟩
end Go.Proofs.YtbijaloeilnjoaaGreat
