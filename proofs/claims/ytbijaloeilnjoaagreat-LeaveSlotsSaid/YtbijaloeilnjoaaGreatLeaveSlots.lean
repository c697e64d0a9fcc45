/- Layer 18: the document's finalizers: Of, Step, Run. (Printed by gen_rfin.py.) Layer 18 in plain terms: one object whose finalizer may hold, behind others that have none. Layer 18: the walk of LeaveSlots. (Printed by gen_ls18.py.) -/
import Derived.Test.YtbijaloeilnjoaaGreatLvS
import Derived.Test.YtbijaloeilnjoaaGreatLO
import Derived.Test.YtbijaloeilnjoaaGreatLvC
import Derived.Test.YtbijaloeilnjoaaGreatLw
namespace Go.Proofs.YtbijaloeilnjoaaGreat
open Go.RowKit
set_option linter.unusedVariables false
set_option linter.unusedSimpArgs false

theorem rfinOf_any (A : Option Addr) (c : Nat) (fl : List FSl) (tg : Nat) (w : World) (h : FinsAt w A fl) (hl : fl.length ≤ 8) (ht : tg < 8) :
  Calls Tryz.prog 25 #[.slice A fl.length c, .int .i64 tg] w fun r w' => r = .returned (.slice (finOf fl tg).a (finOf fl tg).l.length (finOf fl tg).c) ∧ w' = w := by
 have hlI : (fl.length : Int) ≤ 8 := by omega
 have hl0 : (0 : Int) ≤ (fl.length : Int) := by omega
 have htI : (tg : Int) < 8 := by omega
 have ht0 : (0 : Int) ≤ (tg : Int) := by omega
 have HF := Lib.hid h
 clear h
 go_enter Tryz.func25, Tryz.ntmps25
 by_cases hlt : tg < fl.length
 ·obtain ⟨x, hx⟩ : ∃ x, fl[tg]? = some x := ⟨_, List.getElem?_eq_getElem hlt⟩
  obtain ⟨b, off, rfl, hbl, hc⟩ := HF.out.at_ (by omega)
  have q0 := hc tg x hx
  have e : finOf fl tg = x := by unfold finOf; rw [hx]; rfl
  have HE := Lib.hid e
  have hltI : (tg : Int) < (fl.length : Int) := by omega
  clear hc hx e
  go_wp2_with fail
  go_ret
  exact ⟨by rw [HE.out]; rfl, rfl⟩
 ·have e : finOf fl tg = ⟨none, 0, []⟩ := by unfold finOf; rw [List.getElem?_eq_none (by omega)]; rfl
  have HE := Lib.hid e
  have hltI : ¬ ((tg : Int) < (fl.length : Int)) := by omega
  have hltI2 : (fl.length : Int) ≤ (tg : Int) := by omega
  clear e hlt
  go_wp2_with fail
  go_ret
  exact ⟨by rw [HE.out]; rfl, rfl⟩
set_option maxRecDepth 100000 in
set_option maxHeartbeats 4000000 in
theorem rfinStep_any (A : Option Addr) (c : Nat) (ops : List Fo) (k : Nat) (B : Option Addr) (cB : Nat) (sl : List Int) (w : World) (o : Fo) (ho : Cells w A (ops.flatMap foCells)) (hl : ops.length ≤ 8) (hk : ops[k]? = some o) (ok : FoOk o) (hs : Cells w B (sl.flatMap uCells)) (hn : sl.length ≤ 6) :
  Calls Tryz.prog 59 #[.slice A ops.length c, .int .i64 k, .slice B sl.length cB] w fun r w' => ∃ A2 c2 A3 c3, r = .returned (.tuple #[.int .i64 (finN o k sl : Nat), .slice A2 sl.length c2, .slice A3 (finS o).length c3, .bool (finH o)]) ∧ Cells w' A2 ((finW o sl).flatMap uCells) ∧ Cells w' A3 ((finS o).flatMap nCells) ∧ (∀ z, A2 = some z → w.heap.size ≤ z.block) ∧ (∀ z, A3 = some z → w.heap.size ≤ z.block) ∧ Below w.heap.size w w' := by
 obtain ⟨i0, hi0, hz0, hz1, hz2⟩ := info_parts infoU64
 have hkl := (List.getElem?_eq_some_iff.1 hk).1
 have klI : (k : Int) < (ops.length : Int) := by omega
 have k0I : (0 : Int) ≤ (k : Int) := by omega
 have opI : (ops.length : Int) ≤ 8 := by omega
 have hkw : IntKind.i64.wrap ((k : Int) + 1) = (k : Int) + 1 := IntWalk.i64_in _ (by omega)
 obtain ⟨b, off, rfl, hbl, hc⟩ := fo_at ho (by omega)
 obtain ⟨e0, e1, e2⟩ := hc k o hk
 have HE := Lib.hid (And.intro e0 (And.intro e1 e2))
 have Hbl := Lib.hid hbl
 have HN := Lib.hid hn
 have hs' := hs
 have nI6 : (sl.length : Int) ≤ 6 := by omega
 have nI0 : (0 : Int) ≤ (sl.length : Int) := by omega
 clear ho hk hc e0 e1 e2 hbl hkl hl hn
 go_enter Tryz.func59, Tryz.ntmps59
 go_upto_region 2 with (at_builtin; refine wpList_append_any _ rfl _ _ _ rfl w.heap.size 36 i0 _ 1 8 Tryz.underlying71 hi0 hz0 hz1 hz2 rfl (by omega) (.slice (some ⟨w.heap.size, 0, none⟩) 0 0) 0 [] rfl (World.ownsRow_lit (e := 36) _ _ 0 (Nat.le_refl _) (by simp [maxLen]) rfl) B sl.length cB (sl.flatMap uCells) rfl (flat_length uCells 1 (fun _ => rfl) sl) (Cells.alloc hs' _) (u_one sl) (by have := HN.out; simp only [maxLen]; omega) (by have := HN.out; omega) (by simp) ?_; intro v1 w1 hown hg hat; rw [List.nil_append, Nat.zero_add] at hown; have HB0 := Lib.hid (show Below w.heap.size w w1 from ((Below.refl _ _).alloc (Nat.le_refl _) _).grown hg (by simp) (by simp [Value.ownBlock])); obtain ⟨A1, c1, rfl, hfar, hsl⟩ := slOk_of_own hown; have hup := own_lt hown; clear hown hg hat)
 obtain ⟨oo, oa, oq⟩ := o
 obtain ⟨e0, e1, e2⟩ := HE.out
 dsimp only at e0 e1 e2
 replace e0 := (HB0.out.cell (p := ⟨b, off + k * 3, none⟩) Hbl.out).trans e0
 replace e1 := (HB0.out.cell (p := ⟨b, off + k * 3 + 1, none⟩) Hbl.out).trans e1
 replace e2 := (HB0.out.cell (p := ⟨b, off + k * 3 + 2, none⟩) Hbl.out).trans e2
 have zb : b < w1.heap.size := Nat.lt_of_lt_of_le Hbl.out HB0.out.size
 have HSl0 := Lib.hid hsl
 have HF := Lib.hid hfar
 have HFu := Lib.hid hup
 obtain ⟨a, rfl⟩ : ∃ a : Nat, oa = (a : Int) := ⟨oa.toNat, by have := ok.a; dsimp only at this; omega⟩
 obtain ⟨q, rfl⟩ : ∃ q : Nat, oq = (q : Int) := ⟨oq.toNat, by have := ok.b; dsimp only at this; omega⟩
 have a0 : (0 : Int) ≤ (a : Int) := by omega
 have a63 : (a : Int) ≤ 63 := ok.a.2
 have q0 : (0 : Int) ≤ (q : Int) := by omega
 have q7 : (q : Int) ≤ 7 := ok.b.2
 have hop : oo = 0 ∨ oo = 1 ∨ oo = 2 ∨ oo = 3 ∨ oo = 4 := by have := ok.op; dsimp only at this; omega
 have Hok := Lib.hid ok
 have hkw2 : IntKind.i64.wrap ((k : Int) + 1 + (q : Int)) = (k : Int) + 1 + (q : Int) := IntWalk.i64_in _ (by omega)
 clear hsl hfar hup hs hs' HE ok
 go_upto_region 5 with fail
 refine one_row w1 _ _ ?_
 intro w2 hr hb
 clear e0 e1 e2 zb
 obtain ⟨g, Hg⟩ : ∃ x, Hid (x = w1.heap.size) := ⟨_, Lib.hid rfl⟩
 rw [← Hg.out] at hr ⊢
 have HB := Lib.hid (below_only HB0.out hb)
 have HSl : Hid (SlOk w2 g A1 sl) := Lib.hid (HSl0.out.imp id fun ⟨bs, cur, h⟩ => ⟨bs, cur, ⟨h.a, row_below h.row hb, h.at_⟩, by have := lt_of_heap h.row; have := Hg.out; omega⟩)
 have HR := Lib.hid hr
 obtain ⟨y0, y1, y2, _, _, _⟩ := box3 hr
 have zy := lt_of_heap hr
 clear hr hb HSl0 HB0
 have HC : Hid (Cells w2 A1 (sl.flatMap uCells)) := Lib.hid (SlOk.cells HSl.out)
 rcases hop with rfl | rfl | rfl | rfl | rfl
 ·go_wp2_with fail
  go_region
  all_goals
   go_wp2_with fail
   refine bodyPost_ret (results_tmp4 rfl _ _ _) rfl ?_
   refine ⟨A1, c1, some ⟨w2.heap.size, 0, none⟩, 1, by simp [finN, finS, finH], ?_, ?_, HF.out, fun z hz => (by injection hz with hz; subst hz; exact HB.out.size), ?_⟩
   ·exact Cells.below (w := w2) HC.out (by go_grown)
   ·exact cells_of (row_new _ _ _)
   ·exact below_only HB.out (by go_grown)
 ·by_cases hlt : a < sl.length
  ·have hW : Hid (finW ⟨1, (a : Int), (q : Int)⟩ sl = sl.set a 0) := Lib.hid (by simp [finW])
   rcases HSl.out with h0 | ⟨bs, cur, h, hne⟩
   ·rw [h0] at hlt; simp at hlt
   have hltI : (a : Int) < (sl.length : Int) := by omega
   have HSB := Lib.hid h
   have Hne := Lib.hid hne
   have hne1 : ¬ bs = g := hne
   have hne2 : ¬ g = bs := fun e => hne e.symm
   have hA := h.a
   subst hA
   have fa := row_frozen h.row a
   obtain ⟨xa, hxa⟩ : ∃ x, sl[a]? = some x := ⟨_, List.getElem?_eq_getElem hlt⟩
   have ca : w2.cell? ⟨bs, a, none⟩ = some (.int .u64 xa) := by rw [row_cell h.row]; exact h.at_ a xa hxa
   have za := lt_of_heap h.row
   have Hlt := Lib.hid hlt
   clear hxa h hne hlt
   go_wp2_with fail
   go_region
   all_goals
    go_wp2_with fail
    refine bodyPost_ret (results_tmp4 rfl _ _ _) rfl ?_
    have h2 := row_set (i := a) HSB.out.row (.int .u64 0)
    have hk := ((Keep.refl [bs] w2).setCell (p := ⟨bs, a, none⟩) (.inl (by simp)) (.int .u64 0)).drew
    refine ⟨_, c1, none, 0, by simp [finN, finS, finH], ?_, Cells.nil, HF.out, fun z hz => (by cases hz), ?_⟩
    ·rw [hW.out]
     exact SlOk.cells (g := g) (.inr ⟨bs, _, HSB.out.set h2, Hne.out⟩)
    ·have h9 := Keep.under HB.out hk HB.out.size (by simp; exact HF.out _ rfl)
     first | exact h9 | exact h9.drew
  ·have hltI : ¬ ((a : Int) < (sl.length : Int)) := by omega
   have hltI2 : (sl.length : Int) ≤ (a : Int) := by omega
   have hW : Hid (finW ⟨1, (a : Int), (q : Int)⟩ sl = sl) := Lib.hid (by simp only [finW, if_true]; rw [List.set_eq_of_length_le (by simp; omega)])
   clear hlt
   go_wp2_with fail
   go_region
   all_goals
    go_wp2_with fail
    refine bodyPost_ret (results_tmp4 rfl _ _ _) rfl ?_
    exact ⟨A1, c1, none, 0, by simp [finN, finS, finH], by rw [hW.out]; exact HC.out, Cells.nil, HF.out, fun z hz => (by cases hz), by first | exact HB.out | exact HB.out.drew⟩
 ·by_cases hlt2 : a < sl.length ∧ q < sl.length
  ·obtain ⟨hlt, hltb⟩ := hlt2
   rcases HSl.out with h0 | ⟨bs, cur, h, hne⟩
   ·rw [h0] at hlt; simp at hlt
   have hltI : (a : Int) < (sl.length : Int) := by omega
   have HSB := Lib.hid h
   have Hne := Lib.hid hne
   have hne1 : ¬ bs = g := hne
   have hne2 : ¬ g = bs := fun e => hne e.symm
   have hA := h.a
   subst hA
   have fa := row_frozen h.row a
   obtain ⟨xa, hxa⟩ : ∃ x, sl[a]? = some x := ⟨_, List.getElem?_eq_getElem hlt⟩
   have ca : w2.cell? ⟨bs, a, none⟩ = some (.int .u64 xa) := by rw [row_cell h.row]; exact h.at_ a xa hxa
   have za := lt_of_heap h.row
   have hltIb : (q : Int) < (sl.length : Int) := by omega
   obtain ⟨xb, hxb⟩ : ∃ x, sl[q]? = some x := ⟨_, List.getElem?_eq_getElem hltb⟩
   have cb : w2.cell? ⟨bs, q, none⟩ = some (.int .u64 xb) := by rw [row_cell h.row]; exact h.at_ q xb hxb
   have hW : Hid (finW ⟨2, (a : Int), (q : Int)⟩ sl = sl.set a xb) := Lib.hid (by simp [finW, hxb])
   have Hlt := Lib.hid hlt
   clear hxa hxb h hne hlt hltb
   go_wp2_with fail
   go_region
   all_goals
    go_wp2_with fail
    go_region
    all_goals
     go_wp2_with fail
     refine bodyPost_ret (results_tmp4 rfl _ _ _) rfl ?_
     have h2 := row_set (i := a) HSB.out.row (.int .u64 xb)
     have hk := ((Keep.refl [bs] w2).setCell (p := ⟨bs, a, none⟩) (.inl (by simp)) (.int .u64 xb)).drew
     refine ⟨_, c1, none, 0, by simp [finN, finS, finH], ?_, Cells.nil, HF.out, fun z hz => (by cases hz), ?_⟩
     ·rw [hW.out]
      exact SlOk.cells (g := g) (.inr ⟨bs, _, HSB.out.set h2, Hne.out⟩)
     ·have h9 := Keep.under HB.out hk HB.out.size (by simp; exact HF.out _ rfl)
      first | exact h9 | exact h9.drew
  ·have hW : Hid (finW ⟨2, (a : Int), (q : Int)⟩ sl = sl) := Lib.hid (by
    have e : (2 : Int) ≠ 1 := by omega
    simp only [finW, if_neg e, if_true, Int.toNat_natCast]
    by_cases hb9 : q < sl.length
    ·rw [List.getElem?_eq_getElem hb9]
     dsimp only
     rw [List.set_eq_of_length_le (by omega)]
    ·rw [List.getElem?_eq_none (by omega)])
   by_cases hlt : a < sl.length
   ·have hltI : (a : Int) < (sl.length : Int) := by omega
    have hltIb : ¬ ((q : Int) < (sl.length : Int)) := by omega
    clear hlt hlt2
    go_wp2_with fail
    go_region
    all_goals
     go_wp2_with fail
     refine bodyPost_ret (results_tmp4 rfl _ _ _) rfl ?_
     exact ⟨A1, c1, none, 0, by simp [finN, finS, finH], by rw [hW.out]; exact HC.out, Cells.nil, HF.out, fun z hz => (by cases hz), by first | exact HB.out | exact HB.out.drew⟩
   ·have hltI : ¬ ((a : Int) < (sl.length : Int)) := by omega
    clear hlt hlt2
    go_wp2_with fail
    go_region
    all_goals
     go_wp2_with fail
     refine bodyPost_ret (results_tmp4 rfl _ _ _) rfl ?_
     exact ⟨A1, c1, none, 0, by simp [finN, finS, finH], by rw [hW.out]; exact HC.out, Cells.nil, HF.out, fun z hz => (by cases hz), by first | exact HB.out | exact HB.out.drew⟩
 ·have hW : Hid (finW ⟨3, (a : Int), (q : Int)⟩ sl = sl) := Lib.hid (by simp [finW])
  by_cases hlt : a < sl.length
  ·rcases HSl.out with h0 | ⟨bs, cur, h, hne⟩
   ·rw [h0] at hlt; simp at hlt
   have hltI : (a : Int) < (sl.length : Int) := by omega
   have HSB := Lib.hid h
   have Hne := Lib.hid hne
   have hne1 : ¬ bs = g := hne
   have hne2 : ¬ g = bs := fun e => hne e.symm
   have hA := h.a
   subst hA
   have fa := row_frozen h.row a
   obtain ⟨xa, hxa⟩ : ∃ x, sl[a]? = some x := ⟨_, List.getElem?_eq_getElem hlt⟩
   have ca : w2.cell? ⟨bs, a, none⟩ = some (.int .u64 xa) := by rw [row_cell h.row]; exact h.at_ a xa hxa
   have za := lt_of_heap h.row
   have Hxa := Lib.hid hxa
   by_cases hx0 : xa = 0
   ·subst hx0
    have HNz : Hid (((finN ⟨3, (a : Int), (q : Int)⟩ k sl : Nat) : Int) = (k : Int) + 1 + (q : Int)) := Lib.hid (by simp [finN, Hxa.out])
    clear hxa h hne hlt
    go_wp2_with fail
    refine bodyPost_ret (results_tmp4 rfl _ _ _) rfl ?_
    exact ⟨some ⟨bs, 0, none⟩, c1, none, ⟨0, by simp [finS, finH, HNz.out]⟩, by rw [hW.out]; exact HC.out, Cells.nil, HF.out, fun z hz => (by cases hz), by first | exact HB.out | exact HB.out.drew⟩
   ·have HNz : Hid (((finN ⟨3, (a : Int), (q : Int)⟩ k sl : Nat) : Int) = (k : Int) + 1) := Lib.hid (by simp [finN, Hxa.out, hx0])
    clear hxa h hne hlt
    go_wp2_with fail
    go_region
    all_goals
     go_wp2_with fail
     refine bodyPost_ret (results_tmp4 rfl _ _ _) rfl ?_
     exact ⟨some ⟨bs, 0, none⟩, c1, none, 0, by simp [finS, finH, HNz.out], by rw [hW.out]; exact HC.out, Cells.nil, HF.out, fun z hz => (by cases hz), by first | exact HB.out | exact HB.out.drew⟩
  ·have hltI : ¬ ((a : Int) < (sl.length : Int)) := by omega
   have hltI2 : (sl.length : Int) ≤ (a : Int) := by omega
   have HNz : Hid (((finN ⟨3, (a : Int), (q : Int)⟩ k sl : Nat) : Int) = (k : Int) + 1) := Lib.hid (by simp [finN, List.getElem?_eq_none (Nat.le_of_not_lt hlt)])
   clear hlt
   go_wp2_with fail
   go_region
   all_goals
    go_wp2_with fail
    refine bodyPost_ret (results_tmp4 rfl _ _ _) rfl ?_
    exact ⟨A1, c1, none, 0, by simp [finS, finH, HNz.out], by rw [hW.out]; exact HC.out, Cells.nil, HF.out, fun z hz => (by cases hz), by first | exact HB.out | exact HB.out.drew⟩
 ·have hW : Hid (finW ⟨4, (a : Int), (q : Int)⟩ sl = sl) := Lib.hid (by simp [finW])
  go_wp2_with fail
  go_region
  all_goals
   go_wp2_with fail
   refine bodyPost_ret (results_tmp4 rfl _ _ _) rfl ?_
   exact ⟨A1, c1, none, 0, by simp [finN, finS, finH], by rw [hW.out]; exact HC.out, Cells.nil, HF.out, fun z hz => (by cases hz), by first | exact HB.out | exact HB.out.drew⟩
/-- where a run stands in memory -/
structure RunAt (w0 : World) (ops : List Fo) (sl : List Int) (wr : World) (k : Nat) (A2 : Option Addr) (slk : List Int) (A3 : Option Addr) (c3 : Nat) (sd : List Int) (hd : Bool) (n : Nat) : Prop where
 len : slk.length = sl.length
 cs : Cells wr A2 (slk.flatMap uCells)
 ow : wr.ownsRow w0.heap.size 3 1 (.slice A3 sd.length c3) sd.length (sd.flatMap nCells)
 is : fin8 ops 0 sl = ⟨(fin8 ops k slk).sl, sd ++ (fin8 ops k slk).said, hd || (fin8 ops k slk).held, n + (fin8 ops k slk).n⟩
 far : ∀ z, A2 = some z → w0.heap.size ≤ z.block
 nk : n ≤ k ∧ sd.length ≤ n ∧ k ≤ 15
 b : Below w0.heap.size w0 wr
set_option maxRecDepth 100000 in
set_option maxHeartbeats 4000000 in
theorem rfinRun_any (A : Option Addr) (c : Nat) (ops : List Fo) (B : Option Addr) (cB : Nat) (sl : List Int) (w : World) (ho : Cells w A (ops.flatMap foCells)) (hl : ops.length ≤ 8) (ok : ∀ o ∈ ops, FoOk o) (hs : Cells w B (sl.flatMap uCells)) (hn : sl.length ≤ 6) :
  Calls Tryz.prog 26 #[.slice A ops.length c, .slice B sl.length cB] w fun r w' => ∃ A2 c2 A3 c3, r = .returned (.tuple #[.slice A2 sl.length c2, .slice A3 (fin8 ops 0 sl).said.length c3, .bool (fin8 ops 0 sl).held, .int .i64 ((fin8 ops 0 sl).n : Nat)]) ∧ Cells w' A2 ((fin8 ops 0 sl).sl.flatMap uCells) ∧ Cells w' A3 ((fin8 ops 0 sl).said.flatMap nCells) ∧ (∀ z, A2 = some z → w.heap.size ≤ z.block) ∧ (∀ z, A3 = some z → w.heap.size ≤ z.block) ∧ Below w.heap.size w w' := by
 obtain ⟨i0, hi0, hz0, hz1, hz2⟩ := info_parts infoU64
 obtain ⟨j0, hj0, hy0, hy1, hy2⟩ := info_parts infoInt
 have HN := Lib.hid hn
 have HO := Lib.hid ho
 have Hok := Lib.hid ok
 have Hl := Lib.hid hl
 have hs' := hs
 have opI : (ops.length : Int) ≤ 8 := by omega
 have opI0 : (0 : Int) ≤ (ops.length : Int) := by omega
 clear ho hl hn ok hs
 go_enter Tryz.func26, Tryz.ntmps26
 go_upto_region 2 with (at_builtin; refine wpList_append_any _ rfl _ _ _ rfl w.heap.size 36 i0 _ 1 8 Tryz.underlying71 hi0 hz0 hz1 hz2 rfl (by omega) (.slice (some ⟨w.heap.size, 0, none⟩) 0 0) 0 [] rfl (World.ownsRow_lit (e := 36) _ _ 0 (Nat.le_refl _) (by simp [maxLen]) rfl) B sl.length cB (sl.flatMap uCells) rfl (flat_length uCells 1 (fun _ => rfl) sl) (Cells.alloc hs' _) (u_one sl) (by have := HN.out; simp only [maxLen]; omega) (by have := HN.out; omega) (by simp) ?_; intro v1 w1 hown hg hat; rw [List.nil_append, Nat.zero_add] at hown; have HB0 := Lib.hid (show Below w.heap.size w w1 from ((Below.refl _ _).alloc (Nat.le_refl _) _).grown hg (by simp) (by simp [Value.ownBlock])); obtain ⟨A1, c1, rfl, hfar, hsl⟩ := slOk_of_own hown; have hup := own_lt hown; clear hown hg hat)
 have HSl0 := Lib.hid hsl
 have HF := Lib.hid hfar
 have HS : Hid (Cells w1 A1 (sl.flatMap uCells)) := Lib.hid (SlOk.cells (g := w1.heap.size) (hsl.imp id fun ⟨bs, cur, h⟩ => ⟨bs, cur, h, by have := lt_of_heap h.row; omega⟩))
 clear hsl hfar hup hs' HSl0
 go_wp2_with fail
 go_loopw [8, 9, 10, 11, 12] (fun vo vs vh va vn wr => ∃ (k : Nat) (A2 : Option Addr) (c2 : Nat) (slk : List Int) (A3 : Option Addr) (c3 : Nat) (sd : List Int) (hd : Bool) (n : Nat), vo = .slice A2 slk.length c2 ∧ vs = .slice A3 sd.length c3 ∧ vh = .bool hd ∧ va = .int .i64 k ∧ vn = .int .i64 n ∧ RunAt w ops sl wr k A2 slk A3 c3 sd hd n) (fun _ _ _ va _ _ => (8 - intOf va).toNat)
 case atStart =>
  refine ⟨0, A1, c1, sl, _, _, [], false, 0, rfl, rfl, rfl, rfl, rfl, ?_⟩
  have hb : Below w1.heap.size w1 (w1.alloc (.cells #[] 3)) := by go_grown
  exact ⟨rfl, Cells.below HS.out hb, own_empty HB0.out.size (row_new _ _ _), by simp, HF.out, ⟨Nat.le_refl _, Nat.le_refl _, by omega⟩, below_only HB0.out hb⟩
 case round =>
  obtain ⟨k, A2, c2, slk, A3, c3, sd, hd, n, rfl, rfl, rfl, rfl, rfl, hR⟩ := hrel
  have HR := Lib.hid hR
  have hnk := hR.nk
  have kI0 : (0 : Int) ≤ (k : Int) := by omega
  have kI : (k : Int) ≤ 15 := by omega
  have nI0 : (0 : Int) ≤ (n : Int) := by omega
  have nI : (n : Int) ≤ 15 := by omega
  have nw : IntKind.i64.wrap ((n : Int) + 1) = (n : Int) + 1 := IntWalk.i64_in _ (by omega)
  have Hnk := Lib.hid hnk
  clear hR hnk
  by_cases hlt : k < ops.length
  ·obtain ⟨o, ho⟩ : ∃ o, ops[k]? = some o := ⟨_, List.getElem?_eq_getElem hlt⟩
   have klI : (k : Int) < (ops.length : Int) := by omega
   have Ho := Lib.hid ho
   have Hlt := Lib.hid hlt
   clear ho hlt
   go_wp2_with fail
   refine (rfinStep_any A c ops k A2 c2 slk _ o (Cells.below HO.out HR.out.b) Hl.out Ho.out (Hok.out o (List.mem_of_getElem? Ho.out)) HR.out.cs (by rw [HR.out.len]; exact HN.out)).mono ?_
   rintro r w2 ⟨A4, c4, A5, c5, rfl, h4, h5, f4, f5, hb⟩
   have H4 := Lib.hid (And.intro h4 f4)
   have H5 := Lib.hid (And.intro h5 f5)
   have Hb := Lib.hid hb
   have hS1 := finS_len o
   have HS1 := Lib.hid hS1
   have HW := Lib.hid (finW_len o slk)
   have HNx := Lib.hid (finN_le (Hok.out o (List.mem_of_getElem? Ho.out)) k slk)
   obtain ⟨so, Hso⟩ : ∃ s, Hid (finS o = s) := ⟨_, Lib.hid rfl⟩
   obtain ⟨kn, Hkn⟩ : ∃ s, Hid (finN o k slk = s) := ⟨_, Lib.hid rfl⟩
   obtain ⟨ho, Hho⟩ : ∃ s, Hid (finH o = s) := ⟨_, Lib.hid rfl⟩
   rw [Hso.out, Hkn.out, Hho.out]
   have hOwn : w2.ownsRow w.heap.size 3 1 (.slice A3 sd.length c3) sd.length (sd.flatMap nCells) := own_below HR.out.ow hb
   have HOwn := Lib.hid hOwn
   clear h4 h5 f4 f5 hb hS1 hOwn
   go_upto_region 11 with (at_builtin; refine wpList_append_any _ rfl (.tmp 36) (.tmp 37) _ (by rfl) w.heap.size 3 j0 _ 1 8 Tryz.underlying38 hj0 hy0 hy1 hy2 rfl (by omega) (.slice A3 sd.length c3) sd.length (sd.flatMap nCells) (by rfl) HOwn.out A5 so.length c5 (so.flatMap nCells) (by rfl) (flat_length nCells 1 (fun _ => rfl) _) (by rw [← Hso.out]; exact H5.out.1) (n_one _) (by have := Hnk.out; have := HS1.out; rw [Hso.out] at this; simp only [maxLen]; omega) (by have := Hnk.out; have := HS1.out; rw [Hso.out] at this; omega) (Nat.le_trans HR.out.b.size Hb.out.size) ?_; intro v6 w6 hown6 hg6 hat6)
   obtain ⟨A6, c6, rfl, -, -, -⟩ := own_slice hown6
   have hN : RunAt w ops sl w6 kn A4 (finW o slk) A6 c6 (sd ++ so) (hd || ho) (n + 1) := by
    have hf := fin8_step (sl := slk) Hl.out Ho.out
    have hi := HR.out.is
    refine ⟨(HW.out).trans HR.out.len, Cells.grown H4.out.1 hg6 (fun z hz e => ?_), ?_, ?_, fun z hz => Nat.le_trans HR.out.b.size (H4.out.2 z hz), ⟨?_, ?_, ?_⟩, ?_⟩
    ·have h1 := H4.out.2 z hz
     have h2 := own_ltF HR.out.ow z.block e.symm
     omega
    ·rw [List.length_append, List.flatMap_append]; exact hown6
    ·rw [hi, hf, Hso.out, Hkn.out, Hho.out]
     simp [List.append_assoc, Bool.or_assoc, Nat.add_assoc, Nat.add_comm 1]
    ·have h1 := finN_lt o k slk; have := Hnk.out; rw [Hkn.out] at h1; omega
    ·have := Hnk.out; have h9 := HS1.out; rw [Hso.out] at h9; rw [List.length_append]; omega
    ·have h9 := HNx.out; have := Hlt.out; have := Hl.out; rw [Hkn.out] at h9; omega
    ·exact Below.grown (below_only HR.out.b Hb.out) hg6 (Nat.le_trans HR.out.b.size Hb.out.size) (fun i hi => own_ge HOwn.out i hi)
   have HNN := Lib.hid hN
   have HM : Hid ((8 - ((kn : Int))).toNat < (8 - (k : Int)).toNat) := Lib.hid (by have h1 := finN_lt o k slk; rw [Hkn.out] at h1; have := Hlt.out; have := Hl.out; omega)
   have HLn : Hid ((finW o slk).length = slk.length) := HW
   have HLs : Hid ((sd ++ so).length = sd.length + so.length) := Lib.hid List.length_append
   clear hN hown6 hg6 hat6
   cases hd
   all_goals
    go_wp2_with fail
    go_roundw
    case rel => exact ⟨kn, A4, c4, finW o slk, A6, c6, sd ++ so, _, n + 1, by rw [HLn.out], by rw [HLs.out], by rfl, rfl, by go_num, HNN.out⟩
    case measure => simpa [intOf] using HM.out
  ·have klI : ¬ ((k : Int) < (ops.length : Int)) := by omega
   have Hlt := Lib.hid hlt
   clear hlt
   go_wp2_with fail
   refine bodyPost_ret (results_tmp4 rfl _ _ _) rfl ?_
   have hi := HR.out.is
   have he := fin8_end (ops := ops) (k := k) (sl := slk) (by have := Hlt.out; omega)
   rw [he] at hi
   simp only [List.append_nil, Bool.or_false, Nat.add_zero] at hi
   rw [hi]
   refine ⟨A2, c2, A3, ⟨c3, by simp [HR.out.len]⟩, HR.out.cs, ?_, HR.out.far, ?_, HR.out.b⟩
   ·obtain ⟨A9, c9, e9, -, -, h9⟩ := own_slice HR.out.ow
    injection e9 with e1 e2 e3
    subst e1
    exact h9
   ·exact fun z hz => own_ge HR.out.ow z.block (by rw [hz]; rfl)
end Go.Proofs.YtbijaloeilnjoaaGreat

namespace Go.Proofs.YtbijaloeilnjoaaGreat
open Go.RowKit
set_option linter.unusedVariables false
set_option linter.unusedSimpArgs false

section
variable {fs : List (List Fo)}
theorem todoFrom_last {l : List Ob} {m : Nat} {x : Ob} (h0 : ∀ (j : Nat) (o : Ob), j < m → l[j]? = some o → isTodo fs o = false) (hx : l[m]? = some x) (ht : isTodo fs x = true) : ∀ (k i : Nat), i + k = m → todoFrom fs l (k + 1) i = [m]
 | 0, i, h => by
  obtain rfl : i = m := by omega
  unfold todoFrom
  rw [hx]
  dsimp only
  rw [if_pos ht]
  rfl
 | k + 1, i, h => by
  unfold todoFrom
  rw [todoFrom_last h0 hx ht k (i + 1) (by omega)]
  cases e : l[i]? with
  | none => rfl
  | some o => dsimp only; rw [if_neg (by rw [h0 i o (by omega) e]; simp)]; rfl
theorem todoR_last {obs0 : List Ob} {x : Ob} (h0 : ∀ o ∈ obs0, isTodo fs o = false) (ht : isTodo fs x = true) : todoR fs (obs0 ++ [x]) = [obs0.length] := by
 unfold todoR
 rw [List.length_append, List.length_singleton, todoFrom_last (m := obs0.length) (x := x) (fun j o hj ho => h0 o (by rw [List.getElem?_append_left hj] at ho; exact List.mem_of_getElem? ho)) (by simp) ht obs0.length 0 (by omega)]
 rfl
theorem laFa_last {obs0 : List Ob} {x : Ob} {fr : Fr} (h0 : ∀ o ∈ obs0, isTodo fs o = false) (ht : isTodo fs x = true) (hf : fin8 (fsOf fs x.tg) 0 x.sl = fr) : laFa fs (obs0 ++ [x]) = ⟨obs0 ++ [⟨fr.sl, x.tg, true⟩], fr.said, fr.held, fr.n + 1⟩ := by
 unfold laFa
 rw [todoR_last h0 ht]
 unfold finAll
 rw [show (obs0 ++ [x])[obs0.length]? = some x from by simp]
 dsimp only
 rw [hf]
 unfold finAll
 simp
end
/-- the words of the last object, ahead of its being finalized and behind -/
theorem slots_word {obs0 : List Ob} {x : Ob} {sl : List Int} {c : Ctl} (hx : ObOk x) (hd : x.dn = false) (hs : sl.length = x.sl.length) (hu : used obs0 + x.w ≤ 64) (i : Nat) (hi : i < 80) :
  ∃ v1 v2, (wsL c (8 * ((used obs0 + x.w : Nat) : Int)) 99 (extE (obs0 ++ [x])))[i]? = some v1 ∧ (wsL c (8 * ((used obs0 + x.w : Nat) : Int)) 99 (extE (obs0 ++ [⟨sl, x.tg, true⟩])))[i]? = some v2 ∧
   (i = 16 + used obs0 → bits .or .u64 v1 281474976710656 = v2) ∧ (16 + used obs0 + 2 ≤ i → i < 16 + used obs0 + x.w → sl[i - (16 + used obs0) - 2]? = some v2) ∧ (i ≠ 16 + used obs0 → (16 + used obs0 + 2 ≤ i → ¬ i < 16 + used obs0 + x.w) → v1 = v2) := by
 have hw : (⟨sl, x.tg, true⟩ : Ob).w = x.w := by unfold Ob.w; dsimp only; rw [hs]
 have hu1 : used (obs0 ++ [x]) = used obs0 + x.w := used_snoc obs0 x
 have hu2 : used (obs0 ++ [⟨sl, x.tg, true⟩]) = used obs0 + x.w := by rw [used_snoc, hw]
 have l1 : (extE (obs0 ++ [x])).length = 64 := extE_len (by omega)
 have l2 : (extE (obs0 ++ [⟨sl, x.tg, true⟩])).length = 64 := extE_len (by omega)
 have hxw : x.w = 2 + x.sl.length := rfl
 by_cases h16 : i < 16
 ·have e : ∀ E : List Int, (wsL c (8 * ((used obs0 + x.w : Nat) : Int)) 99 E)[i]? = ([6, 128, 0, 0, 0, 0, 0, 0, word c, 128, 512, 8 * ((used obs0 + x.w : Nat) : Int), 99, 0, 0, 0] : List Int)[i]? := fun E => by
   unfold wsL
   rw [List.getElem?_append_left (by simpa using h16)]
  rw [e, e]
  obtain ⟨v, hv⟩ : ∃ v, ([6, 128, 0, 0, 0, 0, 0, 0, word c, 128, 512, 8 * ((used obs0 + x.w : Nat) : Int), 99, 0, 0, 0] : List Int)[i]? = some v := ⟨_, List.getElem?_eq_getElem (by simpa using h16)⟩
  exact ⟨v, v, hv, hv, fun h => by omega, fun h => by omega, fun _ _ => rfl⟩
 obtain ⟨j, rfl⟩ : ∃ j, i = 16 + j := ⟨i - 16, by omega⟩
 rw [wsL_e, wsL_e]
 obtain ⟨v1, h1⟩ : ∃ v, (extE (obs0 ++ [x]))[j]? = some v := ⟨_, List.getElem?_eq_getElem (by omega)⟩
 obtain ⟨v2, h2⟩ : ∃ v, (extE (obs0 ++ [⟨sl, x.tg, true⟩]))[j]? = some v := ⟨_, List.getElem?_eq_getElem (by omega)⟩
 obtain ⟨g1, g2⟩ := last_ob obs0 x
 obtain ⟨g3, g4⟩ := last_ob obs0 ⟨sl, x.tg, true⟩
 have k1 := fun (q : Nat) (hq : q < x.w) => extE_get g1 hq
 have k2 := fun (q : Nat) (hq : q < x.w) => extE_get g3 (j := q) (by rw [hw]; exact hq)
 rw [g2] at k1
 rw [g4] at k2
 refine ⟨v1, v2, h1, h2, fun h => ?_, fun ha hb => ?_, fun ha hb => ?_⟩
 ·obtain rfl : j = used obs0 := by omega
  have a1 := k1 0 (by omega)
  have a2 := k2 0 (by omega)
  rw [Nat.add_zero, h1] at a1
  rw [Nat.add_zero, h2] at a2
  have b1 : some v1 = some (head1d (2 + (x.sl.length : Int)) x.sl.length x.tg x.dn) := a1
  have b2 : some v2 = some (head1d (2 + (sl.length : Int)) sl.length x.tg true) := a2
  injection b1 with b1
  injection b2 with b2
  have n6 := hx.n
  have t8 := hx.tg
  rw [b1, b2, hd, hs]
  have hq : 11889503016258109440 ≤ head1d (2 + (x.sl.length : Int)) x.sl.length x.tg false ∧ head1d (2 + (x.sl.length : Int)) x.sl.length x.tg false < 11889503016258109440 + 281474976710656 := by unfold head1d doneB head1; simp only [Bool.false_eq_true, if_false]; omega
  have hq2 : head1d (2 + (x.sl.length : Int)) x.sl.length x.tg false / 281474976710656 = 42240 := by omega
  rw [u64_setbit _ (by omega) (by omega) (by rw [hq2]; rfl)]
  unfold head1d doneB
  simp
 ·obtain ⟨q, rfl⟩ : ∃ q, j = used obs0 + (2 + q) := ⟨j - used obs0 - 2, by omega⟩
  have a2 := k2 (2 + q) (by omega)
  rw [h2] at a2
  rw [show 16 + (used obs0 + (2 + q)) - (16 + used obs0) - 2 = q by omega]
  have b2 : some v2 = sl[q]? := by
   rw [a2]
   unfold obW
   rw [show 2 + q = (q + 1) + 1 by omega]
   rfl
  exact b2.symm
 ·by_cases hlo : j < used obs0
  ·unfold extE at h1 h2
   rw [List.flatMap_append, List.append_assoc, List.getElem?_append_left (by rw [flat_used]; exact hlo)] at h1 h2
   rw [h1] at h2
   injection h2
  by_cases h0 : j = used obs0 + 1
  ·subst h0
   have a1 := k1 1 (by omega)
   have a2 := k2 1 (by omega)
   rw [h1] at a1
   rw [h2] at a2
   have b1 : some v1 = some (head2 1 4) := a1
   have b2 : some v2 = some (head2 1 4) := a2
   injection b1 with b1
   injection b2 with b2
   rw [b1, b2]
  ·have hge : used obs0 + x.w ≤ j := by omega
   unfold extE at h1 h2
   rw [List.getElem?_append_right (by rw [flat_used]; omega), List.getElem?_replicate] at h1 h2
   split at h1
   ·split at h2
    ·injection h1 with h1
     injection h2 with h2
     rw [← h1, ← h2]
    ·cases h2
   ·cases h1
/-- the objects: others have no finalizer, the last one has -/
def tag0 (y : Oj) : Oj := ⟨y.s, y.h, 0, y.d⟩
def rowsN (l : List Oj) (i : Nat) : List Oj := (l.take i).map tag0
def lastO (o : Oj) : Oj := ⟨o.s, o.h, 1, false⟩
theorem rowsN_succ {l : List Oj} {i : Nat} {y : Oj} (h : l[i]? = some y) : rowsN l (i + 1) = rowsN l i ++ [tag0 y] := by
 unfold rowsN
 rw [List.take_add_one, h]
 simp
theorem rowsN_len (l : List Oj) {i : Nat} (h : i ≤ l.length) : (rowsN l i).length = i := by unfold rowsN; simp; omega
theorem obsOf_rows (l : List Oj) (o : Oj) {m : Nat} (hm : m = min l.length 7) : obsOf (rowsN l m ++ [lastO o]) = (rowsN l m).map obOf ++ [obOf (lastO o)] := by
 have h1 := rowsN_len l (i := m) (by omega)
 unfold obsOf
 rw [List.take_of_length_le (by rw [List.length_append, h1]; simp; omega), List.map_append]
 rfl
theorem rows_ok {l : List Oj} {o : Oj} (h : ∀ y ∈ l, OjOk y) (ho : OjOk o) (m : Nat) : ∀ y ∈ rowsN l m ++ [lastO o], OjOk y := by
 intro y hy
 rcases List.mem_append.1 hy with hy | hy
 ·obtain ⟨z, hz, rfl⟩ := List.mem_map.1 hy
  have := h z (List.take_subset _ _ hz)
  exact ⟨this.s, this.h, by unfold tag0; simp⟩
 ·simp only [List.mem_singleton] at hy
  subst hy
  exact ⟨ho.s, ho.h, by unfold lastO; simp⟩
/-- nothing but the last object is to be finalized -/
theorem rows_todo (l : List Oj) (o : Oj) (m : Nat) {P : List Fo} (hP : P ≠ []) : (∀ x ∈ (rowsN l m).map obOf, isTodo [[], P] x = false) ∧ isTodo [[], P] (obOf (lastO o)) = true := by
 constructor
 ·intro x hx
  obtain ⟨y, hy, rfl⟩ := List.mem_map.1 hx
  obtain ⟨z, hz, rfl⟩ := List.mem_map.1 hy
  unfold isTodo
  rw [show fsOf [[], P] (obOf (tag0 z)).tg = [] from rfl]
  simp
 ·unfold isTodo
  rw [show fsOf [[], P] (obOf (lastO o)).tg = P from rfl]
  cases P with
  | nil => exact absurd rfl hP
  | cons a p => rfl
theorem alIn_slots {l : List Oj} {o : Oj} {m : Nat} (hm : m = min l.length 7) {P : List Fo} (h8 : P.length ≤ 8) (hok : ∀ x ∈ P, FoOk x) : AlIn [[], P] (obsOf (rowsN l m ++ [lastO o])) (c18 1) ⟨3, 0, 0, 4⟩ :=
 ⟨fun p hp => by simp at hp; rcases hp with rfl | rfl; exact Nat.zero_le _; exact h8, fun p hp x hx => by simp at hp; rcases hp with rfl | rfl; cases hx; exact hok x hx, by simp, obsOf_ok _, by rw [obsOf_len]; omega, obsOf_used _, by decide, by kernel_rfl, ⟨by decide, rfl⟩⟩
end Go.Proofs.YtbijaloeilnjoaaGreat
namespace Go.Proofs.YtbijaloeilnjoaaGreat
open Go.RowKit Go.ChangeShapes Go.WideShapes Go.Deep
set_option maxRecDepth 100000 in
theorem open_obj18 {H : Type} {enc : TypeId × Value → H} {w : World} {base : Nat} {spare : Nat → Bool} {held : Bool} {r : Reach} {b0 : Nat} {v : Value} {d : DataW H} {p : List MemPlace}
  (hv : Value.okWide Tryz.prog w r b0 70 v) (h : DataW.Trod enc Tryz.prog w base spare held 70 v d p) : ∃ o : Oj, v = .agg #[.int .u8 o.s, .int .u8 o.h, .int .u8 o.t, .bool o.d] ∧ OjOk o := by
 obtain ⟨cs, rfl, _⟩ := okWide_struct Tryz.underlying70 hv
 obtain ⟨fuel, hf⟩ := h
 obtain ⟨u, hu, hq⟩ := oj_of_trod _ _ _ hf
 refine ⟨u, ?_, hq⟩
 obtain ⟨cl⟩ := cs
 simp only [Value.cells] at hu
 subst hu
 rfl
end Go.Proofs.YtbijaloeilnjoaaGreat

namespace Go.Proofs.YtbijaloeilnjoaaGreat
open Go.RowKit
set_option linter.unusedVariables false
set_option linter.unusedSimpArgs false

theorem finGo_saidS (ops : List Fo) : ∀ (f k : Nat) (sl : List Int), (finGo ops f k sl).said.length ≤ f
 | 0, k, sl => Nat.le_refl _
 | f + 1, k, sl => by
  unfold finGo
  cases h : ops[k]? with
  | none => exact Nat.zero_le _
  | some o =>
   have h1 := finGo_saidS ops f (finN o k sl) (finW o sl)
   have h2 := finS_len o
   dsimp only
   rw [List.length_append]
   omega
theorem infoOj4 : (Tryz.prog.info? 70).map (fun i => (i.zero, i.size, i.bytes)) = some (some (.agg #[.int .u8 0, .int .u8 0, .int .u8 0, .bool false]), 4, 4) := by kernel_rfl
theorem jCells_one (y : Oj) : ∀ u ∈ jCells y, u.oneCell' = true := by
 intro u hu
 simp at hu
 rcases hu with rfl | rfl | rfl | rfl <;> rfl
theorem own_pre {w : World} {B : Nat} {e : TypeId} {A : Option Addr} {c m : Nat} {l : List Fo} (h : w.ownsRow B e 3 (.slice A l.length c) l.length (l.flatMap foCells)) (hm : m ≤ l.length) : w.ownsRow B e 3 (.slice A m c) m ((l.take m).flatMap foCells) := by
 have hl : (l.take m).length = m := by simp; omega
 refine ⟨by rw [flat_length foCells 3 (fun _ => rfl), hl], ?_⟩
 rcases h.2 with ⟨h1, h2⟩ | ⟨g, cap, cur, h1, h2, h3, h4, h5, h6, h7⟩
 ·injection h1 with e1 e2 e3
  obtain rfl : m = 0 := by omega
  exact .inl ⟨by rw [e1, e3], rfl⟩
 ·injection h1 with e1 e2 e3
  refine .inr ⟨g, cap, cur, by rw [e1, e3], h2, h3, by omega, h5, h6, ?_⟩
  have h8 := congrArg (List.take (m * 3)) h7
  rw [List.take_take, Nat.min_eq_left (by omega)] at h8
  rw [h8]
  conv => lhs; rw [← List.take_append_drop m l, List.flatMap_append]
  rw [List.take_left' (by rw [flat_length foCells 3 (fun _ => rfl), hl])]
theorem own_keptS {w w' : World} {B e size n : Nat} {S : List Nat} {v : Value} {xs : List Value} (h : w.ownsRow B e size v n xs) (hk : Keep S w w') (hn : ∀ k, v.ownBlock = some k → k ∉ S) : w'.ownsRow B e size v n xs := by
 refine ⟨h.1, ?_⟩
 rcases h.2 with h | ⟨g, cap, cur, h1, h2, h3, h4⟩
 ·exact .inl h
 ·exact .inr ⟨g, cap, cur, h1, h2, hk.row h3 (hn g (by rw [h1]; rfl)), h4⟩
theorem row_grown' {w w' : World} {g : Nat} {ob : Obj} {row : Option Nat} (h : w.heap[g]? = some ob) (hg : w.grownBy w' row) (hn : some g ≠ row) : w'.heap[g]? = some ob := (hg.block g (lt_of_heap h) hn).trans h
set_option maxRecDepth 100000 in
set_option maxHeartbeats 8000000 in
theorem leaveSlots_walk (A0 : Option Addr) (c0 : Nat) (l0 : List Fo) (A1 : Option Addr) (c1 : Nat) (l1 : List Oj) (o2 : Oj) (W : World) (hl0 : l0.length ≤ c0) (hc0 : c0 ≤ maxLen) (he0 : Cells W A0 (l0.flatMap foCells)) (hq0 : ∀ e ∈ l0, FoIn e) (hl1 : l1.length ≤ c1) (hc1 : c1 ≤ maxLen) (he1 : Cells W A1 (l1.flatMap jCells)) (hq1 : ∀ e ∈ l1, OjOk e) (w2_0 : OjOk o2) :
  Calls Tryz.prog 10 #[.slice A0 l0.length c0, .slice A1 l1.length c1, .agg #[.int .u8 o2.s, .int .u8 o2.h, .int .u8 o2.t, .bool o2.d]] W fun r w' => r = .returned (.bool true) ∧ Below W.heap.size W w' := by
 obtain ⟨i0, hi0, hz0, hz1, hz2⟩ := info_parts infoU64
 obtain ⟨f0, hf0, hg0, hg1, hg2⟩ := info_parts infoFOp3
 obtain ⟨k0, hk0, hm0, hm1, hm2⟩ := info_parts infoOj4
 have HI0 := Lib.hid he0
 have Hq0 := Lib.hid hq0
 have HJ1 := Lib.hid he1
 have Hq1 := Lib.hid hq1
 have Hq2 := Lib.hid w2_0
 have Hln := Lib.hid (And.intro (Nat.le_trans hl0 hc0) (Nat.le_trans hl1 hc1))
 have l1I : (l1.length : Int) ≤ 9223372036854775807 := by have := Nat.le_trans hl1 hc1; unfold maxLen at this; omega
 obtain ⟨os, oh, ot, od⟩ := o2
 obtain ⟨⟨s0, s1⟩, ⟨h0, h1⟩, _⟩ := w2_0
 dsimp only at s0 s1 h0 h1
 clear hl0 hc0 he0 hq0 hl1 hc1 he1 hq1
 go_enter Tryz.func10, Tryz.ntmps10
 go_upto_region 1 with fail
 refine one_row W _ _ ?_
 intro w0 hr hb
 obtain ⟨g5, Hg5⟩ : ∃ x, Hid (W.heap.size = x) := ⟨_, Lib.hid rfl⟩
 rw [Hg5.out] at hr ⊢
 have H5 := Lib.hid hr
 have HB := Lib.hid hb
 replace HI0 := Lib.hid (Cells.below HI0.out hb)
 clear hr hb
 go_wp2_with fail
 refine (shown18_any _).mono ?_
 rintro r w1 ⟨rfl, hb⟩
 replace HB := Lib.hid (below_only HB.out hb)
 replace HI0 := Lib.hid (Cells.below HI0.out hb)
 replace H5 := Lib.hid (row_below H5.out hb)
 clear hb
 have HG5 := Lib.hid (lt_of_heap H5.out)
 go_wp2_with fail
 have hFi : FinsAt (w1.alloc (.cells #[.slice A0 l0.length c0] 54)) (some ⟨w1.heap.size, 0, none⟩) [⟨A0, c0, l0⟩] := ⟨cells_of (row_new _ _ _), fun x hx => by
  simp only [List.mem_singleton] at hx
  subst hx
  exact Cells.below HI0.out (by go_grown)⟩
 have hba : Below w1.heap.size w1 (w1.alloc (.cells #[.slice A0 l0.length c0] 54)) := by go_grown
 refine (fit_any (some ⟨w1.heap.size, 0, none⟩) 1 [⟨A0, c0, l0⟩] _ hFi (fun x hx o ho => by simp only [List.mem_singleton] at hx; subst hx; exact (Hq0.out o ho).op) (by simp [maxLen]) (fun x hx => by simp only [List.mem_singleton] at hx; subst hx; exact Hln.out.1)).mono ?_
 rintro r w2 ⟨fA, fc, fl, rfl, hft, hb⟩
 have hbs := hb.size
 replace hb := below_only hba hb
 replace HB := Lib.hid (below_only HB.out hb)
 replace H5 := Lib.hid (row_below H5.out hb)
 have his : fsL fl = [(l0.take 8).map fitFo] := hft.is
 obtain ⟨x, rfl⟩ : ∃ x, fl = [x] := by
  match fl, his with
  | [x], _ => exact ⟨x, rfl⟩
  | [], h => simp [fsL] at h
  | _ :: _ :: _, h => simp [fsL] at h
 have hxl : x.l = (l0.take 8).map fitFo := by simpa [fsL] using his
 have hown := (hft.at_ x (by simp)).own
 obtain ⟨bf, of, rfl, hbf, hcf⟩ := hft.fins.at_ (by simp)
 have s00 := hcf 0 x rfl
 rw [Nat.add_zero] at s00
 obtain ⟨xa, xc, xl⟩ := x
 dsimp only at hxl hown s00
 obtain ⟨_, _, e9, hxn, hxm, _⟩ := own_slice hown
 injection e9 with e1 e2 e3
 subst e1 e3
 have hx8 : xl.length ≤ 8 := by rw [hxl]; simp; omega
 have HXo := Lib.hid hown
 have HX := Lib.hid hxl
 have HX8 := Lib.hid (And.intro hxn hx8)
 obtain ⟨m, Hm⟩ : ∃ m : Nat, Hid (m = min xl.length 7) := ⟨_, Lib.hid rfl⟩
 have hmin : (if (7 : Int) < (xl.length : Int) then (7 : Int) else (xl.length : Int)) = (m : Int) := by have := Hm.out; split <;> omega
 have m7 : (m : Int) ≤ 7 := by have := Hm.out; omega
 have m0 : (0 : Int) ≤ (m : Int) := by omega
 have mc : (m : Int) ≤ (xc : Int) := by have := Hm.out; omega
 have mcN : m ≤ xc := by have := Hm.out; omega
 obtain ⟨B, HBB⟩ : ∃ x, Hid ((w1.alloc (.cells #[.slice A0 l0.length c0] 54)).heap.size = x ∧ g5 < x ∧ W.heap.size ≤ x ∧ x ≤ w2.heap.size) := ⟨_, Lib.hid ⟨rfl, Nat.lt_of_lt_of_le HG5.out hba.size, Nat.le_trans (by rw [Hg5.out]; omega) (Nat.le_trans (Nat.le_of_lt HG5.out) hba.size), hbs⟩⟩
 rw [HBB.out.1] at HXo
 clear hft hb his hown hbf hcf hxl hxn hxm hx8 hba hFi hbs HI0 Hq0
 go_upto_region 3 with fail
 try simp only [Act.put]
 go_cut [8] from 41 to 48 (fun v wx => ∃ A9 c9, v = .slice A9 (m + 1) c9 ∧ wx.ownsRow B 56 3 (.slice A9 (m + 1) c9) (m + 1) ((xl.take m ++ [(⟨4, 0, 0⟩ : Fo)]).flatMap foCells) ∧ wx.heap[g5]? = some (.cells #[.int .u8 os, .int .u8 oh, .int .u8 ot, .bool od] 70 (0, 0)) ∧ Below W.heap.size W wx)
 case first =>
  have hxa : xa = none ∨ ∃ g, xa = some ⟨g, 0, none⟩ := by
   rcases HXo.out.2 with ⟨h9, _⟩ | ⟨g, _, _, h9, _⟩
   ·injection h9 with e1 e2 e3; exact .inl e1
   ·injection h9 with e1 e2 e3; exact .inr ⟨g, e1⟩
  have HPre : Hid (w2.ownsRow B 56 3 (.slice xa m xc) m ((xl.take m).flatMap foCells)) := Lib.hid (own_pre HXo.out (by have := Hm.out; omega))
  clear HXo
  rcases hxa with rfl | ⟨gx, rfl⟩
  all_goals
   go_upto_region 4 with (at_builtin; refine wpList_append_any _ rfl (.tmp 45) (.tmp 47) _ (by rfl) B 56 f0 _ 3 24 Tryz.underlying54 hf0 hg0 hg1 hg2 rfl (by omega) (.slice _ m xc) m ((xl.take m).flatMap foCells) (by rfl) (own_below HPre.out (by go_grown)) (some ⟨w2.heap.size, 0, none⟩) 1 1 (foCells ⟨4, 0, 0⟩) (by rfl) rfl (cells_of (row_new _ _ _)) (foCells_one _) (by simp only [maxLen]; omega) (by omega) (by simp; have := HBB.out; omega) ?_; intro v6 w6 hown6 hg6 hat6)
   obtain ⟨A6, c6, rfl, -, -, -⟩ := own_slice hown6
   have hba : Below w2.heap.size w2 (w2.alloc (.cells #[.int .u8 4, .int .i64 0, .int .i64 0] 56)) := by go_grown
   have h59 := row_grown' (row_below H5.out hba) hg6 (fun e => by have h1 := own_ge HPre.out g5 e.symm; have := HBB.out; omega)
   have hB9 := Below.grown (below_only HB.out hba) hg6 (by simp; have := HBB.out; omega) (fun i hi => Nat.le_trans HBB.out.2.2.1 (own_ge HPre.out i hi))
   have hown9 : w6.ownsRow B 56 3 (.slice A6 (m + 1) c6) (m + 1) ((xl.take m ++ [(⟨4, 0, 0⟩ : Fo)]).flatMap foCells) := by rw [List.flatMap_append]; exact hown6
   clear hown6 hg6 hat6
   go_wp2_with fail
   go_meet
   exact ⟨A6, c6, rfl, hown9, h59, hB9⟩
 case rest =>
  obtain ⟨A9, c9, rfl, hown9, h5, hB9⟩ := hcut
  obtain ⟨w3, h⟩ : ∃ x, x = wc := ⟨_, rfl⟩
  subst h
  obtain ⟨P, HP⟩ : ∃ P, Hid (xl.take m ++ [(⟨4, 0, 0⟩ : Fo)] = P ∧ P.length = m + 1 ∧ P.length ≤ 8 ∧ (∀ o ∈ P, FoOk o) ∧ P ≠ []) := ⟨_, Lib.hid ⟨rfl, by simp; have := Hm.out; omega, by simp; have := Hm.out; omega, fun o ho => by
   rcases List.mem_append.1 ho with ho | ho
   ·rw [HX.out] at ho
    obtain ⟨z, _, rfl⟩ := List.mem_map.1 (List.take_subset _ _ ho)
    exact fitFo_ok z
   ·simp only [List.mem_singleton] at ho
    subst ho
    exact ⟨by decide, by decide, by decide, by decide⟩, by simp⟩⟩
  rw [HP.out.1, ← HP.out.2.1] at hown9
  rw [← HP.out.2.1]
  have HPc : Hid (Cells w3 A9 (P.flatMap foCells)) := Lib.hid (by
   obtain ⟨A8, c8, e8, -, -, h8⟩ := own_slice hown9
   injection e8 with e1 e2 e3
   subst e1
   exact h8)
  have HA9 : Hid (∀ z, A9 = some z → g5 < z.block) := Lib.hid (fun z hz => by have h1 := own_ge hown9 z.block (by rw [hz]; rfl); have := HBB.out; omega)
  have HPl : Hid (∀ z, A9 = some z → z.block < w3.heap.size) := Lib.hid (fun z hz => own_ltF hown9 z.block (by rw [hz]; rfl))
  replace H5 := Lib.hid h5
  replace HB := Lib.hid hB9
  clear hown9 h5 hB9 hmin m7 m0 mc mcN HX HX8 HXo Hm s00
  go_upto_region 5 with fail
  refine one_row w3 _ _ ?_
  intro w4 hr hb
  obtain ⟨gF, HgF⟩ : ∃ x, Hid (w3.heap.size = x) := ⟨_, Lib.hid rfl⟩
  have HFa : Hid (FinsAt w4 (some ⟨gF, 0, none⟩) [⟨none, 0, []⟩, ⟨A9, c9, P⟩]) := Lib.hid ⟨by rw [← HgF.out]; exact cells_of hr, fun x hx => by
   simp at hx
   rcases hx with rfl | rfl
   ·exact Cells.nil
   ·exact Cells.below HPc.out hb⟩
  have HFg : Hid (FinsOff (some ⟨gF, 0, none⟩) [⟨none, 0, []⟩, ⟨A9, c9, P⟩] g5) := Lib.hid ⟨fun z hz => by injection hz with hz; subst hz; have := lt_of_heap H5.out; have := HgF.out; dsimp only; omega, fun x hx z hz => by
   simp at hx
   rcases hx with rfl | rfl
   ·cases hz
   ·have := HA9.out z hz; omega⟩
  have HFo : Hid (∀ b, w4.heap.size ≤ b → FinsOff (some ⟨gF, 0, none⟩) [⟨none, 0, []⟩, ⟨A9, c9, P⟩] b) := Lib.hid (fun b hb' => ⟨fun z hz => by injection hz with hz; subst hz; have := lt_of_heap hr; have := HgF.out; dsimp only; omega, fun x hx z hz => by
   simp at hx
   rcases hx with rfl | rfl
   ·cases hz
   ·have := HPl.out z hz; have := hb.size; omega⟩)
  replace H5 := Lib.hid (row_below H5.out hb)
  replace HB := Lib.hid (below_only HB.out hb)
  replace HPc := Lib.hid (Cells.below HPc.out hb)
  replace HJ1 := Lib.hid (Cells.below HJ1.out HB.out)
  rw [HgF.out]
  have HG54 := Lib.hid (lt_of_heap H5.out)
  clear hr hb HPl
  go_wp2_with fail
  go_loopw [10, 11] (fun v t wr => ∃ (i : Nat) (Ar : Option Addr) (cr : Nat), i ≤ min l1.length 7 ∧ v = .slice Ar i cr ∧ t = .int .i64 i ∧ wr.ownsRow w4.heap.size 70 4 (.slice Ar i cr) i ((rowsN l1 i).flatMap jCells) ∧ Below w4.heap.size w4 wr) (fun _ t _ => (7 - intOf t).toNat)
  case atStart => exact ⟨0, _, _, by omega, rfl, rfl, own_empty (Nat.le_refl _) (row_new _ _ _), (Below.refl _ _).alloc (Nat.le_refl _) _⟩
  case round =>
   obtain ⟨i, Ar, cr, hi, rfl, rfl, hown, hB⟩ := hrel
   have Hown := Lib.hid hown
   have HBr := Lib.hid hB
   have iI0 : (0 : Int) ≤ (i : Int) := by omega
   have iI7 : (i : Int) ≤ 7 := by omega
   have iw : IntKind.i64.wrap ((i : Int) + 1) = (i : Int) + 1 := IntWalk.i64_in _ (by omega)
   clear hown hB
   by_cases hlt : i < min l1.length 7
   ·obtain ⟨y, hy⟩ : ∃ y, l1[i]? = some y := ⟨_, List.getElem?_eq_getElem (by omega)⟩
    have hsn := rowsN_succ hy
    obtain ⟨bl, ol, hlA, hbl, hlc⟩ := j_at HJ1.out (by omega)
    obtain ⟨d0, d1, d2, d3⟩ := hlc i _ hy
    replace d0 := (HBr.out.cell (p := ⟨bl, ol + i * 4, none⟩) hbl).trans d0
    replace d1 := (HBr.out.cell (p := ⟨bl, ol + i * 4 + 1, none⟩) hbl).trans d1
    replace d2 := (HBr.out.cell (p := ⟨bl, ol + i * 4 + 2, none⟩) hbl).trans d2
    replace d3 := (HBr.out.cell (p := ⟨bl, ol + i * 4 + 3, none⟩) hbl).trans d3
    have dz := Nat.lt_of_lt_of_le hbl HBr.out.size
    subst hlA
    have HSn : Hid ((rowsN l1 (i + 1)).flatMap jCells = (rowsN l1 i).flatMap jCells ++ jCells (tag0 y)) := Lib.hid (by rw [hsn, List.flatMap_append]; simp)
    obtain ⟨ys, yh, yt, yd⟩ := y
    dsimp only at d0 d1 d2 d3
    have iL : (i : Int) < (l1.length : Int) := by omega
    have iLN : i < l1.length := by omega
    have i7 : (i : Int) < 7 := by omega
    clear hy hsn hlc hbl hlt
    go_upto_region 10 with fail
    refine one_row wr _ _ ?_
    intro w5 hr hb
    clear d0 d1 d2 d3 dz
    obtain ⟨g7, Hg7⟩ : ∃ x, Hid (wr.heap.size = x) := ⟨_, Lib.hid rfl⟩
    rw [Hg7.out] at hr ⊢
    have H7 := Lib.hid hr
    obtain ⟨y0, y1, y2, y3, _⟩ := box4 hr
    have zy := lt_of_heap hr
    have fz2 := row_frozen hr 2
    have HB7 := Lib.hid hb
    clear hr hb
    go_upto_region 11 with fail
    clear y0 y1 y2 y3 zy fz2
    have hr2 := row_set (i := 2) H7.out (.int .u8 0)
    have hk2 : Keep [g7] w5 (w5.setCell ⟨g7, 2, none⟩ (.int .u8 0)) := (Keep.refl [g7] w5).setCell (p := ⟨g7, 2, none⟩) (.inl (by simp)) _
    generalize w5.setCell ⟨g7, 2, none⟩ (.int .u8 0) = w6 at hr2 hk2 ⊢
    have hb6 : Below wr.heap.size wr w6 := Keep.under HB7.out hk2 HB7.out.size (by simp; have := Hg7.out; omega)
    have HB6 := Lib.hid hb6
    obtain ⟨y0, y1, y2, y3, _⟩ := box4 (show w6.heap[g7]? = some (.cells #[.int .u8 ys, .int .u8 yh, .int .u8 0, .bool yd] 70 (0, 0)) from hr2)
    have zy := lt_of_heap hr2
    clear hr2 hk2 hb6 H7
    go_upto_region 8 with (at_builtin; refine wpList_append_any _ rfl (.tmp 67) (.tmp 69) _ (by rfl) w4.heap.size 70 k0 _ 4 4 Tryz.underlying23 hk0 hm0 hm1 hm2 rfl (by omega) (.slice Ar i cr) i ((rowsN l1 i).flatMap jCells) (by rfl) (own_below (own_below Hown.out HB6.out) (by go_grown)) (some ⟨w6.heap.size, 0, none⟩) 1 1 (jCells (tag0 ⟨ys, yh, yt, yd⟩)) (by rfl) rfl (cells_of (row_new _ _ _)) (jCells_one _) (by simp only [maxLen]; omega) (by omega) (by simp; have := HBr.out.size; have := HB6.out.size; omega) ?_; intro v9 w9 hown9 hg9 hat9)
    rw [← HSn.out] at hown9
    obtain ⟨A8, c8, rfl, -, -, -⟩ := own_slice hown9
    have hba : Below w6.heap.size w6 (w6.alloc (.cells #[.int .u8 ys, .int .u8 yh, .int .u8 0, .bool yd] 70)) := by go_grown
    have HB9 := Lib.hid (Below.grown (below_only (below_only HBr.out HB6.out) hba) hg9 (by simp; have := HBr.out.size; have := HB6.out.size; omega) (fun i hi => own_ge Hown.out i hi))
    clear y0 y1 y2 y3 zy hba hg9 hat9
    go_wp2_with fail
    go_roundw
    case rel => exact ⟨i + 1, A8, c8, by omega, rfl, by go_num, hown9, HB9.out⟩
    case measure => simp [intOf] <;> omega
   ·have Hke : Hid (i = min l1.length 7) := Lib.hid (by omega)
    go_upto_region 7 with fail
    try simp only [Act.put]
    go_cut [59] from 52 to 59 (fun vv wx => vv = .bool false ∧ wr = wx)
    case first =>
     by_cases h9 : i < l1.length
     ·have kL : (i : Int) < (l1.length : Int) := by omega
      have k7 : ¬ ((i : Int) < 7) := by omega
      go_wp2_with fail
      go_meet
      exact ⟨rfl, rfl⟩
     ·have kL : ¬ ((i : Int) < (l1.length : Int)) := by omega
      go_wp2_with fail
      go_meet
      exact ⟨rfl, rfl⟩
    case rest =>
     obtain ⟨rfl, hwx⟩ := hcut
     subst hwx
     have h5r := row_below H5.out HBr.out
     obtain ⟨y0, y1, y2, y3, _⟩ := box4 h5r
     have zy := lt_of_heap h5r
     have fz2 := row_frozen h5r 2
     have fz3 := row_frozen h5r 3
     clear hlt
     go_upto_region 14 with fail
     clear y0 y1 y2 y3 zy fz2 fz3
     have hr2 := row_set (i := 3) (row_set (i := 2) h5r (.int .u8 1)) (.bool false)
     have hk2 : Keep [g5] wr ((wr.setCell ⟨g5, 2, none⟩ (.int .u8 1)).setCell ⟨g5, 3, none⟩ (.bool false)) := ((Keep.refl [g5] wr).setCell (p := ⟨g5, 2, none⟩) (.inl (by simp)) _).setCell (p := ⟨g5, 3, none⟩) (.inl (by simp)) _
     generalize (wr.setCell ⟨g5, 2, none⟩ (.int .u8 1)).setCell ⟨g5, 3, none⟩ (.bool false) = w5 at hr2 hk2 ⊢
     have hr3 : w5.heap[g5]? = some (.cells #[.int .u8 os, .int .u8 oh, .int .u8 1, .bool false] 70 (0, 0)) := hr2
     have HK5 := Lib.hid ((keep_below HBr.out [g5]).trans hk2)
     have HOw5 := Lib.hid (own_keptS Hown.out hk2 (fun k hk => by have h1 := own_ge Hown.out k hk; have := HG54.out; have := lt_of_heap H5.out; simp only [List.mem_singleton]; omega))
     have H55 := Lib.hid hr3
     obtain ⟨y0, y1, y2, y3, _⟩ := box4 hr3
     have zy := lt_of_heap hr3
     clear hr2 hr3 hk2 h5r Hown HBr
     go_upto_region 15 with (at_builtin; refine wpList_append_any _ rfl (.tmp 73) (.tmp 75) _ (by rfl) w4.heap.size 70 k0 _ 4 4 Tryz.underlying23 hk0 hm0 hm1 hm2 rfl (by omega) (.slice Ar i cr) i ((rowsN l1 i).flatMap jCells) (by rfl) (own_below HOw5.out (by go_grown)) (some ⟨w5.heap.size, 0, none⟩) 1 1 (jCells (lastO ⟨os, oh, ot, od⟩)) (by rfl) rfl (cells_of (row_new _ _ _)) (jCells_one _) (by simp only [maxLen]; omega) (by omega) (by simp; have := HK5.out.size; omega) ?_; intro v9 w9 hown9 hg9 hat9)
     obtain ⟨A8, c8, rfl, -, -, -⟩ := own_slice hown9
     have hba : Below w5.heap.size w5 (w5.alloc (.cells #[.int .u8 os, .int .u8 oh, .int .u8 1, .bool false] 70)) := by go_grown
     have hK9 : Keep [g5] w4 w9 := (HK5.out.call hba).grown hg9 (fun k hk => .inr (own_ge HOw5.out k hk))
     have H59 : Hid (w9.heap[g5]? = some (.cells #[.int .u8 os, .int .u8 oh, .int .u8 1, .bool false] 70 (0, 0))) := Lib.hid (row_grown' (row_below H55.out hba) hg9 (fun e => by have h1 := own_ge HOw5.out g5 e.symm; have := HG54.out; have := lt_of_heap H5.out; omega))
     have HB9 := Lib.hid (Keep.under HB.out hK9 HB.out.size (by simp; have := Hg5.out; omega))
     have HFa9 := Lib.hid (FinsAt.kept HFa.out hK9 HFg.out)
     have HPc9 := Lib.hid (Cells.kept HPc.out hK9 (fun z hz => by have := HA9.out z hz; simp only [List.mem_singleton]; omega))
     have HL9 : Hid (w4.heap.size ≤ w9.heap.size) := Lib.hid hK9.size
     obtain ⟨rs, Hrs⟩ : ∃ x, Hid (rowsN l1 i ++ [lastO ⟨os, oh, ot, od⟩] = x ∧ x.length = i + 1) := ⟨_, Lib.hid ⟨rfl, by rw [List.length_append, rowsN_len l1 (by have := Hke.out; omega)]; rfl⟩⟩
     have HRc : Hid (Cells w9 A8 (rs.flatMap jCells)) := Lib.hid (by
      obtain ⟨A7, c7, e7, -, -, h7⟩ := own_slice hown9
      injection e7 with e1 e2 e3
      subst e1
      rw [← Hrs.out.1, List.flatMap_append]
      exact h7)
     have HObs : Hid (obsOf rs = (rowsN l1 i).map obOf ++ [obOf (lastO ⟨os, oh, ot, od⟩)]) := Lib.hid (by rw [← Hrs.out.1]; exact obsOf_rows l1 _ Hke.out)
     have HI : Hid (AlIn [[], P] (obsOf rs) (c18 1) ⟨3, 0, 0, 4⟩) := Lib.hid (by rw [← Hrs.out.1]; exact alIn_slots Hke.out HP.out.2.2.1 HP.out.2.2.2.1)
     have HRok : Hid (∀ y ∈ rs, OjOk y) := Lib.hid (by rw [← Hrs.out.1]; exact rows_ok Hq1.out Hq2.out i)
     have hLd := laid_any ⟨some ⟨gF, 0, none⟩, 2, 2⟩ A8 c8 rs 1 w9 (by decide) HRc.out HRok.out (by rw [Hrs.out.2]; simp only [maxLen]; omega)
     rw [Hrs.out.2] at hLd
     have HLd := Lib.hid hLd
     clear y0 y1 y2 y3 zy hba hg9 hat9 hown9 hK9 hLd H55 HK5 HOw5 HB H5 HPc HFa HFg Hq1 Hq2
     go_wp2_with fail
     refine HLd.out.mono ?_
     rintro r w10 ⟨p, b, X, q, d, rfl, hT, -, hb⟩
     have HT := Lib.hid hT
     replace HB9 := Lib.hid (below_only HB9.out hb)
     replace HFa9 := Lib.hid (HFa9.out.below hb)
     replace HPc9 := Lib.hid (Cells.below HPc9.out hb)
     replace H59 := Lib.hid (row_below H59.out hb)
     have HOff : Hid (FinsOff (some ⟨gF, 0, none⟩) [⟨none, 0, []⟩, ⟨A9, c9, P⟩] b) := Lib.hid (HFo.out b (Nat.le_trans HL9.out hT.low.2.1))
     have HWb : Hid (W.heap.size ≤ b ∧ w9.heap.size ≤ b) := Lib.hid ⟨by have := hT.low.2.1; have := HL9.out; have := HG54.out; have := Hg5.out; omega, hT.low.2.1⟩
     have HAne : Hid (∀ z, A9 = some z → z.block ≠ b) := Lib.hid (fun z hz => HOff.out.x ⟨A9, c9, P⟩ (by simp) z hz)
     clear hT hb HLd HRc HRok HFo
     obtain ⟨k, Hk⟩ : ∃ n : Nat, Hid ((obOf (lastO ⟨os, oh, ot, od⟩)).sl.length = n ∧ os % 7 = (n : Int) ∧ n ≤ 6 ∧ Oj.n (lastO ⟨os, oh, ot, od⟩) = n) := ⟨_, Lib.hid ⟨rfl, by unfold obOf lastO Oj.n; simp; omega, by have := (obOf_ok (lastO ⟨os, oh, ot, od⟩)).n; exact this, by unfold obOf; simp⟩⟩
     obtain ⟨u, Hu⟩ : ∃ u : Nat, Hid (used ((rowsN l1 i).map obOf) = u ∧ u + 2 + k ≤ 64) := ⟨_, Lib.hid ⟨rfl, by
      have h1 := obsOf_used rs
      rw [HObs.out, used_snoc] at h1
      have h2 : (obOf (lastO ⟨os, oh, ot, od⟩)).w = 2 + (obOf (lastO ⟨os, oh, ot, od⟩)).sl.length := rfl
      rw [Hk.out.1] at h2
      omega⟩⟩
     have HUs : Hid (used (obsOf rs) = u + (2 + k)) := Lib.hid (by rw [HObs.out, used_snoc, Hu.out.1]; show u + (2 + (obOf (lastO ⟨os, oh, ot, od⟩)).sl.length) = _; rw [Hk.out.1])
     have hsm : os.tmod 7 = (k : Int) := by rw [Int.tmod_eq_emod_of_nonneg s0]; exact Hk.out.2.1
     have k6 : (k : Int) ≤ 6 := by have := Hk.out; omega
     have k00 : (0 : Int) ≤ (k : Int) := by omega
     obtain ⟨tp, Htp⟩ : ∃ x : Int, Hid (8 * (used (obsOf rs) : Int) = x ∧ x = 8 * (u : Int) + 16 + 8 * (k : Int) ∧ 0 ≤ x ∧ x ≤ 512) := ⟨_, Lib.hid ⟨rfl, by rw [HUs.out]; omega, by omega, by rw [HUs.out]; have := Hu.out; omega⟩⟩
     rw [Htp.out.1] at HT
     obtain ⟨-, -, tp0, tp1⟩ := Htp.out
     have tw : IntKind.i64.wrap tp = tp := IntWalk.i64_in _ (by omega)
     have tw2 : IntKind.i64.wrap (128 + tp) = 128 + tp := IntWalk.i64_in _ (by omega)
     have kw2 : IntKind.i64.wrap (2 + (k : Int)) = 2 + (k : Int) := IntWalk.i64_in _ (by omega)
     have kw3 : IntKind.i64.wrap (8 * (2 + (k : Int))) = 8 * (2 + (k : Int)) := IntWalk.i64_in _ (by omega)
     have kw4 : IntKind.i64.wrap (128 + tp - 8 * (2 + (k : Int))) = 128 + 8 * (u : Int) := by have := Htp.out; rw [IntWalk.i64_in _ (by omega)]; omega
     obtain ⟨y0, y1, y2, y3, _⟩ := box4 H59.out
     have zy := lt_of_heap H59.out
     go_wp2_with fail
     clear y0 y1 y2 y3 zy
     refine (rallGet_any X q d 2 4 0 512 _ 9 128 1 1 _ HT.out.x wsL_b (by decide) (by decide) (by decide)).mono ?_
     rintro r w11 ⟨rfl, hb⟩
     replace HT := Lib.hid (HT.out.below hb)
     replace HB9 := Lib.hid (below_only HB9.out hb)
     replace HFa9 := Lib.hid (HFa9.out.below hb)
     replace HPc9 := Lib.hid (Cells.below HPc9.out hb)
     replace H59 := Lib.hid (row_below H59.out hb)
     clear hb
     go_wp2_with fail
     refine (rallGet_any X q d 2 4 0 512 _ 11 tp 3 1 _ HT.out.x wsL_t (by decide) (by decide) (by decide)).mono ?_
     rintro r w12 ⟨rfl, hb⟩
     replace HT := Lib.hid (HT.out.below hb)
     replace HB9 := Lib.hid (below_only HB9.out hb)
     replace HFa9 := Lib.hid (HFa9.out.below hb)
     replace HPc9 := Lib.hid (Cells.below HPc9.out hb)
     replace H59 := Lib.hid (row_below H59.out hb)
     clear hb
     go_wp2_with fail
     clear tw tw2 kw2 kw3 kw4
     go_loopw [18, 19] (fun v t wz => ∃ (e : Nat) (Aq : Option Addr) (cq : Nat), e ≤ k ∧ v = .slice Aq e cq ∧ t = .int .i64 e ∧ wz.ownsRow w12.heap.size 36 1 (.slice Aq e cq) e (((List.range e).map (hasB oh)).flatMap uCells) ∧ Below w12.heap.size w12 wz) (fun _ t _ => (k - intOf t).toNat)
     case atStart => exact ⟨0, _, _, by omega, rfl, rfl, own_empty (Nat.le_refl _) (row_new _ _ _), (Below.refl _ _).alloc (Nat.le_refl _) _⟩
     case round =>
      obtain ⟨e, Aq, cq, he, rfl, rfl, hown, hBz⟩ := hrel
      have Hown := Lib.hid hown
      have HBz := Lib.hid hBz
      have u0 : (0 : Int) ≤ (e : Int) := by omega
      have u6 : (e : Int) ≤ 6 := by omega
      clear hown hBz
      by_cases hut : e < k
      ·have uI : (e : Int) < (k : Int) := by omega
       obtain ⟨bt, Hbt⟩ : ∃ x : Int, Hid (oh / 2 ^ e % 2 = x ∧ 0 ≤ x ∧ x ≤ 1) := ⟨_, Lib.hid ⟨rfl, by omega, by omega⟩⟩
       have hbit : bits .and .u8 (oh / 2 ^ e) 1 = bt := by rw [has_bits h0 h1]; exact Hbt.out.1
       obtain ⟨_, bt0, bt1⟩ := Hbt.out
       have hbw1 : IntKind.u64.wrap bt = bt := by rw [IntKind.wrap_u64]; omega
       have hbw2 : IntKind.u64.wrap (bt * 7) = bt * 7 := by rw [IntKind.wrap_u64]; omega
       have uw : IntKind.i64.wrap ((e : Int) + 1) = (e : Int) + 1 := IntWalk.i64_in _ (by omega)
       have h5z := row_below H59.out HBz.out
       obtain ⟨y0, y1, y2, y3, _⟩ := box4 h5z
       have zy := lt_of_heap h5z
       clear h5z
       have HSn : Hid (((List.range (e + 1)).map (hasB oh)).flatMap uCells = ((List.range e).map (hasB oh)).flatMap uCells ++ [.int .u64 (bt * 7)]) := Lib.hid (by
        have e9 : hasB oh e = bt * 7 := by unfold hasB; rw [Hbt.out.1]; omega
        rw [List.range_succ, List.map_append, List.flatMap_append]
        simp [e9])
       go_upto_region 24 with (at_builtin; refine wpList_append_any _ rfl (.tmp 111) (.tmp 119) _ (by rfl) w12.heap.size 36 i0 _ 1 8 Tryz.underlying71 hi0 hz0 hz1 hz2 rfl (by omega) (.slice Aq e cq) e (((List.range e).map (hasB oh)).flatMap uCells) (by rfl) (own_below Hown.out (by go_grown)) (some ⟨wr.heap.size, 0, none⟩) 1 1 [.int .u64 (bt * 7)] (by rfl) rfl (cells_of (row_new _ _ _)) (by intro v hv; simp at hv; subst hv; rfl) (by simp only [maxLen]; omega) (by omega) (by simp; have := HBz.out.size; omega) ?_; intro v6 w6 hown6 hg6 hat6)
       rw [← HSn.out] at hown6
       obtain ⟨A6, c6, rfl, -, -, -⟩ := own_slice hown6
       have B6 := Lib.hid (Below.grown (below_only HBz.out (by go_grown)) hg6 (by simp; have := HBz.out.size; omega) (fun i hi => own_ge Hown.out i hi))
       clear y0 y1 y2 y3 zy
       go_wp2_with fail
       go_roundw
       case rel => exact ⟨e + 1, A6, c6, by omega, rfl, by go_num, hown6, B6.out⟩
       case measure => simp [intOf] <;> omega
      ·have uI : ¬ ((e : Int) < (k : Int)) := by omega
       obtain rfl : e = k := by omega
       have HSl : Hid ((obOf (lastO ⟨os, oh, ot, od⟩)).sl = (List.range e).map (hasB oh)) := Lib.hid (by unfold obOf; rw [Hk.out.2.2.2]; rfl)
       have HSln : Hid (((List.range e).map (hasB oh)).length = e) := Lib.hid (by simp)
       have HSc : Hid (Cells wr Aq (((List.range e).map (hasB oh)).flatMap uCells)) := Lib.hid (by
        obtain ⟨A7, c7, e7, -, -, h7⟩ := own_slice Hown.out
        injection e7 with e1 e2 e3
        subst e1
        exact h7)
       replace HT := Lib.hid (HT.out.below HBz.out)
       replace HB9 := Lib.hid (below_only HB9.out HBz.out)
       replace HFa9 := Lib.hid (HFa9.out.below HBz.out)
       have HRn := Lib.hid (rfinRun_any A9 c9 P Aq cq ((List.range e).map (hasB oh)) wr (Cells.below HPc9.out HBz.out) HP.out.2.2.1 HP.out.2.2.2.1 HSc.out (by rw [HSln.out]; omega))
       rw [HSln.out] at HRn
       clear hut Hown HBz HPc9
       go_wp2_with fail
       clear uI
       refine HRn.out.mono ?_
       rintro r w13 ⟨A7, c7, A6, c6, rfl, h7, h6, f7, f6, hb⟩
       obtain ⟨fr, Hfr⟩ : ∃ x, Hid (fin8 P 0 ((List.range e).map (hasB oh)) = x) := ⟨_, Lib.hid rfl⟩
       rw [Hfr.out] at h7 h6 ⊢
       have HFr : Hid (fin8 (fsOf [[], P] (obOf (lastO ⟨os, oh, ot, od⟩)).tg) 0 (obOf (lastO ⟨os, oh, ot, od⟩)).sl = fr) := Lib.hid (by rw [HSl.out, show fsOf [[], P] (obOf (lastO ⟨os, oh, ot, od⟩)).tg = P from rfl]; exact Hfr.out)
       have hTd := rows_todo l1 ⟨os, oh, ot, od⟩ i (P := P) HP.out.2.2.2.2
       have HLa : Hid (laFa [[], P] (obsOf rs) = ⟨(rowsN l1 i).map obOf ++ [⟨fr.sl, 1, true⟩], fr.said, fr.held, fr.n + 1⟩ ∧ (todoR [[], P] (obsOf rs)).length = 1) := Lib.hid (by
        rw [HObs.out]
        exact ⟨laFa_last hTd.1 hTd.2 HFr.out, by rw [todoR_last hTd.1 hTd.2]; rfl⟩)
       have hfn := finGo_n P 8 0 ((List.range e).map (hasB oh))
       have hfs := finGo_saidS P 8 0 ((List.range e).map (hasB oh))
       have hfr := Hfr.out
       unfold fin8 at hfr
       rw [hfr, HSln.out] at hfn
       rw [hfr] at hfs
       have HFn : Hid (fr.n ≤ 8 ∧ fr.sl.length = e ∧ fr.said.length ≤ 8) := Lib.hid ⟨by have := HP.out.2.2.1; omega, hfn.2, hfs⟩
       obtain ⟨frs, frsaid, frh, frn⟩ := fr
       dsimp only at h7 h6 HLa HFn ⊢
       have H7 := Lib.hid (And.intro h7 f7)
       have H6 := Lib.hid (And.intro h6 f6)
       have HZb : Hid (b < wr.heap.size) := Lib.hid (lt_of_heap HT.out.a.row)
       have HZr : Hid (wr.heap.size ≤ w13.heap.size) := Lib.hid hb.size
       replace HT := Lib.hid (HT.out.below hb)
       replace HB9 := Lib.hid (below_only HB9.out hb)
       replace HFa9 := Lib.hid (HFa9.out.below hb)
       clear h7 h6 f7 f6 hb HRn hTd hfn hfs hfr Hfr HFr
       go_wp2_with fail
       refine (alone_any [⟨none, 0, []⟩, ⟨A9, c9, P⟩] (obsOf rs) (c18 1) ⟨3, 0, 0, 4⟩ (some ⟨gF, 0, none⟩) 2 p b _ HI.out (by rw [Htp.out.1]; exact HT.out.a) HFa9.out HOff.out).mono ?_
       rintro r w14 ⟨ch, T, R, rfl, hal, hK⟩
       have hE : Ended [[], P] (obsOf rs) ⟨3, 0, 0, 4⟩ T w14 p b R := hal.ended HI.out
       have HDn : Hid (R.done = true ∧ R.code = (if frh = true then 25 else 0) ∧ R.an = 1) := Lib.hid ⟨hE.dn, by rw [hE.co, HLa.out.1], by rw [hE.an, HLa.out.2]; rfl⟩
       have HSa : Hid (R.asaid.n = frsaid.length ∧ Cells w14 R.asaid.a (frsaid.flatMap nCells)) := Lib.hid (by have h9 := hE.sa; rw [HLa.out.1] at h9; exact ⟨h9.n, h9.e⟩)
       have HW2 : Hid (frh = true → Arn w14 p b (wsL (c18 1) tp 99 (extE ((rowsN l1 i).map obOf ++ [⟨frs, 1, true⟩])))) := Lib.hid (fun hh => by
        have h9 := hE.arn
        rw [ws_held HI.out.f8 (by rw [HLa.out.1]; exact hh), HLa.out.1, Htp.out.1] at h9
        exact h9)
       obtain ⟨N, HN⟩ : ∃ N : Nat, Hid (2 + laN (fsL [⟨none, 0, []⟩, ⟨A9, c9, P⟩]) (obsOf rs) = N ∧ (frh = true → N = 5 + (i + 1) + frn + 1) ∧ frn ≤ N ∧ N ≤ 800) := ⟨_, Lib.hid ⟨rfl, fun hh => by
        show 2 + laN [[], P] (obsOf rs) = _
        unfold laN
        rw [HLa.out.1, HObs.out]
        dsimp only
        rw [hh, if_pos rfl, List.length_append, List.length_map, rowsN_len l1 (by have := Hke.out; omega), List.length_singleton]
        omega, by
        show frn ≤ 2 + laN [[], P] (obsOf rs)
        unfold laN
        rw [HLa.out.1]
        dsimp only
        omega, by
        show 2 + laN [[], P] (obsOf rs) ≤ 800
        have h9 := (laN_bd HI.out.f8 (obsOf rs)).2
        have h10 := HI.out.nobs
        have h11 := HI.out.use
        omega⟩⟩
       rw [HN.out.1]
       have H7k : Hid (Cells w14 A7 (frs.flatMap uCells)) := Lib.hid (Cells.kept H7.out.1 hK (fun z hz => by have h1 := H7.out.2 z hz; have := HZb.out; simp only [List.mem_singleton]; omega))
       have H6k : Hid (Cells w14 A6 (frsaid.flatMap nCells)) := Lib.hid (Cells.kept H6.out.1 hK (fun z hz => by have h1 := H6.out.2 z hz; have := HZb.out; simp only [List.mem_singleton]; omega))
       have HX : Hid (RAll w14 X q d 2 4 0 512 (wsL (c18 1) tp 99 (extE (obsOf rs)))) := Lib.hid (HT.out.x.kept hK (by simpa using HT.out.ne.1) (by simpa using HT.out.ne.2.1) (by simpa using HT.out.ne.2.2.1))
       replace HB9 := Lib.hid (Keep.under HB9.out hK (by have := HB9.out.size; omega) (by simp; exact HWb.out.1))
       clear hal hK hE HT HFa9 H7 H6 HOff HWb HAne
       go_upto_region 28 with (refine wpList_store_row rfl 43 (.tmp 24) (.tmp 133) rfl w14.heap.size R.arr rfl rfl 43 ZRun (row_new _ _ _) infoRun rfl (Rn.one _) ?_; (try simp only [zA, zB, zC, zD, zE]))
       refine alloc_set' w14 _ _ _ ?_
       intro w15 hr hb
       have c21 : w15.cell? ⟨w14.heap.size, 21, none⟩ = some (.bool true) := by rw [row_cell hr, ← HDn.out.1]; rfl
       have c23 : w15.cell? ⟨w14.heap.size, 23, none⟩ = some (.int .i64 (if frh = true then 25 else 0)) := by rw [row_cell hr, ← HDn.out.2.1]; rfl
       have c24 : w15.cell? ⟨w14.heap.size, 24, none⟩ = some (.int .i64 1) := by rw [row_cell hr, ← HDn.out.2.2]; rfl
       have c25 : w15.cell? ⟨w14.heap.size, 25, none⟩ = some (.slice R.asaid.a frsaid.length R.asaid.c) := by rw [row_cell hr, ← HSa.out.1]; rfl
       have z6 := lt_of_heap hr
       obtain ⟨g6, Hg6⟩ : ∃ x, Hid (w14.heap.size = x) := ⟨_, Lib.hid rfl⟩
       have HC6 : Hid (w15.cell? ⟨g6, 21, none⟩ = some (.bool true) ∧ w15.cell? ⟨g6, 23, none⟩ = some (.int .i64 (if frh = true then 25 else 0)) ∧ w15.cell? ⟨g6, 24, none⟩ = some (.int .i64 1) ∧ g6 < w15.heap.size) := Lib.hid (by rw [← Hg6.out]; exact ⟨c21, c23, c24, z6⟩)
       rw [Hg6.out] at c25 z6 ⊢
       have HSa6 := Lib.hid (Cells.below HSa.out.2 hb)
       replace H6k := Lib.hid (Cells.below H6k.out hb)
       replace H7k := Lib.hid (Cells.below H7k.out hb)
       replace HX := Lib.hid (HX.out.below hb)
       replace HW2 := Lib.hid (fun hh => (HW2.out hh).below hb)
       replace HB9 := Lib.hid (below_only HB9.out hb)
       clear hr hb c21 c23 c24 HSa
       go_wp2_with fail
       clear c25 z6
       refine (ints_refl R.asaid.a A6 R.asaid.c c6 frsaid _ (by have := HFn.out; omega) HSa6.out H6k.out).mono ?_
       rintro r w16 ⟨rfl, hb⟩
       replace HB9 := Lib.hid (below_only HB9.out hb)
       replace H7k := Lib.hid (Cells.below H7k.out hb)
       replace HX := Lib.hid (HX.out.below hb)
       replace HW2 := Lib.hid (fun hh => (HW2.out hh).below hb)
       obtain ⟨c21, c23, c24, z6⟩ := HC6.out
       replace c21 := (hb.cell (p := ⟨g6, 21, none⟩) z6).trans c21
       replace c23 := (hb.cell (p := ⟨g6, 23, none⟩) z6).trans c23
       replace c24 := (hb.cell (p := ⟨g6, 24, none⟩) z6).trans c24
       replace z6 := Nat.lt_of_lt_of_le z6 hb.size
       have nN1 : ¬ ((N : Int) < (frn : Int)) := by have := HN.out; omega
       have nN2 : (frn : Int) ≤ (N : Int) := by omega
       clear hb HC6 HSa6 H6k Hg6 HDn
       cases frh
       ·simp only [Bool.false_eq_true, if_false] at c23
        go_wp2_with fail
        go_ret
        exact ⟨rfl, HB9.out⟩
       ·simp only [if_true] at c23
        have HA2 := Lib.hid (HW2.out rfl)
        have HNe := Lib.hid (HN.out.2.1 rfl)
        have cX := HX.out.cell
        have cq : w16.cell? ⟨q, 0, none⟩ = some (.slice (some ⟨d, 0, none⟩) 80 80) := by
         rw [row_cell HX.out.arn.box]
         rw [wsL_len (extE_len HI.out.use)]
         rfl
        have HSw := Lib.hid (fun (j : Nat) (hj : j < 80) => slots_word (obs0 := (rowsN l1 i).map obOf) (x := obOf (lastO ⟨os, oh, ot, od⟩)) (sl := frs) (c := c18 1) (obOf_ok _) rfl (by rw [HFn.out.2.1, Hk.out.1]) (by rw [Hu.out.1]; show u + (2 + (obOf (lastO ⟨os, oh, ot, od⟩)).sl.length) ≤ 64; rw [Hk.out.1]; have := Hu.out; omega) j hj)
        have HTpu : Hid (8 * ((used ((rowsN l1 i).map obOf) + (obOf (lastO ⟨os, oh, ot, od⟩)).w : Nat) : Int) = tp) := Lib.hid (by rw [← Htp.out.1, HObs.out, used_snoc])
        rw [HTpu.out, Hu.out.1, show (obOf (lastO ⟨os, oh, ot, od⟩)).tg = 1 from rfl, show (obOf (lastO ⟨os, oh, ot, od⟩)).w = 2 + e from by show 2 + (obOf (lastO ⟨os, oh, ot, od⟩)).sl.length = _; rw [Hk.out.1], ← HObs.out] at HSw
        have htpe : tp = 8 * (u : Int) + 16 + 8 * (e : Int) := Htp.out.2.1
        have Htpe := Lib.hid htpe
        have u64 : (u : Int) ≤ 64 := by have := Hu.out; omega
        have u0 : (0 : Int) ≤ (u : Int) := by omega
        have HUE : Hid (u + 2 + e ≤ 64) := Lib.hid Hu.out.2
        have nN3 : decide ((N : Int) < (frn : Int)) = false := decide_eq_false nN1
        have nN4 : decide (N < frn) = false := decide_eq_false (by omega)
        clear HW2 htpe HN
        go_wp2_with fail
        clear c21 c23 c24 z6 nN1 nN2 nN3 nN4
        obtain ⟨rl, Hrl⟩ : ∃ x, Hid (i + 1 = x ∧ x ≤ 8) := ⟨_, Lib.hid ⟨rfl, by omega⟩⟩
        rw [Hrl.out.1]
        rw [Hrl.out.1] at HNe
        obtain ⟨at_, Hat⟩ : ∃ x : Int, Hid (128 + 8 * (u : Int) = x) := ⟨_, Lib.hid rfl⟩
        obtain ⟨tt, Htt⟩ : ∃ x : Int, Hid (128 + tp = x) := ⟨_, Lib.hid rfl⟩
        rw [Hat.out, Htt.out]
        have at0 : 128 ≤ at_ := by have := Hat.out; omega
        have at1 : at_ ≤ 640 := by have := Hat.out; omega
        go_loopw [27] (fun v wz => ∃ j : Nat, j ≤ 80 ∧ v = .int .i64 j ∧ w16 = wz) (fun v _ => (80 - intOf v).toNat)
        case atStart => exact ⟨0, by omega, rfl, rfl⟩
        case round =>
         obtain ⟨j, hj, rfl, rfl⟩ := hrel
         have jI0 : (0 : Int) ≤ (j : Int) := by omega
         have jI8 : (j : Int) ≤ 80 := by omega
         have jw8 : IntKind.i64.wrap (8 * (j : Int)) = 8 * (j : Int) := IntWalk.i64_in _ (by omega)
         have aw : IntKind.i64.wrap (at_ + 16) = at_ + 16 := IntWalk.i64_in _ (by omega)
         by_cases hlt : j < 80
         ·obtain ⟨v1, v2, e1, e2, q1, q2, q3⟩ := HSw.out j hlt
          have cd : w16.cell? ⟨d, j, none⟩ = some (.int .u64 v1) := HX.out.arn.cell j v1 e1
          have HWd := Lib.hid (show Calls Tryz.prog 23 #[.pointer (some ⟨p, 0, none⟩), .int .i64 (8 * (j : Int))] w16 fun r w' => r = .returned (.tuple #[.int .u64 v2, .int .i64 0]) ∧ w' = w16 from by
           have h9 := arnWord_any p b _ j v2 w16 HA2.out e2
           rw [show ((j * 8 : Nat) : Int) = 8 * (j : Int) from by omega] at h9
           exact h9)
          have jI : (j : Int) < 80 := by omega
          clear e1 e2 hj hlt
          by_cases ha : j = 16 + u
          ·have hq := q1 ha
           have b1 : ((8 * (j : Int)) == at_) = true := by have := Hat.out; simp; omega
           have b2 : ¬ (at_ + 16 ≤ 8 * (j : Int)) := by have := Hat.out; omega
           clear ha q1 q2 q3
           go_wp2_with fail
           refine HWd.out.mono ?_
           rintro r w17 ⟨rfl, rfl⟩
           go_wp2_with fail
           go_roundw
           case rel => first | exact ⟨j + 1, by omega, by go_num⟩ | exact ⟨j + 1, by omega, by go_num, by first | exact rfl | trivial⟩ | ((repeat apply Exists.intro); exact ⟨⟨j + 1, by omega, by go_num, by first | exact rfl | trivial⟩, rfl⟩)
           case measure => simp [intOf] <;> omega
          ·have b1 : ((8 * (j : Int)) == at_) = false := by have := Hat.out; simp; omega
           by_cases hr : 16 + u + 2 ≤ j ∧ j < 16 + u + (2 + e)
           ·obtain ⟨s, rfl⟩ : ∃ s, j = 16 + u + 2 + s := ⟨j - (16 + u + 2), by omega⟩
            have hs := q2 hr.1 hr.2
            rw [show 16 + u + 2 + s - (16 + u) - 2 = s from by omega] at hs
            obtain ⟨bo, oo, hA7, _, hAc⟩ := u_at H7k.out (by rw [HFn.out.2.1]; omega)
            have co := hAc s v2 hs
            subst hA7
            have sE : (s : Int) < (e : Int) := by omega
            have sI0 : (0 : Int) ≤ (s : Int) := by omega
            obtain ⟨j, Hj⟩ : ∃ j, Hid (16 + u + 2 + s = j) := ⟨_, Lib.hid rfl⟩
            rw [Hj.out] at jI0 jI8 jw8 cd HWd jI b1 ⊢
            have b2 : at_ + 16 ≤ 8 * (j : Int) := by have := Hj.out; have := Hat.out; omega
            have b3 : 8 * (j : Int) < tt := by have := Hj.out; have := Htpe.out; have := Htt.out; omega
            obtain ⟨a8, Ha8⟩ : ∃ x : Int, Hid (16 + (u : Int) = x) := ⟨_, Lib.hid rfl⟩
            obtain ⟨s2, Hs2⟩ : ∃ x : Int, Hid ((s : Int) + 2 = x) := ⟨_, Lib.hid rfl⟩
            have atq : at_.tdiv 8 = a8 := by have := Hat.out; have := Ha8.out; rw [Int.tdiv_eq_ediv_of_nonneg (by omega)]; omega
            have sw1 : IntKind.i64.wrap ((j : Int) - a8) = s2 := by have := Hj.out; have := Ha8.out; have := Hs2.out; rw [IntWalk.i64_in _ (by omega)]; omega
            have sw2 : IntKind.i64.wrap (s2 - 2) = (s : Int) := by have := Hs2.out; rw [IntWalk.i64_in _ (by omega)]; omega
            have aqw : IntKind.i64.wrap a8 = a8 := by have := Ha8.out; exact IntWalk.i64_in _ (by omega)
            clear ha q1 q2 q3 hr hs hAc
            go_wp2_with fail
            refine HWd.out.mono ?_
            rintro r w17 ⟨rfl, rfl⟩
            go_wp2_with fail
            go_roundw
            case rel => first | exact ⟨j + 1, by omega, by go_num⟩ | exact ⟨j + 1, by omega, by go_num, by first | exact rfl | trivial⟩ | ((repeat apply Exists.intro); exact ⟨⟨j + 1, by omega, by go_num, by first | exact rfl | trivial⟩, rfl⟩)
            case measure => simp [intOf] <;> omega
           ·obtain rfl : v1 = v2 := q3 ha (by omega)
            by_cases hb2 : at_ + 16 ≤ 8 * (j : Int)
            ·have b3 : ¬ (8 * (j : Int) < tt) := by have := Htpe.out; have := Htt.out; have := Hat.out; omega
             clear ha q1 q2 q3 hr
             go_wp2_with fail
             refine HWd.out.mono ?_
             rintro r w17 ⟨rfl, rfl⟩
             go_wp2_with fail
             go_roundw
             case rel => first | exact ⟨j + 1, by omega, by go_num⟩ | exact ⟨j + 1, by omega, by go_num, by first | exact rfl | trivial⟩ | ((repeat apply Exists.intro); exact ⟨⟨j + 1, by omega, by go_num, by first | exact rfl | trivial⟩, rfl⟩)
             case measure => simp [intOf] <;> omega
            ·clear ha q1 q2 q3 hr
             go_wp2_with fail
             refine HWd.out.mono ?_
             rintro r w17 ⟨rfl, rfl⟩
             go_wp2_with fail
             go_roundw
             case rel => first | exact ⟨j + 1, by omega, by go_num⟩ | exact ⟨j + 1, by omega, by go_num, by first | exact rfl | trivial⟩ | ((repeat apply Exists.intro); exact ⟨⟨j + 1, by omega, by go_num, by first | exact rfl | trivial⟩, rfl⟩)
             case measure => simp [intOf] <;> omega
         ·have jI : ¬ ((j : Int) < 80) := by omega
          have rl0 : (0 : Int) ≤ (rl : Int) := by omega
          have rl8 : (rl : Int) ≤ 8 := by have := Hrl.out; omega
          have fn0 : (0 : Int) ≤ (frn : Int) := by omega
          have fn8 : (frn : Int) ≤ 8 := by have := HFn.out; omega
          have rw1 : IntKind.i64.wrap (5 + (rl : Int)) = 5 + (rl : Int) := IntWalk.i64_in _ (by omega)
          have rw2 : IntKind.i64.wrap (5 + (rl : Int) + (frn : Int)) = 5 + (rl : Int) + (frn : Int) := IntWalk.i64_in _ (by omega)
          have rw3 : IntKind.i64.wrap (5 + (rl : Int) + (frn : Int) + 1) = 5 + (rl : Int) + (frn : Int) + 1 := IntWalk.i64_in _ (by omega)
          have rN : ((N : Int) == 5 + (rl : Int) + (frn : Int) + 1) = true := by have := HNe.out; simp; omega
          clear hlt hj jw8 aw
          go_wp2_with fail
          refine (rallCtl_any X q d 2 4 0 512 _ 8 1 (c18 1) _ HX.out (by decide) wsL_c (by decide) (by decide)).mono ?_
          rintro r w17 ⟨rfl, hb⟩
          replace HB9 := Lib.hid (below_only HB9.out hb)
          replace HA2 := Lib.hid (HA2.out.below hb)
          clear hb cX cq HX
          go_wp2_with fail
          refine (rpack_as (Lib.hid (pack_right (c := c18 1) (by decide))) _).mono ?_
          rintro r w18 ⟨rfl, hb⟩
          replace HB9 := Lib.hid (below_only HB9.out hb)
          replace HA2 := Lib.hid (HA2.out.below hb)
          clear hb
          obtain ⟨wd, Hwd⟩ : ∃ x, Hid (word (c18 1) = x) := ⟨_, Lib.hid rfl⟩
          rw [Hwd.out]
          go_wp2_with fail
          refine (rplanAt_any 0 1 _ (by decide) (by decide)).mono ?_
          rintro r w19 ⟨rfl, rfl⟩
          go_wp2_with fail
          refine (arnWord_any p b _ 8 wd _ HA2.out (by rw [← Hwd.out]; exact wsL_c)).mono ?_
          rintro r w20 ⟨rfl, rfl⟩
          go_wp2_with fail
          go_ret
          exact ⟨rfl, HB9.out⟩
end Go.Proofs.YtbijaloeilnjoaaGreat
