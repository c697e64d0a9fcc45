/- Layer 18: the walk of alone, of any that leaves; and of one that isn't the last. (Printed by gen_alg18.py.) Layer 18: a step of one who is done: refused, nothing is changed. (Printed by gen_ldn18.py.) Layer 18: alone, of one who leaves, be it the last one or not: which words are changed. Layer 18: the walk of LeaveTouches. (Printed by gen_lt18.py.) -/
import Derived.Test.YtbijaloeilnjoaaGreatLw
import Derived.Test.YtbijaloeilnjoaaGreatLI
import Derived.Test.YtbijaloeilnjoaaGreatLJ
namespace Go.Proofs.YtbijaloeilnjoaaGreat
open Go.RowKit
set_option linter.unusedVariables false
set_option linter.unusedSimpArgs false

/-- how one leaves: where it stands behind n steps -/
structure AlSys (At : Sl → List Nat → World → Nat → Rn → Prop) (fA : Option Addr) (fn fc p b N : Nat) (w : World) : Prop where
 at0 : ∀ ch T w', Below w.heap.size w w' → At ch T w' 0 (call0 ch)
 below : ∀ {ch T n r} {w1 w2 : World}, At ch T w1 n r → Below w1.heap.size w1 w2 → At ch T w2 n r
 kept : ∀ {ch T n r g} {w1 w2 : World}, At ch T w1 n r → Keep [g] w1 w2 → g ∈ T → p ≠ g → b ≠ g → At ch T w2 n r
 dn : ∀ {ch T n r} {w1 : World}, At ch T w1 n r → (r.done = false ∧ n < N) ∨ (r.done = true ∧ n = N)
 step : ∀ {ch T n r} {w1 : World}, At ch T w1 n r → Keep [b] w w1 → (∀ j ∈ T, j < w1.heap.size) → r.done = false →
  Calls Tryz.prog 15 #[.agg #[.int .i64 2, .int .i64 4, .int .i64 0, .int .i64 512], .slice fA fn fc, .pointer (some ⟨p, 0, none⟩), r.v] w1 fun e w2 => Keep [b] w1 w2 ∧ ∃ R, e = .returned (.tuple #[R.v, .int .i64 0]) ∧ At ch T w2 (n + 1) R
set_option maxRecDepth 100000 in
set_option maxHeartbeats 8000000 in
theorem aloneG_any {At : Sl → List Nat → World → Nat → Rn → Prop} (fA : Option Addr) (fn fc p b N : Nat) (w : World) (H : AlSys At fA fn fc p b N w) (hb : b < w.heap.size) (hp : p < w.heap.size) (N9 : N ≤ 800) :
  Calls Tryz.prog 21 #[.pointer (some ⟨p, 0, none⟩), .slice fA fn fc] w fun r w' => ∃ ch T R, r = .returned (.tuple #[R.v, .int .i64 (N : Int)]) ∧ At ch T w' N R ∧ Keep [b] w w' := by
 have HL := Lib.hid (And.intro hb hp)
 have HS := Lib.hid H
 clear hb hp H
 go_enter Tryz.func21, Tryz.ntmps21
 go_upto_region 1 with fail
 refine one_row w _ _ ?_
 intro w1 hr hb
 obtain ⟨g4, hg4⟩ : ∃ x, x = w.heap.size := ⟨_, rfl⟩
 rw [← hg4] at hr ⊢
 have H4 := Lib.hid hr
 have L4 : Hid (w.heap.size ≤ g4 ∧ g4 ≠ b ∧ g4 ≠ p) := Lib.hid (by have := HL.out; omega)
 have HB := Lib.hid hb
 clear hr hb hg4
 go_wp2_with fail
 refine (call18_any _).mono ?_
 rintro r w2 ⟨cA, kc, rfl, -, -, hb⟩
 replace H4 := Lib.hid (row_below H4.out hb)
 replace HB := Lib.hid (below_only HB.out hb)
 obtain ⟨ch, Hch⟩ : ∃ x, Hid ((⟨cA, 1, kc⟩ : Sl) = x) := ⟨_, Lib.hid rfl⟩
 rw [Hch.out]
 clear hb
 obtain ⟨R0, HR0⟩ : ∃ x, Hid (call0 ch = x) := ⟨_, Lib.hid rfl⟩
 rw [HR0.out]
 go_upto_region 2 with (refine wpList_store_row rfl 43 (.tmp 6) (.tmp 8) rfl w2.heap.size R0.arr rfl rfl 43 ZRun (row_new _ _ _) infoRun rfl (Rn.one _) ?_; (try simp only [zA, zB, zC, zD, zE]))
 refine alloc_set' w2 _ _ _ ?_
 intro w3 hr hb
 obtain ⟨g6, hg6⟩ : ∃ x, x = w2.heap.size := ⟨_, rfl⟩
 rw [← hg6] at hr ⊢
 have H6 := Lib.hid hr
 have L6 : Hid (w.heap.size ≤ g6 ∧ g6 ≠ b ∧ g6 ≠ p ∧ g4 ≠ g6) := Lib.hid (by have := HL.out; have := HB.out.size; have := lt_of_heap H4.out; omega)
 replace H4 := Lib.hid (row_below H4.out hb)
 replace HB := Lib.hid (below_only HB.out hb)
 have HAt : Hid (At ch [g4, g6] w3 0 R0) := Lib.hid (by rw [← HR0.out]; exact HS.out.at0 _ _ _ HB.out)
 have HK : Hid (Keep [b] w w3) := Lib.hid (keep_below HB.out [b])
 clear hr hb hg6 HR0 HB
 go_wp2_with fail
 go_loopw [7] (fun tt wz => ∃ (n : Nat) (R : Rn), n ≤ N ∧ tt = .int .i64 n ∧ At ch [g4, g6] wz n R ∧ wz.heap[g6]? = some (.cells R.arr 43 (0, 0)) ∧ wz.heap[g4]? = some (.cells ZRun 43 (0, 0)) ∧ Keep [b] w wz) (fun t _ => (N - (intOf t).toNat))
 case atStart => exact ⟨0, R0, by omega, rfl, HAt.out, H6.out, H4.out, HK.out⟩
 case round =>
  clear HAt H6 H4 HK
  obtain ⟨n, R, hn, rfl, hAt, h6, h4, hK⟩ := hrel
  have HAt := Lib.hid hAt
  have H6 := Lib.hid h6
  have H4 := Lib.hid h4
  have HK := Lib.hid hK
  have hdn := HS.out.dn hAt
  have Hdn := Lib.hid hdn
  have n0 : (0 : Int) ≤ (n : Int) := by omega
  have n9 : (n : Int) < 900 := by omega
  have z6 := lt_of_heap h6
  clear hAt h6 h4 hK hdn
  go_upto_region 3 with fail
  try simp only [Act.put]
  go_cut [15] from 9 to 15 (fun vv wx => vv = .bool (decide (n < N)) ∧ wr = wx)
  case first =>
   rcases Hdn.out with ⟨h1, h2⟩ | ⟨h1, h2⟩
   ·have c21 : wr.cell? ⟨g6, 21, none⟩ = some (.bool false) := by rw [row_cell H6.out, ← h1]; rfl
    have HD := Lib.hid (decide_eq_true h2)
    clear h1 h2
    go_wp2_with fail
    go_meet
    exact ⟨by rw [HD.out], rfl⟩
   ·have c21 : wr.cell? ⟨g6, 21, none⟩ = some (.bool true) := by rw [row_cell H6.out, ← h1]; rfl
    have HD : Hid (decide (n < N) = false) := Lib.hid (decide_eq_false (by omega))
    clear h1 h2
    go_wp2_with fail
    go_meet
    exact ⟨by rw [HD.out], rfl⟩
  case rest =>
   obtain ⟨rfl, hwx⟩ := hcut
   subst hwx
   by_cases hnN : n < N
   ·as_aux_lemma =>
    rw [decide_eq_true hnN]
    have HD : Hid (R.done = false) := Lib.hid (by rcases Hdn.out with ⟨h1, _⟩ | ⟨_, h2⟩; exact h1; omega)
    clear z6
    go_upto_region 4 with fail
    refine wp_region_held_drew (S := fun _ => True) (by kernel_rfl) trivial ?_
    intro hS
    have hd9 : Below wr.heap.size wr wr.drew := Below.drew (Below.refl _ _)
    have hAt := HS.out.below HAt.out hd9
    have hR := row_below H6.out hd9
    have h4 := row_below H4.out hd9
    have hK0 := HK.out.call hd9
    clear hd9 HAt H6 H4 HK
    generalize wr.drew = y0 at hS hAt hR h4 hK0 ⊢
    refine tk (i := 1) (v := ?v1x1) (some 18) rfl rfl (Or.inl ⟨by kernel_rfl, ?h1x1⟩) ?r1x1
    case h1x1 => (intro w' hSw; go_simp; first | done | (with_reducible rfl))
    try simp only [zA, zB, zC, zD, zE]
    refine tk (i := 2) (v := ?v2x2) (some 19) rfl rfl (Or.inl ⟨by kernel_rfl, ?h2x2⟩) ?r2x2
    case h2x2 => (intro w' hSw; go_simp; first | done | (with_reducible rfl))
    try simp only [zA, zB, zC, zD, zE]
    refine wpAnyH_ready (rs := [0, 3]) (by kernel_rfl) (by simp) ?_
    refine AllReadyH.cons rfl (fun K hK => ?_) (AllReadyH.cons rfl (fun K hK => ?_) AllReadyH.nil)
    ·skip
     go_simp
     refine (plan18_any _).mono ?_
     rintro e' yA ⟨rfl, hb⟩
     go_simp
     replace hAt := HS.out.below hAt hb
     replace hR := row_below hR hb
     replace h4 := row_below h4 hb
     replace hK0 := hK0.call hb
     clear hb
     refine hK.out _ _ (trivial) (fun hS => ?_)
     clear hK K
     try simp only [zA, zB, zC, zD, zE]
     refine wpAnyH_ready (rs := [3]) (by kernel_rfl) (by simp) ?_
     refine AllReadyH.cons rfl (fun K hK => ?_) AllReadyH.nil
     refine step_load_row (some 20) rfl rfl 43 (.tmp 6) rfl g6 rfl 43 R.arr (0, 0) _ hR undRun rfl infoRun ?_
     refine hK.out _ _ (trivial) (fun hS => ?_)
     clear hK K
     try simp only [zA, zB, zC, zD, zE]
     refine wpAnyH_ready (rs := [4]) (by kernel_rfl) (by simp) ?_
     refine AllReadyH.cons rfl (fun K hK => ?_) AllReadyH.nil
     go_simp
     refine (HS.out.step hAt hK0 (by intro j hj; simp only [List.mem_cons, List.mem_nil_iff, or_false] at hj; rcases hj with rfl | rfl; exact lt_of_heap h4; exact lt_of_heap hR) HD.out).mono ?_
     rintro e' yS ⟨hk9, R2, rfl, hAt2⟩
     go_simp
     replace hR := hk9.row hR (by simpa using L6.out.2.1)
     replace h4 := hk9.row h4 (by simpa using L4.out.2.1)
     replace hK0 := hK0.trans hk9
     clear hAt hk9
     have hAt := hAt2
     clear hAt2
     refine hK.out _ _ (trivial) (fun hS => ?_)
     clear hK K
     try simp only [zA, zB, zC, zD, zE]
     refine tk (i := 5) (v := ?v5x3) (some 16) rfl rfl (Or.inl ⟨by kernel_rfl, ?h5x3⟩) ?r5x3
     case h5x3 => (intro w' hSw; go_simp; first | done | (with_reducible rfl))
     try simp only [zA, zB, zC, zD, zE]
     refine tk (i := 6) (v := ?v6x4) (some 22) rfl rfl (Or.inl ⟨by kernel_rfl, ?h6x4⟩) ?r6x4
     case h6x4 => (intro w' hSw; go_simp; first | done | (with_reducible rfl))
     try simp only [zA, zB, zC, zD, zE]
     refine tk (i := 7) (v := ?v7x5) (some 23) rfl rfl (Or.inl ⟨by kernel_rfl, ?h7x5⟩) ?r7x5
     case h7x5 => (intro w' hSw; go_simp; first | done | (with_reducible rfl))
     try simp only [zA, zB, zC, zD, zE]
     refine wpAnyH_ready (rs := [8]) (by kernel_rfl) (by simp) ?_
     refine AllReadyH.cons rfl (fun K hK => ?_) AllReadyH.nil
     refine step_store_row none rfl rfl 43 (.tmp 6) (.tmp 22) rfl g6 R2.arr rfl rfl 43 R.arr hR infoRun rfl (Rn.one _) ?_
     have hks := (Keep.refl [g6] yS).setRow (g := g6) (.inl (by simp)) R2.arr
     replace hAt := HS.out.kept hAt hks (by simp) L6.out.2.2.1.symm L6.out.2.1.symm
     replace h4 := hks.row h4 (by simpa using L6.out.2.2.2)
     replace hK0 := hK0.setRow (g := g6) (.inr L6.out.1) R2.arr
     have hR2 : (yS.setRow g6 R2.arr).heap[g6]? = some (.cells R2.arr 43 (0, 0)) := setRow_heap _ _ _ _ _ _ hR
     clear hks hR
     generalize yS.setRow g6 R2.arr = yT at hAt h4 hK0 hR2 ⊢
     refine hK.out _ _ (trivial) (fun hS => ?_)
     clear hK K
     try simp only [zA, zB, zC, zD, zE]
     refine wpAnyH_done (by kernel_rfl) ?_ _
     clear hS
     go_wp2_with fail
     go_roundw
     case rel => exact ⟨n + 1, R2, by omega, by go_num, hAt, hR2, h4, hK0⟩
     case measure => simp [intOf]; omega
    ·skip
     refine step_load_row (some 20) rfl rfl 43 (.tmp 6) rfl g6 rfl 43 R.arr (0, 0) _ hR undRun rfl infoRun ?_
     refine hK.out _ _ (trivial) (fun hS => ?_)
     clear hK K
     try simp only [zA, zB, zC, zD, zE]
     refine wpAnyH_ready (rs := [0]) (by kernel_rfl) (by simp) ?_
     refine AllReadyH.cons rfl (fun K hK => ?_) AllReadyH.nil
     go_simp
     refine (plan18_any _).mono ?_
     rintro e' yA ⟨rfl, hb⟩
     go_simp
     replace hAt := HS.out.below hAt hb
     replace hR := row_below hR hb
     replace h4 := row_below h4 hb
     replace hK0 := hK0.call hb
     clear hb
     refine hK.out _ _ (trivial) (fun hS => ?_)
     clear hK K
     try simp only [zA, zB, zC, zD, zE]
     refine wpAnyH_ready (rs := [4]) (by kernel_rfl) (by simp) ?_
     refine AllReadyH.cons rfl (fun K hK => ?_) AllReadyH.nil
     go_simp
     refine (HS.out.step hAt hK0 (by intro j hj; simp only [List.mem_cons, List.mem_nil_iff, or_false] at hj; rcases hj with rfl | rfl; exact lt_of_heap h4; exact lt_of_heap hR) HD.out).mono ?_
     rintro e' yS ⟨hk9, R2, rfl, hAt2⟩
     go_simp
     replace hR := hk9.row hR (by simpa using L6.out.2.1)
     replace h4 := hk9.row h4 (by simpa using L4.out.2.1)
     replace hK0 := hK0.trans hk9
     clear hAt hk9
     have hAt := hAt2
     clear hAt2
     refine hK.out _ _ (trivial) (fun hS => ?_)
     clear hK K
     try simp only [zA, zB, zC, zD, zE]
     refine tk (i := 5) (v := ?v5x6) (some 16) rfl rfl (Or.inl ⟨by kernel_rfl, ?h5x6⟩) ?r5x6
     case h5x6 => (intro w' hSw; go_simp; first | done | (with_reducible rfl))
     try simp only [zA, zB, zC, zD, zE]
     refine tk (i := 6) (v := ?v6x7) (some 22) rfl rfl (Or.inl ⟨by kernel_rfl, ?h6x7⟩) ?r6x7
     case h6x7 => (intro w' hSw; go_simp; first | done | (with_reducible rfl))
     try simp only [zA, zB, zC, zD, zE]
     refine tk (i := 7) (v := ?v7x8) (some 23) rfl rfl (Or.inl ⟨by kernel_rfl, ?h7x8⟩) ?r7x8
     case h7x8 => (intro w' hSw; go_simp; first | done | (with_reducible rfl))
     try simp only [zA, zB, zC, zD, zE]
     refine wpAnyH_ready (rs := [8]) (by kernel_rfl) (by simp) ?_
     refine AllReadyH.cons rfl (fun K hK => ?_) AllReadyH.nil
     refine step_store_row none rfl rfl 43 (.tmp 6) (.tmp 22) rfl g6 R2.arr rfl rfl 43 R.arr hR infoRun rfl (Rn.one _) ?_
     have hks := (Keep.refl [g6] yS).setRow (g := g6) (.inl (by simp)) R2.arr
     replace hAt := HS.out.kept hAt hks (by simp) L6.out.2.2.1.symm L6.out.2.1.symm
     replace h4 := hks.row h4 (by simpa using L6.out.2.2.2)
     replace hK0 := hK0.setRow (g := g6) (.inr L6.out.1) R2.arr
     have hR2 : (yS.setRow g6 R2.arr).heap[g6]? = some (.cells R2.arr 43 (0, 0)) := setRow_heap _ _ _ _ _ _ hR
     clear hks hR
     generalize yS.setRow g6 R2.arr = yT at hAt h4 hK0 hR2 ⊢
     refine hK.out _ _ (trivial) (fun hS => ?_)
     clear hK K
     try simp only [zA, zB, zC, zD, zE]
     refine wpAnyH_done (by kernel_rfl) ?_ _
     clear hS
     go_wp2_with fail
     go_roundw
     case rel => exact ⟨n + 1, R2, by omega, by go_num, hAt, hR2, h4, hK0⟩
     case measure => simp [intOf]; omega
   ·rw [decide_eq_false hnN]
    have hnE : n = N := by omega
    have Hn := Lib.hid hnE
    clear hnE
    go_wp2_with (first | (refine wpList_load_row rfl 43 (.tmp 6) rfl g6 rfl 43 R.arr (0, 0) _ H6.out undRun rfl infoRun ?_; (try simp only [zA, zB, zC, zD, zE])) | (refine wpList_store_row rfl 43 (.tmp 4) (.tmp 26) rfl g4 R.arr rfl rfl 43 ZRun H4.out infoRun rfl (Rn.one _) ?_; (try simp only [zA, zB, zC, zD, zE])))
    refine bodyPost_ret (results_cell_tmp (fn := Tryz.f21) rfl _ _ g4 43 R.arr (0, 0) rfl (setRow_heap wr _ _ _ _ (0, 0) H4.out) undRun infoRun) rfl ?_
    have hks := (Keep.refl [g4] wr).setRow (g := g4) (.inl (by simp)) R.arr
    have h9 := HS.out.kept HAt.out hks (by simp) L4.out.2.2.symm L4.out.2.1.symm
    rw [Hn.out] at h9
    exact ⟨ch, [g4, g6], R, by rw [← Hn.out]; rfl, h9, HK.out.setRow (.inr L4.out.1) _⟩
/-- one that isn't the last: behind n steps -/
def NdAt (c0 c1 : Ctl) (t : Int) (E : List Int) (p b : Nat) (ch : Sl) (_T : List Nat) (w : World) (n : Nat) (r : Rn) : Prop :=
 (n = 0 ∧ r = call0 ch ∧ Arn w p b (wsL c0 t 99 E)) ∨ (n = 1 ∧ r = runA ch c0 c1 ∧ Arn w p b (wsL c0 t 99 E)) ∨ (n = 2 ∧ r = toldR (runA ch c0 c1) 0 0 noS ∧ Arn w p b (wsL c1 t 99 E))
theorem nd_sys {c0 c1 : Ctl} {t : Int} {E : List Int} {p b : Nat} {w : World} {fA : Option Addr} {fn fc : Nat} (h0 : Right c0) (h1 : Right c1) (hl : leave c0 = (c1, 0)) (h3 : c1.st ≠ 3) (hA : Arn w p b (wsL c0 t 99 E)) : AlSys (NdAt c0 c1 t E p b) fA fn fc p b 2 w where
 at0 := fun ch T w' hb => .inl ⟨rfl, rfl, hA.below hb⟩
 below := by
  rintro ch T n r w1 w2 (⟨a, b, c⟩ | ⟨a, b, c⟩ | ⟨a, b, c⟩) hb
  ·exact .inl ⟨a, b, c.below hb⟩
  ·exact .inr (.inl ⟨a, b, c.below hb⟩)
  ·exact .inr (.inr ⟨a, b, c.below hb⟩)
 kept := by
  rintro ch T n r g w1 w2 (⟨a, b, c⟩ | ⟨a, b, c⟩ | ⟨a, b, c⟩) hk _ h2 h3
  ·exact .inl ⟨a, b, c.kept hk (by simpa using h2) (by simpa using h3)⟩
  ·exact .inr (.inl ⟨a, b, c.kept hk (by simpa using h2) (by simpa using h3)⟩)
  ·exact .inr (.inr ⟨a, b, c.kept hk (by simpa using h2) (by simpa using h3)⟩)
 dn := by
  rintro ch T n r w1 (⟨rfl, rfl, _⟩ | ⟨rfl, rfl, _⟩ | ⟨rfl, rfl, _⟩)
  ·exact .inl ⟨rfl, by omega⟩
  ·exact .inl ⟨rfl, by omega⟩
  ·exact .inr ⟨rfl, rfl⟩
 step := by
  rintro ch T n r w1 (⟨rfl, rfl, ha⟩ | ⟨rfl, rfl, ha⟩ | ⟨rfl, rfl, ha⟩) hk hT hd
  ·refine (ndSee_any h0 h1 hl ha).mono ?_
   rintro e w2 ⟨rfl, h, hk2⟩
   exact ⟨hk2, _, rfl, .inr (.inl ⟨rfl, rfl, h⟩)⟩
  ·refine (ndOk_any h0 h1 h3 ha).mono ?_
   rintro e w2 ⟨rfl, h, hk2⟩
   exact ⟨hk2, _, rfl, .inr (.inr ⟨rfl, rfl, h⟩)⟩
  ·cases hd
end Go.Proofs.YtbijaloeilnjoaaGreat

namespace Go.Proofs.YtbijaloeilnjoaaGreat
open Go.RowKit
set_option linter.unusedVariables false
set_option linter.unusedSimpArgs false

theorem wpList_build_toD {P : Program} {ops : Array Oper} {rest : List Oper} {o : Oper} {a : Act} {w : World} {Q : Exit → Act → World → Prop} (hg : o.guard = none) (t : TypeId) (parts : Array (Nat × Operand)) (ho : o.op = .build t parts) (cells : Array Value)
  (hb : P.built t (parts.map fun (i, x) => (i, a.eval x)).toList = some cells) (h : wpList P ops Q rest (a.put o.dst (.agg cells)) w) : wpList P ops Q (o :: rest) a w :=
 wpList_build hg t parts ho (by rw [hb]; rfl) (by rw [hb]; exact h)
theorem builtZD : Tryz.prog.built 43 [] = some ZRun := by kernel_rfl
set_option maxRecDepth 100000 in
set_option maxHeartbeats 2000000 in
theorem lvDone_any (p : Nat) (s t i h : Int) (fA : Option Addr) (fn fc : Nat) (r : Rn) (w : World) (FF : FuncId) (j : Nat) (KK : Int) (hpc : r.pc = KK) (hf : Instr.findNow (.int .i64) (.int .i64 KK) stepsM.toList 0 = some (some (j, .func (.func FF) #[] #[]))) (hd : r.done = true) :
  Calls Tryz.prog 15 #[.agg #[.int .i64 s, .int .i64 t, .int .i64 i, .int .i64 h], .slice fA fn fc, .pointer (some ⟨p, 0, none⟩), r.v] w fun e w' => e = .returned (.tuple #[.agg ZRun, .int .i64 1]) ∧ Below w.heap.size w w' := by
 have Hf := Lib.hid hf
 have Hpc := Lib.hid hpc
 have Hd := Lib.hid hd
 clear hf hpc hd
 go_enter Tryz.func15, Tryz.ntmps15
 go_upto_region 1 with fail
 refine three_rows w _ _ _ _ _ _ ?_
 intro W hP hR hZ hB
 have HP := Lib.hid hP
 have HR := Lib.hid hR
 have HZ := Lib.hid hZ
 have HB := Lib.hid hB
 clear hP hR hZ hB
 try simp only [Act.put]
 go_cut [10, 11] from 13 to 19 (fun va vb wx => va = .func (.func FF) #[] #[] ∧ vb = .bool true ∧ Below W.heap.size W wx)
 case first =>
  as_aux_lemma =>
   refine wp_region_held_drew (S := fun W' => W'.heap[w.heap.size + 1]? = some (.cells r.arr 43 (0, 0))) (by kernel_rfl) (show W.drew.heap[w.heap.size + 1]? = _ from HR.out) ?_
   intro hS
   have hB0 : Below W.heap.size W W.drew := Below.drew (Below.refl _ _)
   generalize W.drew = y0 at hS hB0 ⊢
   refine tk (i := 1) (v := ?v1x34) (some 15) rfl rfl (Or.inl ⟨by kernel_rfl, ?h1x34⟩) ?r1x34
   case h1x34 => (intro w' hSw; have q7 : w'.cell? ⟨w.heap.size + 1, 7, none⟩ = some (.int .i64 KK) := (by rw [row_cell hSw, ← Hpc.out]; rfl); have zq := lt_of_heap hSw; go_simp; first | done | (with_reducible rfl))
   try simp only [zA, zB, zC, zD, zE]
   refine tk (i := 2) (v := ?v2x35) (some 16) rfl rfl (Or.inl ⟨by kernel_rfl, ?h2x35⟩) ?r2x35
   case h2x35 => (intro w' hSw; have q7 : w'.cell? ⟨w.heap.size + 1, 7, none⟩ = some (.int .i64 KK) := (by rw [row_cell hSw, ← Hpc.out]; rfl); have zq := lt_of_heap hSw; go_simp; first | done | (with_reducible rfl))
   try simp only [zA, zB, zC, zD, zE]
   refine wpAnyH_ready (rs := [0]) (by kernel_rfl) (by simp) ?_
   refine AllReadyH.cons rfl (fun K hK => ?_) AllReadyH.nil
   go_simp
   refine (steps18_any _).mono ?_
   rintro e' y1 ⟨m, rfl, hM, hMn, hb⟩
   go_simp
   replace hB0 := below_only hB0 hb
   refine hK.out _ _ (row_below hS hb) (fun hS => ?_)
   clear hK K
   try simp only [zA, zB, zC, zD, zE]
   clear hb hMn
   refine wpAnyH_ready (rs := [3]) (by kernel_rfl) (by simp) ?_
   refine AllReadyH.cons rfl (fun K hK => ?_) AllReadyH.nil
   refine step_lookup_now (some 17) rfl rfl 100 (.tmp 14) (.tmp 16) rfl 3 98 Tryz.underlying100 Tryz.underlying3 m KK stepsM 12 rfl rfl hM j _ Hf.out ?_
   refine hK.out _ _ (hS) (fun hS => ?_)
   clear hK K
   try simp only [zA, zB, zC, zD, zE]
   refine tk (i := 4) (v := ?v4x36) (some 13) rfl rfl (Or.inl ⟨by kernel_rfl, ?h4x36⟩) ?r4x36
   case h4x36 => (intro w' hSw; have q7 : w'.cell? ⟨w.heap.size + 1, 7, none⟩ = some (.int .i64 KK) := (by rw [row_cell hSw, ← Hpc.out]; rfl); have zq := lt_of_heap hSw; go_simp; first | done | (with_reducible rfl))
   try simp only [zA, zB, zC, zD, zE]
   refine tk (i := 5) (v := ?v5x37) (some 18) rfl rfl (Or.inl ⟨by kernel_rfl, ?h5x37⟩) ?r5x37
   case h5x37 => (intro w' hSw; have q7 : w'.cell? ⟨w.heap.size + 1, 7, none⟩ = some (.int .i64 KK) := (by rw [row_cell hSw, ← Hpc.out]; rfl); have zq := lt_of_heap hSw; go_simp; first | done | (with_reducible rfl))
   try simp only [zA, zB, zC, zD, zE]
   refine tk (i := 6) (v := ?v6x38) (some 19) rfl rfl (Or.inl ⟨by kernel_rfl, ?h6x38⟩) ?r6x38
   case h6x38 => (intro w' hSw; have q7 : w'.cell? ⟨w.heap.size + 1, 7, none⟩ = some (.int .i64 KK) := (by rw [row_cell hSw, ← Hpc.out]; rfl); have zq := lt_of_heap hSw; go_simp; first | done | (with_reducible rfl))
   try simp only [zA, zB, zC, zD, zE]
   refine tk (i := 7) (v := ?v7x39) (some 10) rfl rfl (Or.inl ⟨by kernel_rfl, ?h7x39⟩) ?r7x39
   case h7x39 => (intro w' hSw; have q7 : w'.cell? ⟨w.heap.size + 1, 7, none⟩ = some (.int .i64 KK) := (by rw [row_cell hSw, ← Hpc.out]; rfl); have zq := lt_of_heap hSw; go_simp; first | done | (with_reducible rfl))
   try simp only [zA, zB, zC, zD, zE]
   refine tk (i := 8) (v := ?v8x40) (some 11) rfl rfl (Or.inl ⟨by kernel_rfl, ?h8x40⟩) ?r8x40
   case h8x40 => (intro w' hSw; have q7 : w'.cell? ⟨w.heap.size + 1, 7, none⟩ = some (.int .i64 KK) := (by rw [row_cell hSw, ← Hpc.out]; rfl); have zq := lt_of_heap hSw; go_simp; first | done | (with_reducible rfl))
   try simp only [zA, zB, zC, zD, zE]
   refine wpAnyH_done (by kernel_rfl) ?_ _
   go_wp2_with fail
   go_meet
   exact ⟨rfl, rfl, hB0⟩
 case rest =>
  obtain ⟨rfl, rfl, hb⟩ := hcut
  obtain ⟨w1, hwx⟩ : ∃ x, x = wc := ⟨_, rfl⟩
  subst hwx
  replace HP := Lib.hid (row_below HP.out hb)
  replace HR := Lib.hid (row_below HR.out hb)
  replace HZ := Lib.hid (row_below HZ.out hb)
  replace HB := Lib.hid (below_only HB.out hb)
  clear hb
  have q21 : w1.cell? ⟨w.heap.size + 1, 21, none⟩ = some (.bool true) := by rw [row_cell HR.out, ← Hd.out]; rfl
  have z1 := lt_of_heap HR.out
  go_wp2_with (first | refine wpList_build_toD rfl 43 _ rfl ZRun (by simp only [List.map_toArray, List.map_nil]; exact builtZD) ?_ | refine wpList_store_row rfl 43 (.tmp 8) (.tmp 26) rfl (w.heap.size + 1 + 1) ZRun rfl rfl 43 ZRun HZ.out infoRun rfl (by kernel_rfl) ?_)
  refine bodyPost_ret (results_cell_row_tmp (fn := Tryz.f15) rfl _ _ (w.heap.size + 1 + 1) 43 ZRun (0, 0) _ rfl (setRow_heap w1 _ _ _ _ (0, 0) HZ.out) undRun rfl infoRun) rfl ?_
  exact ⟨rfl, below_setRow HB.out (by omega) _⟩
end Go.Proofs.YtbijaloeilnjoaaGreat

namespace Go.Proofs.YtbijaloeilnjoaaGreat
open Go.RowKit
set_option linter.unusedVariables false
set_option linter.unusedSimpArgs false

/-- which words may differ -/
def Touch (m : Int) (ws1 ws2 : List Int) : Prop := ∀ (j : Nat) (v1 v2 : Int), ws1[j]? = some v1 → ws2[j]? = some v2 → v1 ≠ v2 → j = 8 ∨ (m = 1 ∧ (j = 11 ∨ j = 12 ∨ 16 ≤ j))
theorem touch_all (c c' : Ctl) (t t' g g' : Int) (E E' : List Int) : Touch 1 (wsL c t g E) (wsL c' t' g' E') := by
 intro j v1 v2 h1 h2 hne
 by_cases hj : 16 ≤ j
 ·exact .inr ⟨rfl, .inr (.inr hj)⟩
 have h : j = 0 ∨ j = 1 ∨ j = 2 ∨ j = 3 ∨ j = 4 ∨ j = 5 ∨ j = 6 ∨ j = 7 ∨ j = 8 ∨ j = 9 ∨ j = 10 ∨ j = 11 ∨ j = 12 ∨ j = 13 ∨ j = 14 ∨ j = 15 := by omega
 rcases h with rfl | rfl | rfl | rfl | rfl | rfl | rfl | rfl | rfl | rfl | rfl | rfl | rfl | rfl | rfl | rfl
 all_goals first | exact .inl rfl | exact .inr ⟨rfl, .inl rfl⟩ | exact .inr ⟨rfl, .inr (.inl rfl)⟩ | exact absurd (Option.some.inj (h1.symm.trans h2)) hne
theorem touch_ctl (m : Int) (c c' : Ctl) (t g : Int) (E : List Int) : Touch m (wsL c t g E) (wsL c' t g E) := by
 intro j v1 v2 h1 h2 hne
 by_cases hj : 16 ≤ j
 ·obtain ⟨q, rfl⟩ := Nat.exists_eq_add_of_le hj
  rw [wsL_e] at h1 h2
  rw [h1] at h2
  exact absurd (Option.some.inj h2) hne
 have h : j = 0 ∨ j = 1 ∨ j = 2 ∨ j = 3 ∨ j = 4 ∨ j = 5 ∨ j = 6 ∨ j = 7 ∨ j = 8 ∨ j = 9 ∨ j = 10 ∨ j = 11 ∨ j = 12 ∨ j = 13 ∨ j = 14 ∨ j = 15 := by omega
 rcases h with rfl | rfl | rfl | rfl | rfl | rfl | rfl | rfl | rfl | rfl | rfl | rfl | rfl | rfl | rfl | rfl
 all_goals first | exact .inl rfl | exact absurd (Option.some.inj (h1.symm.trans h2)) hne
/-- its Pc is one of the steps' -/
def PcIn (R : Rn) : Prop := ∃ (KK : Int) (j : Nat) (FF : FuncId), R.pc = KK ∧ Instr.findNow (.int .i64) (.int .i64 KK) stepsM.toList 0 = some (some (j, .func (.func FF) #[] #[]))
theorem AlAt.pcIn {fs : List (List Fo)} {obs : List Ob} {c0 c1 : Ctl} {ch : Sl} {T : List Nat} {w : World} {p b : Nat} {R : Rn} (I : AlIn fs obs c0 c1) (H : AlAt fs obs c0 c1 ch T w p b (2 + laN fs obs) R) : PcIn R := by
 have h3 := (laN_bd I.f8 obs).1
 rcases H with ⟨h, _⟩ | ⟨h, _⟩ | ⟨k, _, _, h, hk, _⟩ | ⟨_, he, hA⟩
 ·omega
 ·omega
 ·omega
 ·obtain ⟨ls, sd, sa, e, _⟩ := he
  subst e
  have hp : (laEnd fs obs).pc = 22 ∨ (laEnd fs obs).pc = 26 := by
   show (if (laFa fs obs).held = true then (22 : Int) else 26) = 22 ∨ (if (laFa fs obs).held = true then (22 : Int) else 26) = 26
   cases (laFa fs obs).held <;> simp
  rcases hp with hp | hp
  ·exact ⟨22, 7, 93, hp, rfl⟩
  ·exact ⟨26, 11, 97, hp, rfl⟩
/-- one who leaves alone -/
theorem aloneT_any (fl : List FSl) (obs : List Ob) (m : Int) (fA : Option Addr) (fc p b : Nat) (w : World) (hm : 1 ≤ m ∧ m ≤ 3) (I : AlIn (fsL fl) obs (c18 1) ⟨3, 0, 0, 4⟩) (hA : Arn w p b (wsL (c18 m) (8 * (used obs : Int)) 99 (extE obs))) (hF : FinsAt w fA fl) (ho : FinsOff fA fl b) :
  Calls Tryz.prog 21 #[.pointer (some ⟨p, 0, none⟩), .slice fA fl.length fc] w fun r w' => ∃ (R : Rn) (n : Nat) (ws2 : List Int), r = .returned (.tuple #[R.v, .int .i64 (n : Int)]) ∧ R.done = true ∧ PcIn R ∧ Arn w' p b ws2 ∧ ws2.length = 80 ∧ Touch m (wsL (c18 m) (8 * (used obs : Int)) 99 (extE obs)) ws2 ∧ Keep [b] w w' := by
 by_cases h1 : m = 1
 ·subst h1
  refine (alone_any fl obs (c18 1) ⟨3, 0, 0, 4⟩ fA fc p b w I hA hF ho).mono ?_
  rintro r w' ⟨ch, T, R, rfl, hal, hK⟩
  have hE := hal.ended I
  refine ⟨R, _, _, rfl, hE.dn, hal.pcIn I, hE.arn, ?_, ?_, hK⟩
  ·cases hh : (laFa (fsL fl) obs).held with
   | true =>
    rw [ws_held I.f8 hh]
    exact wsL_len (extE_len (by rw [laFa_used I.f8]; exact I.use))
   | false =>
    rw [ws_open I.f8 I.use hh]
    exact wsL_len (by simp)
  ·unfold wsOf
   exact touch_all _ _ _ _ _ _ _ _
 ·have hc : leave (c18 m) = (c18 (m - 1), 0) := by
   have : m = 2 ∨ m = 3 := by omega
   rcases this with rfl | rfl
   ·exact (by kernel_rfl : leave (c18 2) = (c18 1, 0))
   ·exact (by kernel_rfl : leave (c18 3) = (c18 2, 0))
  refine (aloneG_any fA fl.length fc p b 2 w (nd_sys (c0 := c18 m) (c1 := c18 (m - 1)) (c18_right hm) (c18_right (by omega)) hc (by show (2 : Int) ≠ 3; decide) hA) (lt_of_heap hA.row) (lt_of_heap hA.box) (by decide)).mono ?_
  rintro r w' ⟨ch, T, R, rfl, hal, hK⟩
  rcases hal with ⟨h, _⟩ | ⟨h, _⟩ | ⟨_, rfl, hA2⟩
  ·omega
  ·omega
  ·exact ⟨_, 2, _, rfl, rfl, ⟨16, 1, 87, rfl, rfl⟩, hA2, wsL_len (extE_len I.use), touch_ctl m _ _ _ _ _, hK⟩
end Go.Proofs.YtbijaloeilnjoaaGreat

namespace Go.Proofs.YtbijaloeilnjoaaGreat
open Go.RowKit
set_option linter.unusedVariables false
set_option linter.unusedSimpArgs false

theorem rarn80 {w : World} {q d : Nat} {ws : List Int} (h : RArn w q d ws) (hl : ws.length = 80) : w.cell? ⟨q, 0, none⟩ = some (.slice (some ⟨d, 0, none⟩) 80 80) := by
 rw [row_cell h.box, hl]
 rfl
/-- what is listed: places of words that differ -/
def Lists (ws1 ws2 : List Int) (cl : List Int) : Prop := ∀ x ∈ cl, ∃ (i : Nat) (v1 v2 : Int), x = 8 * (i : Int) ∧ ws1[i]? = some v1 ∧ ws2[i]? = some v2 ∧ v1 ≠ v2 ∧ i < 80
set_option maxRecDepth 100000 in
set_option maxHeartbeats 8000000 in
theorem leaveTouches_walk (A0 : Option Addr) (c0 : Nat) (l0 : List FSl) (A1 : Option Addr) (c1 : Nat) (l1 : List Oj) (a2 : Int) (W : World) (hl0 : l0.length ≤ c0) (hc0 : c0 ≤ maxLen) (he0 : Cells W A0 (l0.flatMap fslCells)) (hq0 : ∀ e ∈ l0, FslOk W e) (hl1 : l1.length ≤ c1) (hc1 : c1 ≤ maxLen) (he1 : Cells W A1 (l1.flatMap jCells)) (hq1 : ∀ e ∈ l1, OjOk e) (w2 : (Lit.int .u8 a2).wf = true) :
  Calls Tryz.prog 9 #[.slice A0 l0.length c0, .slice A1 l1.length c1, .int .u8 a2] W fun r w' => r = .returned (.bool true) ∧ Below W.heap.size W w' := by
 obtain ⟨i0, hi0, hz0, hz1, hz2⟩ := info_parts infoU64
 obtain ⟨j0, hj0, hy0, hy1, hy2⟩ := info_parts infoInt
 obtain ⟨x0, x1⟩ := wf_u8 w2
 obtain ⟨m, Hme⟩ : ∃ m : Int, Hid (1 + a2 % 3 = m) := ⟨_, Lib.hid rfl⟩
 have Hm : Hid (1 ≤ m ∧ m ≤ 3) := Lib.hid (by have := Hme.out; omega)
 obtain ⟨m1, m3⟩ := Hm.out
 have ht3 : a2.tmod 3 = m - 1 := by have := Hme.out; rw [Int.tmod_eq_emod_of_nonneg x0]; omega
 have hmw : IntKind.i64.wrap (1 + (m - 1)) = m := by rw [IntWalk.i64_in _ (by omega)]; omega
 have hmw2 : IntKind.i64.wrap (m - 1) = m - 1 := IntWalk.i64_in _ (by omega)
 have hmw3 : 1 + (m - 1) = m := by omega
 clear w2
 have HI0 := Lib.hid (finsAt_in he0 hq0)
 have Hq0 := Lib.hid hq0
 have HJ1 := Lib.hid he1
 have Hq1 := Lib.hid hq1
 have Hln := Lib.hid (And.intro (Nat.le_trans hl0 hc0) (Nat.le_trans hl1 hc1))
 have l1I : (l1.length : Int) ≤ 9223372036854775807 := by have := Nat.le_trans hl1 hc1; unfold maxLen at this; omega
 clear hl0 hc0 he0 hq0 hl1 hc1 he1 hq1
 go_enter Tryz.func9, Tryz.ntmps9
 go_wp2_with fail
 refine (shown18_any _).mono ?_
 rintro r w1 ⟨rfl, hb⟩
 have HB := Lib.hid hb
 replace HI0 := Lib.hid (HI0.out.below hb)
 replace HJ1 := Lib.hid (Cells.below HJ1.out hb)
 clear hb
 go_wp2_with fail
 refine (fit_any A0 c0 l0 _ HI0.out (fun x hx o ho => ((Hq0.out x hx).o o ho).op) Hln.out.1 (fun x hx => Nat.le_trans (Hq0.out x hx).n.1 (Hq0.out x hx).n.2)).mono ?_
 rintro r w2 ⟨fA, fc, fl, rfl, hft, hb⟩
 have HFt := Lib.hid hft
 replace HJ1 := Lib.hid (Cells.below HJ1.out hb)
 replace HB := Lib.hid (below_only HB.out hb)
 have HBz := Lib.hid HB.out.size
 have HFs : Hid (fsL fl = fitL (fsL l0)) := Lib.hid hft.is
 have HFa : Hid (FinsAt w2 fA fl) := Lib.hid (hft.fins)
 clear hft hb HI0 Hq0
 have wm : IntKind.i64.wrap m = m := IntWalk.i64_in _ (by omega)
 go_wp2_with fail
 refine (laid_any ⟨fA, fl.length, fc⟩ A1 c1 l1 m _ Hm.out HJ1.out Hq1.out Hln.out.2).mono ?_
 rintro r w3 ⟨p, b, X, q, d, rfl, hT, -, hb⟩
 have HT := Lib.hid hT
 replace HB := Lib.hid (below_only HB.out hb)
 have HOff : Hid (FinsOff fA fl b) := Lib.hid (HFt.out.off hT.low.2.1)
 replace HFa := Lib.hid (HFa.out.below hb)
 have HLw : Hid (w2.heap.size ≤ b ∧ W.heap.size ≤ b) := Lib.hid ⟨hT.low.2.1, Nat.le_trans HBz.out hT.low.2.1⟩
 clear hT hb HJ1 Hq1 HFt
 clear ht3 hmw hmw2 hmw3
 have HI := Lib.hid (alIn_laid (fs := fsL fl) l1 HFs.out)
 obtain ⟨ws1, Hws⟩ : ∃ x, Hid (wsL (c18 m) (8 * (used (obsOf l1) : Int)) 99 (extE (obsOf l1)) = x ∧ x.length = 80 ∧ x[9]? = some 128 ∧ x[10]? = some 512) := ⟨_, Lib.hid ⟨rfl, wsL_len (extE_len HI.out.use), rfl, rfl⟩⟩
 have HAl := Lib.hid (aloneT_any fl (obsOf l1) m fA fc p b)
 rw [Hws.out.1] at HT HAl
 have HLn := Lib.hid Hws.out.2.1
 go_wp2_with fail
 refine (rallGet_any X q d 2 4 0 512 _ 9 128 1 1 _ HT.out.x Hws.out.2.2.1 (by decide) (by decide) (by decide)).mono ?_
 rintro r w4 ⟨rfl, hb⟩
 replace HT := Lib.hid (HT.out.below hb)
 replace HB := Lib.hid (below_only HB.out hb)
 replace HFa := Lib.hid (HFa.out.below hb)
 clear hb
 go_wp2_with fail
 refine (rallGet_any X q d 2 4 0 512 _ 10 512 2 1 _ HT.out.x Hws.out.2.2.2 (by decide) (by decide) (by decide)).mono ?_
 rintro r w5 ⟨rfl, hb⟩
 replace HT := Lib.hid (HT.out.below hb)
 replace HB := Lib.hid (below_only HB.out hb)
 replace HFa := Lib.hid (HFa.out.below hb)
 clear hb
 go_wp2_with fail
 refine (HAl.out _ Hm.out HI.out HT.out.a HFa.out HOff.out).mono ?_
 rintro r w6 ⟨R, n, ws2, rfl, hdn, hpc, hA2, hl2, htch, hK⟩
 have HX : Hid (RAll w6 X q d 2 4 0 512 ws1) := Lib.hid (HT.out.x.kept hK (by simpa using HT.out.ne.1) (by simpa using HT.out.ne.2.1) (by simpa using HT.out.ne.2.2.1))
 have HA2 := Lib.hid hA2
 have Hl2 := Lib.hid hl2
 have Htch := Lib.hid htch
 have Hdn := Lib.hid hdn
 have Hpc := Lib.hid hpc
 replace HB := Lib.hid (Keep.under HB.out hK (by have := HB.out.size; omega) (by simp; exact HLw.out.2))
 clear hK hdn hpc hA2 hl2 htch HT HFa HOff HI HFs HLw HAl
 go_upto_region 10 with (refine wpList_store_row rfl 43 (.tmp 14) (.tmp 64) rfl w6.heap.size R.arr rfl rfl 43 ZRun (row_new _ _ _) infoRun rfl (Rn.one _) ?_; (try simp only [zA, zB, zC, zD, zE]))
 refine alloc_set' w6 _ _ _ ?_
 intro w7 hr hb
 obtain ⟨g6, Hg6⟩ : ∃ x, Hid (w6.heap.size = x) := ⟨_, Lib.hid rfl⟩
 rw [Hg6.out] at hr ⊢
 have H6 := Lib.hid hr
 replace HX := Lib.hid (HX.out.below hb)
 replace HA2 := Lib.hid (HA2.out.below hb)
 replace HB := Lib.hid (below_only HB.out hb)
 clear hr hb Hg6
 go_wp2_with fail
 go_loopw [16, 17] (fun vc vi wr => ∃ (j : Nat) (Ac : Option Addr) (cc : Nat) (cl : List Int), j ≤ 80 ∧ vc = .slice Ac cl.length cc ∧ vi = .int .i64 j ∧ wr.ownsRow w7.heap.size 3 1 (.slice Ac cl.length cc) cl.length (cl.flatMap nCells) ∧ Lists ws1 ws2 cl ∧ cl.length ≤ j ∧ Below w7.heap.size w7 wr) (fun _ vi _ => (80 - intOf vi).toNat)
 case atStart => exact ⟨0, _, _, [], by omega, rfl, rfl, own_empty (Nat.le_refl _) (row_new _ _ _), (fun x hx => by cases hx), Nat.le_refl _, (Below.refl _ _).alloc (Nat.le_refl _) _⟩
 case round =>
  obtain ⟨j, Ac, cc, cl, hj, rfl, rfl, hown, hls, hcl, hBr⟩ := hrel
  have Hown := Lib.hid hown
  have Hls := Lib.hid hls
  have Hcl := Lib.hid hcl
  have HBr := Lib.hid hBr
  have jI0 : (0 : Int) ≤ (j : Int) := by omega
  have jI8 : (j : Int) ≤ 80 := by omega
  have jw8 : IntKind.i64.wrap (8 * (j : Int)) = 8 * (j : Int) := IntWalk.i64_in _ (by omega)
  have jw : IntKind.i64.wrap ((j : Int) + 1) = (j : Int) + 1 := IntWalk.i64_in _ (by omega)
  have hX := HX.out.below hBr
  have hA := HA2.out.below hBr
  have cX := hX.cell
  have cq := rarn80 hX.arn HLn.out
  clear hown hls hcl
  by_cases hlt : j < 80
  ·obtain ⟨v1, e1⟩ : ∃ v, ws1[j]? = some v := ⟨_, List.getElem?_eq_getElem (by rw [HLn.out]; exact hlt)⟩
   obtain ⟨v2, e2⟩ : ∃ v, ws2[j]? = some v := ⟨_, List.getElem?_eq_getElem (by rw [Hl2.out]; exact hlt)⟩
   have cd : wr.cell? ⟨d, j, none⟩ = some (.int .u64 v1) := hX.arn.cell j v1 e1
   have HWd := Lib.hid (show Calls Tryz.prog 23 #[.pointer (some ⟨p, 0, none⟩), .int .i64 (8 * (j : Int))] wr fun r w' => r = .returned (.tuple #[.int .u64 v2, .int .i64 0]) ∧ w' = wr from by
    have h9 := arnWord_any p b _ j v2 wr hA e2
    rw [show ((j * 8 : Nat) : Int) = 8 * (j : Int) from by omega] at h9
    exact h9)
   have jI : (j : Int) < 80 := by omega
   have He := Lib.hid (And.intro e1 e2)
   have Hlt := Lib.hid hlt
   clear e1 e2 hj hlt hX hA hBr
   by_cases hv : v2 = v1
   ·subst hv
    go_wp2_with fail
    refine HWd.out.mono ?_
    rintro r w8 ⟨rfl, rfl⟩
    go_wp2_with fail
    go_roundw
    case rel => exact ⟨j + 1, Ac, cc, cl, by have := Hlt.out; omega, rfl, by go_num, Hown.out, Hls.out, by have := Hcl.out; omega, HBr.out⟩
    case measure => simp [intOf] <;> omega
   ·have hvb : (v2 == v1) = false := by simpa using hv
    have HLs2 : Hid (Lists ws1 ws2 (cl ++ [8 * (j : Int)])) := Lib.hid (fun x hx => by
     rcases List.mem_append.1 hx with hx | hx
     ·exact Hls.out x hx
     ·simp only [List.mem_singleton] at hx
      exact ⟨j, v1, v2, hx, He.out.1, He.out.2, fun h => hv h.symm, Hlt.out⟩)
    go_wp2_with fail
    refine HWd.out.mono ?_
    rintro r w8 ⟨rfl, rfl⟩
    go_upto_region 13 with (at_builtin; refine wpList_append_any _ rfl (.tmp 98) (.tmp 101) _ (by rfl) w7.heap.size 3 j0 _ 1 8 Tryz.underlying38 hj0 hy0 hy1 hy2 rfl (by omega) (.slice Ac cl.length cc) cl.length (cl.flatMap nCells) (by rfl) (own_below Hown.out (by go_grown)) (some ⟨w8.heap.size, 0, none⟩) 1 1 [.int .i64 (8 * (j : Int))] (by rfl) rfl (cells_of (row_new _ _ _)) (by intro v hv; simp at hv; subst hv; rfl) (by have := Hcl.out; have := Hlt.out; simp only [maxLen]; omega) (by have := Hcl.out; have := Hlt.out; omega) (by simp; have := HBr.out.size; omega) ?_; intro v9 w9 hown9 hg9 hat9)
    obtain ⟨A9, c9, rfl, -, -, -⟩ := own_slice hown9
    have HO9 : Hid (w9.ownsRow w7.heap.size 3 1 (.slice A9 (cl ++ [8 * (j : Int)]).length c9) (cl ++ [8 * (j : Int)]).length ((cl ++ [8 * (j : Int)]).flatMap nCells)) := Lib.hid (by rw [List.length_append, List.flatMap_append]; exact hown9)
    have B9 := Lib.hid (Below.grown (below_only HBr.out (by go_grown)) hg9 (by simp; have := HBr.out.size; omega) (fun i hi => own_ge Hown.out i hi))
    have HLc : Hid ((cl ++ [8 * (j : Int)]).length = cl.length + 1) := Lib.hid (by simp)
    clear hown9 hg9 hat9 cd cX cq hv hvb
    go_wp2_with fail
    go_roundw
    case rel => exact ⟨j + 1, A9, c9, cl ++ [8 * (j : Int)], by have := Hlt.out; omega, by rw [HLc.out], by go_num, HO9.out, HLs2.out, by have := Hcl.out; have := HLc.out; omega, B9.out⟩
    case measure => simp [intOf] <;> omega
  ·have jI : ¬ ((j : Int) < 80) := by omega
   have HX8 := Lib.hid hX
   have HA8 := Lib.hid hA
   have H68 := Lib.hid (row_below H6.out hBr)
   have HB8 := Lib.hid (below_only HB.out hBr)
   have HCl : Hid (Cells wr Ac (cl.flatMap nCells)) := Lib.hid (by
    obtain ⟨A9, c9, e9, -, -, h9⟩ := own_slice Hown.out
    injection e9 with e1 e2 e3
    subst e1
    exact h9)
   obtain ⟨w8, hw8⟩ : ∃ x, x = wr := ⟨_, rfl⟩
   subst hw8
   have cl80 : (cl.length : Int) ≤ 80 := by have := Hcl.out; omega
   have cl80N : cl.length ≤ 80 := by omega
   clear hj hlt hX hA hBr Hown HX HA2 HB H6
   go_wp2_with fail
   clear cX cq
   refine (rplanAt_any 0 1 _ (by decide) (by decide)).mono ?_
   rintro r w9 ⟨rfl, rfl⟩
   go_wp2_with fail
   go_loopw [21] (fun v wz => ∃ k : Nat, k ≤ cl.length ∧ v = .int .i64 k ∧ w9 = wz) (fun v _ => (80 - intOf v).toNat)
   case atStart => exact ⟨0, Nat.zero_le _, rfl, rfl⟩
   case round =>
    obtain ⟨k, hk, rfl, rfl⟩ := hrel
    have kI0 : (0 : Int) ≤ (k : Int) := by omega
    have kI8 : (k : Int) ≤ 80 := by omega
    have kw : IntKind.i64.wrap ((k : Int) + 1) = (k : Int) + 1 := IntWalk.i64_in _ (by omega)
    by_cases hkt : k < cl.length
    ·obtain ⟨x, hx⟩ : ∃ x, cl[k]? = some x := ⟨_, List.getElem?_eq_getElem hkt⟩
     obtain ⟨bc, oc, hAc, _, hcc⟩ := n_at HCl.out (by omega)
     have co := hcc k x hx
     subst hAc
     obtain ⟨i, v1, v2, hxi, e1, e2, hne, hi80⟩ := Hls.out x (List.mem_of_getElem? hx)
     have htc := Htch.out i v1 v2 e1 e2 hne
     have Hxi := Lib.hid hxi
     have kL : (k : Int) < (cl.length : Int) := by omega
     have kLN : k < cl.length := hkt
     have Hkt := Lib.hid hkt
     clear hcc hx hkt hk e1 e2 hne hxi
     have wadd : IntKind.i64.wrap (128 + 512) = 640 := by decide
     by_cases hi8 : i = 8
     ·obtain rfl : x = 64 := by have := Hxi.out; omega
      clear htc hi8
      have hm3 : m = 1 ∨ m = 2 ∨ m = 3 := by omega
      clear m1 m3
      rcases hm3 with rfl | rfl | rfl
      all_goals
       go_wp2_with (first | (go_at_call 24; refine (rplanAt_any _ _ _ (by decide) (by decide)).mono ?_; rintro r wq ⟨rfl, rfl⟩))
       go_roundw
       case rel => first | exact ⟨k + 1, by have := Hkt.out; omega, by go_num⟩ | exact ⟨k + 1, by have := Hkt.out; omega, by go_num, by first | exact rfl | trivial⟩ | ((repeat apply Exists.intro); exact ⟨⟨k + 1, by have := Hkt.out; omega, by go_num, by first | exact rfl | trivial⟩, rfl⟩)
       case measure => simp [intOf] <;> omega
     ·obtain ⟨rfl, hj3⟩ : m = 1 ∧ (i = 11 ∨ i = 12 ∨ 16 ≤ i) := by
       rcases htc with h | h
       ·exact absurd h hi8
       ·exact h
      clear htc m1 m3
      by_cases hi16 : 16 ≤ i
      ·have hx0 : 128 ≤ x := by have := Hxi.out; omega
       have hx1 : x < 640 := by have := Hxi.out; omega
       have hxa : (x == 64) = false := by simp; omega
       have hxb : (x == 88) = false := by simp; omega
       have hxc : (x == 96) = false := by simp; omega
       clear hj3 hi16 hi8
       go_wp2_with (first | (go_at_call 24; refine (rplanAt_any _ _ _ (by decide) (by decide)).mono ?_; rintro r wq ⟨rfl, rfl⟩))
       go_roundw
       case rel => first | exact ⟨k + 1, by have := Hkt.out; omega, by go_num⟩ | exact ⟨k + 1, by have := Hkt.out; omega, by go_num, by first | exact rfl | trivial⟩ | ((repeat apply Exists.intro); exact ⟨⟨k + 1, by have := Hkt.out; omega, by go_num, by first | exact rfl | trivial⟩, rfl⟩)
       case measure => simp [intOf] <;> omega
      ·have hx3 : x = 88 ∨ x = 96 := by have := Hxi.out; omega
       clear hj3 hi16 hi8
       rcases hx3 with rfl | rfl
       all_goals
        go_wp2_with (first | (go_at_call 24; refine (rplanAt_any _ _ _ (by decide) (by decide)).mono ?_; rintro r wq ⟨rfl, rfl⟩))
        go_roundw
        case rel => first | exact ⟨k + 1, by have := Hkt.out; omega, by go_num⟩ | exact ⟨k + 1, by have := Hkt.out; omega, by go_num, by first | exact rfl | trivial⟩ | ((repeat apply Exists.intro); exact ⟨⟨k + 1, by have := Hkt.out; omega, by go_num, by first | exact rfl | trivial⟩, rfl⟩)
        case measure => simp [intOf] <;> omega
    ·have kL : ¬ ((k : Int) < (cl.length : Int)) := by omega
     clear hkt
     go_wp2_with fail
     go_loopw [25, 26] (fun vc vi wz => ∃ (s : Nat) (As : Option Addr) (cs : Nat), s ≤ 80 ∧ vc = .slice As s cs ∧ vi = .int .i64 s ∧ wz.ownsRow w9.heap.size 36 1 (.slice As s cs) s ((ws2.take s).flatMap uCells) ∧ Below w9.heap.size w9 wz) (fun _ vi _ => (80 - intOf vi).toNat)
     case atStart => exact ⟨0, _, _, by omega, rfl, rfl, own_empty (Nat.le_refl _) (row_new _ _ _), (Below.refl _ _).alloc (Nat.le_refl _) _⟩
     case round =>
      obtain ⟨s, As, cs, hs, rfl, rfl, hown, hBr⟩ := hrel
      have Hown := Lib.hid hown
      have HBr := Lib.hid hBr
      have sI0 : (0 : Int) ≤ (s : Int) := by omega
      have sI8 : (s : Int) ≤ 80 := by omega
      have sw8 : IntKind.i64.wrap (8 * (s : Int)) = 8 * (s : Int) := IntWalk.i64_in _ (by omega)
      have sw : IntKind.i64.wrap ((s : Int) + 1) = (s : Int) + 1 := IntWalk.i64_in _ (by omega)
      have hX := HX8.out.below hBr
      have hA := HA8.out.below hBr
      have cX := hX.cell
      have cq := rarn80 hX.arn HLn.out
      have HHs := Lib.hid hs
      clear hown hs
      by_cases hst : s < 80
      ·obtain ⟨v2, e2⟩ : ∃ v, ws2[s]? = some v := ⟨_, List.getElem?_eq_getElem (by rw [Hl2.out]; exact hst)⟩
       have HWd := Lib.hid (show Calls Tryz.prog 23 #[.pointer (some ⟨p, 0, none⟩), .int .i64 (8 * (s : Int))] wr fun r w' => r = .returned (.tuple #[.int .u64 v2, .int .i64 0]) ∧ w' = wr from by
        have h9 := arnWord_any p b _ s v2 wr hA e2
        rw [show ((s * 8 : Nat) : Int) = 8 * (s : Int) from by omega] at h9
        exact h9)
       have HSn : Hid ((ws2.take (s + 1)).flatMap uCells = (ws2.take s).flatMap uCells ++ [.int .u64 v2]) := Lib.hid (by rw [List.take_add_one, e2, List.flatMap_append]; rfl)
       have sI : (s : Int) < 80 := by omega
       have Hst := Lib.hid hst
       clear e2 hst hX hA hBr
       go_wp2_with fail
       refine HWd.out.mono ?_
       rintro r w10 ⟨rfl, rfl⟩
       go_upto_region 29 with (at_builtin; refine wpList_append_any _ rfl (.tmp 171) (.tmp 173) _ (by rfl) w9.heap.size 36 i0 _ 1 8 Tryz.underlying71 hi0 hz0 hz1 hz2 rfl (by omega) (.slice As s cs) s ((ws2.take s).flatMap uCells) (by rfl) (own_below Hown.out (by go_grown)) (some ⟨w10.heap.size, 0, none⟩) 1 1 [.int .u64 v2] (by rfl) rfl (cells_of (row_new _ _ _)) (by intro v hv; simp at hv; subst hv; rfl) (by have := HHs.out; simp only [maxLen]; omega) (by have := HHs.out; omega) (by simp; have := HBr.out.size; omega) ?_; intro v11 w11 hown11 hg11 hat11)
       rw [← HSn.out] at hown11
       obtain ⟨A11, c11, rfl, -, -, -⟩ := own_slice hown11
       have B11 := Lib.hid (Below.grown (below_only HBr.out (by go_grown)) hg11 (by simp; have := HBr.out.size; omega) (fun i hi => own_ge Hown.out i hi))
       have HO11 := Lib.hid hown11
       clear hown11 hg11 hat11 cX cq
       go_wp2_with fail
       go_roundw
       case rel => exact ⟨s + 1, A11, c11, by have := Hst.out; omega, rfl, by go_num, HO11.out, B11.out⟩
       case measure => simp [intOf] <;> omega
      ·have sI : ¬ ((s : Int) < 80) := by omega
       have Hse : Hid (s = 80) := Lib.hid (by have := HHs.out; omega)
       have HXe := Lib.hid hX
       have HAe := Lib.hid hA
       have H6e := Lib.hid (row_below H68.out hBr)
       have HBe := Lib.hid (below_only HB8.out hBr)
       have HNow : Hid (Cells wr As (ws2.flatMap uCells)) := Lib.hid (by
        obtain ⟨A7, c7, e7, -, -, h7⟩ := own_slice Hown.out
        injection e7 with e1 e2 e3
        subst e1
        rw [Hse.out, List.take_of_length_le (by rw [Hl2.out]; exact Nat.le_refl _)] at h7
        exact h7)
       obtain ⟨w10, hw10⟩ : ∃ x, x = wr := ⟨_, rfl⟩
       subst hw10
       clear hst hX hA hBr Hown
       obtain ⟨KK, jj, FF, hKK, hFF⟩ := Hpc.out
       have HKK := Lib.hid hKK
       have HFF := Lib.hid hFF
       clear hKK hFF
       go_upto_region 32 with fail
       clear cX cq
       try simp only [Act.put]
       go_cut [29, 30] from 175 to 182 (fun va vb wx => vb = .int .i64 1 ∧ Below w10.heap.size w10 wx)
       case first =>
        refine wp_region_held_drew (S := fun _ => True) (by kernel_rfl) trivial ?_
        intro hS
        have hB0 : Below w10.heap.size w10 w10.drew := Below.drew (Below.refl _ _)
        have hR := row_below H6e.out hB0
        generalize w10.drew = y0 at hS hR hB0 ⊢
        refine tk (i := 1) (v := ?v1x9) (some 177) rfl rfl (Or.inl ⟨by kernel_rfl, ?h1x9⟩) ?r1x9
        case h1x9 => (intro w' hSw; go_simp; first | done | (with_reducible rfl))
        try simp only [zA, zB, zC, zD, zE]
        refine tk (i := 2) (v := ?v2x10) (some 178) rfl rfl (Or.inl ⟨by kernel_rfl, ?h2x10⟩) ?r2x10
        case h2x10 => (intro w' hSw; go_simp; first | done | (with_reducible rfl))
        try simp only [zA, zB, zC, zD, zE]
        refine wpAnyH_ready (rs := [0, 3, 8]) (by kernel_rfl) (by simp) ?_
        refine AllReadyH.cons rfl (fun K hK => ?_) (AllReadyH.cons rfl (fun K hK => ?_) (AllReadyH.cons rfl (fun K hK => ?_) AllReadyH.nil))
        ·skip
         go_simp
         refine (plan18_any _).mono ?_
         rintro e' yA ⟨rfl, hb⟩
         go_simp
         replace hR := row_below hR hb
         replace hB0 := below_only hB0 hb
         clear hb
         refine hK.out _ _ (trivial) (fun hS => ?_)
         clear hK K
         try simp only [zA, zB, zC, zD, zE]
         refine wpAnyH_ready (rs := [3, 8]) (by kernel_rfl) (by simp) ?_
         refine AllReadyH.cons rfl (fun K hK => ?_) (AllReadyH.cons rfl (fun K hK => ?_) AllReadyH.nil)
         ·skip
          refine step_load_row (some 179) rfl rfl 43 (.tmp 14) rfl g6 rfl 43 R.arr (0, 0) _ hR undRun rfl infoRun ?_
          refine hK.out _ _ (trivial) (fun hS => ?_)
          clear hK K
          try simp only [zA, zB, zC, zD, zE]
          refine wpAnyH_ready (rs := [4, 8]) (by kernel_rfl) (by simp) ?_
          refine AllReadyH.cons rfl (fun K hK => ?_) (AllReadyH.cons rfl (fun K hK => ?_) AllReadyH.nil)
          ·skip
           go_simp
           refine (lvDone_any p 2 4 0 512 fA fl.length fc R _ FF jj KK HKK.out HFF.out Hdn.out).mono ?_
           rintro e' yS ⟨rfl, hb⟩
           go_simp
           replace hR := row_below hR hb
           replace hB0 := below_only hB0 hb
           clear hb
           refine hK.out _ _ (trivial) (fun hS => ?_)
           clear hK K
           try simp only [zA, zB, zC, zD, zE]
           refine tk (i := 5) (v := ?v5x11) (some 175) rfl rfl (Or.inl ⟨by kernel_rfl, ?h5x11⟩) ?r5x11
           case h5x11 => (intro w' hSw; go_simp; first | done | (with_reducible rfl))
           try simp only [zA, zB, zC, zD, zE]
           refine tk (i := 6) (v := ?v6x12) (some 181) rfl rfl (Or.inl ⟨by kernel_rfl, ?h6x12⟩) ?r6x12
           case h6x12 => (intro w' hSw; go_simp; first | done | (with_reducible rfl))
           try simp only [zA, zB, zC, zD, zE]
           refine tk (i := 7) (v := ?v7x13) (some 182) rfl rfl (Or.inl ⟨by kernel_rfl, ?h7x13⟩) ?r7x13
           case h7x13 => (intro w' hSw; go_simp; first | done | (with_reducible rfl))
           try simp only [zA, zB, zC, zD, zE]
           refine wpAnyH_ready (rs := [8]) (by kernel_rfl) (by simp) ?_
           refine AllReadyH.cons rfl (fun K hK => ?_) AllReadyH.nil
           refine step_alloc_run (some 29) rfl rfl rfl ?_
           refine k_alloc (fun yZ hZ hb => ?_)
           obtain ⟨gZ, HgZ⟩ : ∃ x, x = yS.heap.size := ⟨_, rfl⟩
           have hgZ : w10.heap.size ≤ gZ := by rw [HgZ]; exact hB0.size
           rw [← HgZ] at hZ ⊢
           clear HgZ
           replace hR := row_below hR hb
           replace hB0 := below_only hB0 hb
           clear hb
           refine hK.out _ _ (trivial) (fun hS => ?_)
           clear hK K
           try simp only [zA, zB, zC, zD, zE]
           refine wpAnyH_ready (rs := [9]) (by kernel_rfl) (by simp) ?_
           refine AllReadyH.cons rfl (fun K hK => ?_) AllReadyH.nil
           refine step_store_row none rfl rfl 43 (.tmp 29) (.tmp 181) rfl gZ ZRun rfl rfl 43 ZRun hZ infoRun rfl (by kernel_rfl) ?_
           replace hB0 := below_setRow hB0 hgZ ZRun
           generalize yZ.setRow gZ ZRun = yT at hB0 ⊢
           refine hK.out _ _ (trivial) (fun hS => ?_)
           clear hK K
           try simp only [zA, zB, zC, zD, zE]
           refine tk (i := 10) (v := ?v10x14) (some 30) rfl rfl (Or.inl ⟨by kernel_rfl, ?h10x14⟩) ?r10x14
           case h10x14 => (intro w' hSw; go_simp; first | done | (with_reducible rfl))
           try simp only [zA, zB, zC, zD, zE]
           refine wpAnyH_done (by kernel_rfl) ?_ _
           clear hS
           go_wp2_with fail
           go_meet
           exact ⟨rfl, hB0⟩
          ·skip
           refine step_alloc_run (some 29) rfl rfl rfl ?_
           refine k_alloc (fun yZ hZ hb => ?_)
           obtain ⟨gZ, HgZ⟩ : ∃ x, x = yA.heap.size := ⟨_, rfl⟩
           have hgZ : w10.heap.size ≤ gZ := by rw [HgZ]; exact hB0.size
           rw [← HgZ] at hZ ⊢
           clear HgZ
           replace hR := row_below hR hb
           replace hB0 := below_only hB0 hb
           clear hb
           refine hK.out _ _ (trivial) (fun hS => ?_)
           clear hK K
           try simp only [zA, zB, zC, zD, zE]
           refine wpAnyH_ready (rs := [4]) (by kernel_rfl) (by simp) ?_
           refine AllReadyH.cons rfl (fun K hK => ?_) AllReadyH.nil
           go_simp
           refine (lvDone_any p 2 4 0 512 fA fl.length fc R _ FF jj KK HKK.out HFF.out Hdn.out).mono ?_
           rintro e' yS ⟨rfl, hb⟩
           go_simp
           replace hR := row_below hR hb
           replace hB0 := below_only hB0 hb
           replace hZ := row_below hZ hb
           clear hb
           refine hK.out _ _ (trivial) (fun hS => ?_)
           clear hK K
           try simp only [zA, zB, zC, zD, zE]
           refine tk (i := 5) (v := ?v5x15) (some 175) rfl rfl (Or.inl ⟨by kernel_rfl, ?h5x15⟩) ?r5x15
           case h5x15 => (intro w' hSw; go_simp; first | done | (with_reducible rfl))
           try simp only [zA, zB, zC, zD, zE]
           refine tk (i := 6) (v := ?v6x16) (some 181) rfl rfl (Or.inl ⟨by kernel_rfl, ?h6x16⟩) ?r6x16
           case h6x16 => (intro w' hSw; go_simp; first | done | (with_reducible rfl))
           try simp only [zA, zB, zC, zD, zE]
           refine tk (i := 7) (v := ?v7x17) (some 182) rfl rfl (Or.inl ⟨by kernel_rfl, ?h7x17⟩) ?r7x17
           case h7x17 => (intro w' hSw; go_simp; first | done | (with_reducible rfl))
           try simp only [zA, zB, zC, zD, zE]
           refine wpAnyH_ready (rs := [9]) (by kernel_rfl) (by simp) ?_
           refine AllReadyH.cons rfl (fun K hK => ?_) AllReadyH.nil
           refine step_store_row none rfl rfl 43 (.tmp 29) (.tmp 181) rfl gZ ZRun rfl rfl 43 ZRun hZ infoRun rfl (by kernel_rfl) ?_
           replace hB0 := below_setRow hB0 hgZ ZRun
           generalize yS.setRow gZ ZRun = yT at hB0 ⊢
           refine hK.out _ _ (trivial) (fun hS => ?_)
           clear hK K
           try simp only [zA, zB, zC, zD, zE]
           refine tk (i := 10) (v := ?v10x18) (some 30) rfl rfl (Or.inl ⟨by kernel_rfl, ?h10x18⟩) ?r10x18
           case h10x18 => (intro w' hSw; go_simp; first | done | (with_reducible rfl))
           try simp only [zA, zB, zC, zD, zE]
           refine wpAnyH_done (by kernel_rfl) ?_ _
           clear hS
           go_wp2_with fail
           go_meet
           exact ⟨rfl, hB0⟩
         ·skip
          refine step_alloc_run (some 29) rfl rfl rfl ?_
          refine k_alloc (fun yZ hZ hb => ?_)
          obtain ⟨gZ, HgZ⟩ : ∃ x, x = yA.heap.size := ⟨_, rfl⟩
          have hgZ : w10.heap.size ≤ gZ := by rw [HgZ]; exact hB0.size
          rw [← HgZ] at hZ ⊢
          clear HgZ
          replace hR := row_below hR hb
          replace hB0 := below_only hB0 hb
          clear hb
          refine hK.out _ _ (trivial) (fun hS => ?_)
          clear hK K
          try simp only [zA, zB, zC, zD, zE]
          refine wpAnyH_ready (rs := [3]) (by kernel_rfl) (by simp) ?_
          refine AllReadyH.cons rfl (fun K hK => ?_) AllReadyH.nil
          refine step_load_row (some 179) rfl rfl 43 (.tmp 14) rfl g6 rfl 43 R.arr (0, 0) _ hR undRun rfl infoRun ?_
          refine hK.out _ _ (trivial) (fun hS => ?_)
          clear hK K
          try simp only [zA, zB, zC, zD, zE]
          refine wpAnyH_ready (rs := [4]) (by kernel_rfl) (by simp) ?_
          refine AllReadyH.cons rfl (fun K hK => ?_) AllReadyH.nil
          go_simp
          refine (lvDone_any p 2 4 0 512 fA fl.length fc R _ FF jj KK HKK.out HFF.out Hdn.out).mono ?_
          rintro e' yS ⟨rfl, hb⟩
          go_simp
          replace hR := row_below hR hb
          replace hB0 := below_only hB0 hb
          replace hZ := row_below hZ hb
          clear hb
          refine hK.out _ _ (trivial) (fun hS => ?_)
          clear hK K
          try simp only [zA, zB, zC, zD, zE]
          refine tk (i := 5) (v := ?v5x19) (some 175) rfl rfl (Or.inl ⟨by kernel_rfl, ?h5x19⟩) ?r5x19
          case h5x19 => (intro w' hSw; go_simp; first | done | (with_reducible rfl))
          try simp only [zA, zB, zC, zD, zE]
          refine tk (i := 6) (v := ?v6x20) (some 181) rfl rfl (Or.inl ⟨by kernel_rfl, ?h6x20⟩) ?r6x20
          case h6x20 => (intro w' hSw; go_simp; first | done | (with_reducible rfl))
          try simp only [zA, zB, zC, zD, zE]
          refine tk (i := 7) (v := ?v7x21) (some 182) rfl rfl (Or.inl ⟨by kernel_rfl, ?h7x21⟩) ?r7x21
          case h7x21 => (intro w' hSw; go_simp; first | done | (with_reducible rfl))
          try simp only [zA, zB, zC, zD, zE]
          refine wpAnyH_ready (rs := [9]) (by kernel_rfl) (by simp) ?_
          refine AllReadyH.cons rfl (fun K hK => ?_) AllReadyH.nil
          refine step_store_row none rfl rfl 43 (.tmp 29) (.tmp 181) rfl gZ ZRun rfl rfl 43 ZRun hZ infoRun rfl (by kernel_rfl) ?_
          replace hB0 := below_setRow hB0 hgZ ZRun
          generalize yS.setRow gZ ZRun = yT at hB0 ⊢
          refine hK.out _ _ (trivial) (fun hS => ?_)
          clear hK K
          try simp only [zA, zB, zC, zD, zE]
          refine tk (i := 10) (v := ?v10x22) (some 30) rfl rfl (Or.inl ⟨by kernel_rfl, ?h10x22⟩) ?r10x22
          case h10x22 => (intro w' hSw; go_simp; first | done | (with_reducible rfl))
          try simp only [zA, zB, zC, zD, zE]
          refine wpAnyH_done (by kernel_rfl) ?_ _
          clear hS
          go_wp2_with fail
          go_meet
          exact ⟨rfl, hB0⟩
        ·skip
         refine step_load_row (some 179) rfl rfl 43 (.tmp 14) rfl g6 rfl 43 R.arr (0, 0) _ hR undRun rfl infoRun ?_
         refine hK.out _ _ (trivial) (fun hS => ?_)
         clear hK K
         try simp only [zA, zB, zC, zD, zE]
         refine wpAnyH_ready (rs := [0, 8]) (by kernel_rfl) (by simp) ?_
         refine AllReadyH.cons rfl (fun K hK => ?_) (AllReadyH.cons rfl (fun K hK => ?_) AllReadyH.nil)
         ·skip
          go_simp
          refine (plan18_any _).mono ?_
          rintro e' yA ⟨rfl, hb⟩
          go_simp
          replace hR := row_below hR hb
          replace hB0 := below_only hB0 hb
          clear hb
          refine hK.out _ _ (trivial) (fun hS => ?_)
          clear hK K
          try simp only [zA, zB, zC, zD, zE]
          refine wpAnyH_ready (rs := [4, 8]) (by kernel_rfl) (by simp) ?_
          refine AllReadyH.cons rfl (fun K hK => ?_) (AllReadyH.cons rfl (fun K hK => ?_) AllReadyH.nil)
          ·skip
           go_simp
           refine (lvDone_any p 2 4 0 512 fA fl.length fc R _ FF jj KK HKK.out HFF.out Hdn.out).mono ?_
           rintro e' yS ⟨rfl, hb⟩
           go_simp
           replace hR := row_below hR hb
           replace hB0 := below_only hB0 hb
           clear hb
           refine hK.out _ _ (trivial) (fun hS => ?_)
           clear hK K
           try simp only [zA, zB, zC, zD, zE]
           refine tk (i := 5) (v := ?v5x23) (some 175) rfl rfl (Or.inl ⟨by kernel_rfl, ?h5x23⟩) ?r5x23
           case h5x23 => (intro w' hSw; go_simp; first | done | (with_reducible rfl))
           try simp only [zA, zB, zC, zD, zE]
           refine tk (i := 6) (v := ?v6x24) (some 181) rfl rfl (Or.inl ⟨by kernel_rfl, ?h6x24⟩) ?r6x24
           case h6x24 => (intro w' hSw; go_simp; first | done | (with_reducible rfl))
           try simp only [zA, zB, zC, zD, zE]
           refine tk (i := 7) (v := ?v7x25) (some 182) rfl rfl (Or.inl ⟨by kernel_rfl, ?h7x25⟩) ?r7x25
           case h7x25 => (intro w' hSw; go_simp; first | done | (with_reducible rfl))
           try simp only [zA, zB, zC, zD, zE]
           refine wpAnyH_ready (rs := [8]) (by kernel_rfl) (by simp) ?_
           refine AllReadyH.cons rfl (fun K hK => ?_) AllReadyH.nil
           refine step_alloc_run (some 29) rfl rfl rfl ?_
           refine k_alloc (fun yZ hZ hb => ?_)
           obtain ⟨gZ, HgZ⟩ : ∃ x, x = yS.heap.size := ⟨_, rfl⟩
           have hgZ : w10.heap.size ≤ gZ := by rw [HgZ]; exact hB0.size
           rw [← HgZ] at hZ ⊢
           clear HgZ
           replace hR := row_below hR hb
           replace hB0 := below_only hB0 hb
           clear hb
           refine hK.out _ _ (trivial) (fun hS => ?_)
           clear hK K
           try simp only [zA, zB, zC, zD, zE]
           refine wpAnyH_ready (rs := [9]) (by kernel_rfl) (by simp) ?_
           refine AllReadyH.cons rfl (fun K hK => ?_) AllReadyH.nil
           refine step_store_row none rfl rfl 43 (.tmp 29) (.tmp 181) rfl gZ ZRun rfl rfl 43 ZRun hZ infoRun rfl (by kernel_rfl) ?_
           replace hB0 := below_setRow hB0 hgZ ZRun
           generalize yZ.setRow gZ ZRun = yT at hB0 ⊢
           refine hK.out _ _ (trivial) (fun hS => ?_)
           clear hK K
           try simp only [zA, zB, zC, zD, zE]
           refine tk (i := 10) (v := ?v10x26) (some 30) rfl rfl (Or.inl ⟨by kernel_rfl, ?h10x26⟩) ?r10x26
           case h10x26 => (intro w' hSw; go_simp; first | done | (with_reducible rfl))
           try simp only [zA, zB, zC, zD, zE]
           refine wpAnyH_done (by kernel_rfl) ?_ _
           clear hS
           go_wp2_with fail
           go_meet
           exact ⟨rfl, hB0⟩
          ·skip
           refine step_alloc_run (some 29) rfl rfl rfl ?_
           refine k_alloc (fun yZ hZ hb => ?_)
           obtain ⟨gZ, HgZ⟩ : ∃ x, x = yA.heap.size := ⟨_, rfl⟩
           have hgZ : w10.heap.size ≤ gZ := by rw [HgZ]; exact hB0.size
           rw [← HgZ] at hZ ⊢
           clear HgZ
           replace hR := row_below hR hb
           replace hB0 := below_only hB0 hb
           clear hb
           refine hK.out _ _ (trivial) (fun hS => ?_)
           clear hK K
           try simp only [zA, zB, zC, zD, zE]
           refine wpAnyH_ready (rs := [4]) (by kernel_rfl) (by simp) ?_
           refine AllReadyH.cons rfl (fun K hK => ?_) AllReadyH.nil
           go_simp
           refine (lvDone_any p 2 4 0 512 fA fl.length fc R _ FF jj KK HKK.out HFF.out Hdn.out).mono ?_
           rintro e' yS ⟨rfl, hb⟩
           go_simp
           replace hR := row_below hR hb
           replace hB0 := below_only hB0 hb
           replace hZ := row_below hZ hb
           clear hb
           refine hK.out _ _ (trivial) (fun hS => ?_)
           clear hK K
           try simp only [zA, zB, zC, zD, zE]
           refine tk (i := 5) (v := ?v5x27) (some 175) rfl rfl (Or.inl ⟨by kernel_rfl, ?h5x27⟩) ?r5x27
           case h5x27 => (intro w' hSw; go_simp; first | done | (with_reducible rfl))
           try simp only [zA, zB, zC, zD, zE]
           refine tk (i := 6) (v := ?v6x28) (some 181) rfl rfl (Or.inl ⟨by kernel_rfl, ?h6x28⟩) ?r6x28
           case h6x28 => (intro w' hSw; go_simp; first | done | (with_reducible rfl))
           try simp only [zA, zB, zC, zD, zE]
           refine tk (i := 7) (v := ?v7x29) (some 182) rfl rfl (Or.inl ⟨by kernel_rfl, ?h7x29⟩) ?r7x29
           case h7x29 => (intro w' hSw; go_simp; first | done | (with_reducible rfl))
           try simp only [zA, zB, zC, zD, zE]
           refine wpAnyH_ready (rs := [9]) (by kernel_rfl) (by simp) ?_
           refine AllReadyH.cons rfl (fun K hK => ?_) AllReadyH.nil
           refine step_store_row none rfl rfl 43 (.tmp 29) (.tmp 181) rfl gZ ZRun rfl rfl 43 ZRun hZ infoRun rfl (by kernel_rfl) ?_
           replace hB0 := below_setRow hB0 hgZ ZRun
           generalize yS.setRow gZ ZRun = yT at hB0 ⊢
           refine hK.out _ _ (trivial) (fun hS => ?_)
           clear hK K
           try simp only [zA, zB, zC, zD, zE]
           refine tk (i := 10) (v := ?v10x30) (some 30) rfl rfl (Or.inl ⟨by kernel_rfl, ?h10x30⟩) ?r10x30
           case h10x30 => (intro w' hSw; go_simp; first | done | (with_reducible rfl))
           try simp only [zA, zB, zC, zD, zE]
           refine wpAnyH_done (by kernel_rfl) ?_ _
           clear hS
           go_wp2_with fail
           go_meet
           exact ⟨rfl, hB0⟩
         ·skip
          refine step_alloc_run (some 29) rfl rfl rfl ?_
          refine k_alloc (fun yZ hZ hb => ?_)
          obtain ⟨gZ, HgZ⟩ : ∃ x, x = y0.heap.size := ⟨_, rfl⟩
          have hgZ : w10.heap.size ≤ gZ := by rw [HgZ]; exact hB0.size
          rw [← HgZ] at hZ ⊢
          clear HgZ
          replace hR := row_below hR hb
          replace hB0 := below_only hB0 hb
          clear hb
          refine hK.out _ _ (trivial) (fun hS => ?_)
          clear hK K
          try simp only [zA, zB, zC, zD, zE]
          refine wpAnyH_ready (rs := [0]) (by kernel_rfl) (by simp) ?_
          refine AllReadyH.cons rfl (fun K hK => ?_) AllReadyH.nil
          go_simp
          refine (plan18_any _).mono ?_
          rintro e' yA ⟨rfl, hb⟩
          go_simp
          replace hR := row_below hR hb
          replace hB0 := below_only hB0 hb
          replace hZ := row_below hZ hb
          clear hb
          refine hK.out _ _ (trivial) (fun hS => ?_)
          clear hK K
          try simp only [zA, zB, zC, zD, zE]
          refine wpAnyH_ready (rs := [4]) (by kernel_rfl) (by simp) ?_
          refine AllReadyH.cons rfl (fun K hK => ?_) AllReadyH.nil
          go_simp
          refine (lvDone_any p 2 4 0 512 fA fl.length fc R _ FF jj KK HKK.out HFF.out Hdn.out).mono ?_
          rintro e' yS ⟨rfl, hb⟩
          go_simp
          replace hR := row_below hR hb
          replace hB0 := below_only hB0 hb
          replace hZ := row_below hZ hb
          clear hb
          refine hK.out _ _ (trivial) (fun hS => ?_)
          clear hK K
          try simp only [zA, zB, zC, zD, zE]
          refine tk (i := 5) (v := ?v5x31) (some 175) rfl rfl (Or.inl ⟨by kernel_rfl, ?h5x31⟩) ?r5x31
          case h5x31 => (intro w' hSw; go_simp; first | done | (with_reducible rfl))
          try simp only [zA, zB, zC, zD, zE]
          refine tk (i := 6) (v := ?v6x32) (some 181) rfl rfl (Or.inl ⟨by kernel_rfl, ?h6x32⟩) ?r6x32
          case h6x32 => (intro w' hSw; go_simp; first | done | (with_reducible rfl))
          try simp only [zA, zB, zC, zD, zE]
          refine tk (i := 7) (v := ?v7x33) (some 182) rfl rfl (Or.inl ⟨by kernel_rfl, ?h7x33⟩) ?r7x33
          case h7x33 => (intro w' hSw; go_simp; first | done | (with_reducible rfl))
          try simp only [zA, zB, zC, zD, zE]
          refine wpAnyH_ready (rs := [9]) (by kernel_rfl) (by simp) ?_
          refine AllReadyH.cons rfl (fun K hK => ?_) AllReadyH.nil
          refine step_store_row none rfl rfl 43 (.tmp 29) (.tmp 181) rfl gZ ZRun rfl rfl 43 ZRun hZ infoRun rfl (by kernel_rfl) ?_
          replace hB0 := below_setRow hB0 hgZ ZRun
          generalize yS.setRow gZ ZRun = yT at hB0 ⊢
          refine hK.out _ _ (trivial) (fun hS => ?_)
          clear hK K
          try simp only [zA, zB, zC, zD, zE]
          refine tk (i := 10) (v := ?v10x34) (some 30) rfl rfl (Or.inl ⟨by kernel_rfl, ?h10x34⟩) ?r10x34
          case h10x34 => (intro w' hSw; go_simp; first | done | (with_reducible rfl))
          try simp only [zA, zB, zC, zD, zE]
          refine wpAnyH_done (by kernel_rfl) ?_ _
          clear hS
          go_wp2_with fail
          go_meet
          exact ⟨rfl, hB0⟩
        ·skip
         refine step_alloc_run (some 29) rfl rfl rfl ?_
         refine k_alloc (fun yZ hZ hb => ?_)
         obtain ⟨gZ, HgZ⟩ : ∃ x, x = y0.heap.size := ⟨_, rfl⟩
         have hgZ : w10.heap.size ≤ gZ := by rw [HgZ]; exact hB0.size
         rw [← HgZ] at hZ ⊢
         clear HgZ
         replace hR := row_below hR hb
         replace hB0 := below_only hB0 hb
         clear hb
         refine hK.out _ _ (trivial) (fun hS => ?_)
         clear hK K
         try simp only [zA, zB, zC, zD, zE]
         refine wpAnyH_ready (rs := [0, 3]) (by kernel_rfl) (by simp) ?_
         refine AllReadyH.cons rfl (fun K hK => ?_) (AllReadyH.cons rfl (fun K hK => ?_) AllReadyH.nil)
         ·skip
          go_simp
          refine (plan18_any _).mono ?_
          rintro e' yA ⟨rfl, hb⟩
          go_simp
          replace hR := row_below hR hb
          replace hB0 := below_only hB0 hb
          replace hZ := row_below hZ hb
          clear hb
          refine hK.out _ _ (trivial) (fun hS => ?_)
          clear hK K
          try simp only [zA, zB, zC, zD, zE]
          refine wpAnyH_ready (rs := [3]) (by kernel_rfl) (by simp) ?_
          refine AllReadyH.cons rfl (fun K hK => ?_) AllReadyH.nil
          refine step_load_row (some 179) rfl rfl 43 (.tmp 14) rfl g6 rfl 43 R.arr (0, 0) _ hR undRun rfl infoRun ?_
          refine hK.out _ _ (trivial) (fun hS => ?_)
          clear hK K
          try simp only [zA, zB, zC, zD, zE]
          refine wpAnyH_ready (rs := [4]) (by kernel_rfl) (by simp) ?_
          refine AllReadyH.cons rfl (fun K hK => ?_) AllReadyH.nil
          go_simp
          refine (lvDone_any p 2 4 0 512 fA fl.length fc R _ FF jj KK HKK.out HFF.out Hdn.out).mono ?_
          rintro e' yS ⟨rfl, hb⟩
          go_simp
          replace hR := row_below hR hb
          replace hB0 := below_only hB0 hb
          replace hZ := row_below hZ hb
          clear hb
          refine hK.out _ _ (trivial) (fun hS => ?_)
          clear hK K
          try simp only [zA, zB, zC, zD, zE]
          refine tk (i := 5) (v := ?v5x35) (some 175) rfl rfl (Or.inl ⟨by kernel_rfl, ?h5x35⟩) ?r5x35
          case h5x35 => (intro w' hSw; go_simp; first | done | (with_reducible rfl))
          try simp only [zA, zB, zC, zD, zE]
          refine tk (i := 6) (v := ?v6x36) (some 181) rfl rfl (Or.inl ⟨by kernel_rfl, ?h6x36⟩) ?r6x36
          case h6x36 => (intro w' hSw; go_simp; first | done | (with_reducible rfl))
          try simp only [zA, zB, zC, zD, zE]
          refine tk (i := 7) (v := ?v7x37) (some 182) rfl rfl (Or.inl ⟨by kernel_rfl, ?h7x37⟩) ?r7x37
          case h7x37 => (intro w' hSw; go_simp; first | done | (with_reducible rfl))
          try simp only [zA, zB, zC, zD, zE]
          refine wpAnyH_ready (rs := [9]) (by kernel_rfl) (by simp) ?_
          refine AllReadyH.cons rfl (fun K hK => ?_) AllReadyH.nil
          refine step_store_row none rfl rfl 43 (.tmp 29) (.tmp 181) rfl gZ ZRun rfl rfl 43 ZRun hZ infoRun rfl (by kernel_rfl) ?_
          replace hB0 := below_setRow hB0 hgZ ZRun
          generalize yS.setRow gZ ZRun = yT at hB0 ⊢
          refine hK.out _ _ (trivial) (fun hS => ?_)
          clear hK K
          try simp only [zA, zB, zC, zD, zE]
          refine tk (i := 10) (v := ?v10x38) (some 30) rfl rfl (Or.inl ⟨by kernel_rfl, ?h10x38⟩) ?r10x38
          case h10x38 => (intro w' hSw; go_simp; first | done | (with_reducible rfl))
          try simp only [zA, zB, zC, zD, zE]
          refine wpAnyH_done (by kernel_rfl) ?_ _
          clear hS
          go_wp2_with fail
          go_meet
          exact ⟨rfl, hB0⟩
         ·skip
          refine step_load_row (some 179) rfl rfl 43 (.tmp 14) rfl g6 rfl 43 R.arr (0, 0) _ hR undRun rfl infoRun ?_
          refine hK.out _ _ (trivial) (fun hS => ?_)
          clear hK K
          try simp only [zA, zB, zC, zD, zE]
          refine wpAnyH_ready (rs := [0]) (by kernel_rfl) (by simp) ?_
          refine AllReadyH.cons rfl (fun K hK => ?_) AllReadyH.nil
          go_simp
          refine (plan18_any _).mono ?_
          rintro e' yA ⟨rfl, hb⟩
          go_simp
          replace hR := row_below hR hb
          replace hB0 := below_only hB0 hb
          replace hZ := row_below hZ hb
          clear hb
          refine hK.out _ _ (trivial) (fun hS => ?_)
          clear hK K
          try simp only [zA, zB, zC, zD, zE]
          refine wpAnyH_ready (rs := [4]) (by kernel_rfl) (by simp) ?_
          refine AllReadyH.cons rfl (fun K hK => ?_) AllReadyH.nil
          go_simp
          refine (lvDone_any p 2 4 0 512 fA fl.length fc R _ FF jj KK HKK.out HFF.out Hdn.out).mono ?_
          rintro e' yS ⟨rfl, hb⟩
          go_simp
          replace hR := row_below hR hb
          replace hB0 := below_only hB0 hb
          replace hZ := row_below hZ hb
          clear hb
          refine hK.out _ _ (trivial) (fun hS => ?_)
          clear hK K
          try simp only [zA, zB, zC, zD, zE]
          refine tk (i := 5) (v := ?v5x39) (some 175) rfl rfl (Or.inl ⟨by kernel_rfl, ?h5x39⟩) ?r5x39
          case h5x39 => (intro w' hSw; go_simp; first | done | (with_reducible rfl))
          try simp only [zA, zB, zC, zD, zE]
          refine tk (i := 6) (v := ?v6x40) (some 181) rfl rfl (Or.inl ⟨by kernel_rfl, ?h6x40⟩) ?r6x40
          case h6x40 => (intro w' hSw; go_simp; first | done | (with_reducible rfl))
          try simp only [zA, zB, zC, zD, zE]
          refine tk (i := 7) (v := ?v7x41) (some 182) rfl rfl (Or.inl ⟨by kernel_rfl, ?h7x41⟩) ?r7x41
          case h7x41 => (intro w' hSw; go_simp; first | done | (with_reducible rfl))
          try simp only [zA, zB, zC, zD, zE]
          refine wpAnyH_ready (rs := [9]) (by kernel_rfl) (by simp) ?_
          refine AllReadyH.cons rfl (fun K hK => ?_) AllReadyH.nil
          refine step_store_row none rfl rfl 43 (.tmp 29) (.tmp 181) rfl gZ ZRun rfl rfl 43 ZRun hZ infoRun rfl (by kernel_rfl) ?_
          replace hB0 := below_setRow hB0 hgZ ZRun
          generalize yS.setRow gZ ZRun = yT at hB0 ⊢
          refine hK.out _ _ (trivial) (fun hS => ?_)
          clear hK K
          try simp only [zA, zB, zC, zD, zE]
          refine tk (i := 10) (v := ?v10x42) (some 30) rfl rfl (Or.inl ⟨by kernel_rfl, ?h10x42⟩) ?r10x42
          case h10x42 => (intro w' hSw; go_simp; first | done | (with_reducible rfl))
          try simp only [zA, zB, zC, zD, zE]
          refine wpAnyH_done (by kernel_rfl) ?_ _
          clear hS
          go_wp2_with fail
          go_meet
          exact ⟨rfl, hB0⟩
       case rest =>
        obtain ⟨rfl, hbx⟩ := hcut
        obtain ⟨w11, hw11⟩ : ∃ x, x = wc := ⟨_, rfl⟩
        subst hw11
        replace HXe := Lib.hid (HXe.out.below hbx)
        replace HAe := Lib.hid (HAe.out.below hbx)
        replace H6e := Lib.hid (row_below H6e.out hbx)
        replace HBe := Lib.hid (below_only HBe.out hbx)
        replace HNow := Lib.hid (Cells.below HNow.out hbx)
        clear hbx
        go_wp2_with fail
        go_loopw [31] (fun v wz => ∃ e : Nat, e ≤ s ∧ v = .int .i64 e ∧ w11 = wz) (fun v _ => (80 - intOf v).toNat)
        case atStart => exact ⟨0, Nat.zero_le _, rfl, rfl⟩
        case round =>
         obtain ⟨e, he, rfl, rfl⟩ := hrel
         have eI0 : (0 : Int) ≤ (e : Int) := by omega
         have eI8 : (e : Int) ≤ 80 := by have := Hse.out; omega
         have ew8 : IntKind.i64.wrap (8 * (e : Int)) = 8 * (e : Int) := IntWalk.i64_in _ (by omega)
         have ew : IntKind.i64.wrap ((e : Int) + 1) = (e : Int) + 1 := IntWalk.i64_in _ (by omega)
         by_cases het : e < s
         ·obtain ⟨v2, e2⟩ : ∃ v, ws2[e]? = some v := ⟨_, List.getElem?_eq_getElem (by rw [Hl2.out]; have := Hse.out; omega)⟩
          have HWd := Lib.hid (show Calls Tryz.prog 23 #[.pointer (some ⟨p, 0, none⟩), .int .i64 (8 * (e : Int))] w11 fun r w' => r = .returned (.tuple #[.int .u64 v2, .int .i64 0]) ∧ w' = w11 from by
           have h9 := arnWord_any p b _ e v2 w11 HAe.out e2
           rw [show ((e * 8 : Nat) : Int) = 8 * (e : Int) from by omega] at h9
           exact h9)
          obtain ⟨bo, oo, hAs, _, hAc⟩ := u_at HNow.out (by rw [Hl2.out]; decide)
          have co := hAc e v2 e2
          subst hAs
          have eL : (e : Int) < (s : Int) := by omega
          have Het := Lib.hid het
          clear e2 hAc het he
          go_wp2_with fail
          refine HWd.out.mono ?_
          rintro r w12 ⟨rfl, rfl⟩
          go_wp2_with fail
          go_roundw
          case rel => first | exact ⟨e + 1, by have := Het.out; omega, by go_num⟩ | exact ⟨e + 1, by have := Het.out; omega, by go_num, by first | exact rfl | trivial⟩ | ((repeat apply Exists.intro); exact ⟨⟨e + 1, by have := Het.out; omega, by go_num, by first | exact rfl | trivial⟩, rfl⟩)
          case measure => simp [intOf] <;> omega
         ·have eL : ¬ ((e : Int) < (s : Int)) := by omega
          have c21 : w11.cell? ⟨g6, 21, none⟩ = some (.bool true) := by rw [row_cell H6e.out, ← Hdn.out]; rfl
          have z6 := lt_of_heap H6e.out
          clear het he
          go_wp2_with fail
          go_ret
          exact ⟨rfl, HBe.out⟩
end Go.Proofs.YtbijaloeilnjoaaGreat
