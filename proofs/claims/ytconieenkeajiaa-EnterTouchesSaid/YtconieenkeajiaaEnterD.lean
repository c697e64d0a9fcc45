/- Layer 17: the law's laid and shown. -/
import Derived.Test.YtconieenkeajiaaEnterC
namespace Go.Proofs.Ytconieenkeajiaa
open Go.RowKit
set_option linter.unusedVariables false
set_option linter.unusedSimpArgs false

/-- an arena, the document's beside it -/
structure Two (w : World) (B p b X q d : Nat) (ws : List Int) : Prop where
  a : Arn w p b ws
  x : RAll w X q d 4 4 0 64 ws
  low : B ≤ p ∧ B ≤ b ∧ B ≤ X ∧ B ≤ q ∧ B ≤ d
  ne : X ≠ b ∧ q ≠ b ∧ d ≠ b
  nd : p ≠ d
theorem Two.below {w w' : World} {B p b X q d : Nat} {ws : List Int} (h : Two w B p b X q d ws) (hb : Below w.heap.size w w') : Two w' B p b X q d ws := { h with a := h.a.below hb, x := h.x.below hb }
theorem Two.putA {w w' : World} {B p b X q d : Nat} {ws ws' : List Int} (h : Two w B p b X q d ws) (ha : Arn w' p b ws') (k : Keep [b] w w') : Arn w' p b ws' ∧ RAll w' X q d 4 4 0 64 ws :=
  ⟨ha, h.x.kept k (by simpa using h.ne.1) (by simpa using h.ne.2.1) (by simpa using h.ne.2.2)⟩
def lay1 (ws : List Int) (k : Nat) (c : Ctl) : List Int := ws.set k (word (fit c))
def laidWs (c1 c2 c3 : Ctl) : List Int := lay1 (lay1 (lay1 (newWs 4 0 64) 8 c1) 16 c2) 24 c3
theorem new40 : (newWs 4 0 64).length = 40 := by rw [newWs_len]; decide
theorem lay_get (ws : List Int) (k j : Nat) (c : Ctl) (h : k ≠ j) : (lay1 ws k c)[j]? = ws[j]? := by unfold lay1; rw [List.getElem?_set, if_neg h]
theorem new_0 : (newWs 4 0 64)[0]? = some (word immC) := by decide
theorem new_8 : (newWs 4 0 64)[8]? = some 0 ∧ (newWs 4 0 64)[16]? = some 0 ∧ (newWs 4 0 64)[24]? = some 0 := by decide

set_option maxRecDepth 100000 in
set_option maxHeartbeats 2000000 in
theorem laid_any (s1 n1 p1 e1 s2 n2 p2 e2 s3 n3 p3 e3 : Int) (w : World) :
    Calls Try.prog 10 #[.agg #[.int .i64 s1, .int .i64 n1, .int .i64 p1, .int .i64 e1, .int .i64 s2, .int .i64 n2, .int .i64 p2, .int .i64 e2, .int .i64 s3, .int .i64 n3, .int .i64 p3, .int .i64 e3]] w fun r w' => ∃ p b X q d, r = .returned (.tuple #[.pointer (some ⟨p, 0, none⟩), .pointer (some ⟨X, 0, none⟩)]) ∧ Two w' w.heap.size p b X q d (laidWs ⟨s1, n1, p1, e1⟩ ⟨s2, n2, p2, e2⟩ ⟨s3, n3, p3, e3⟩) ∧ Below w.heap.size w w' := by
  go_enter Try.func10, Try.ntmps10
  go_upto_region 1 with fail
  refine one_row w _ _ ?_
  intro W hR hB
  have HL : Hid (W.heap[w.heap.size]? = some (.cells #[.int .i64 s1, .int .i64 n1, .int .i64 p1, .int .i64 e1, .int .i64 s2, .int .i64 n2, .int .i64 p2, .int .i64 e2, .int .i64 s3, .int .i64 n3, .int .i64 p3, .int .i64 e3] 24 (0, 0))) := Lib.hid hR
  have HB := Lib.hid hB
  clear hR hB
  go_wp2_with fail
  refine (plan_any _).mono ?_
  rintro r w1 ⟨rfl, hb⟩
  replace HL := Lib.hid (row_below HL.out hb)
  replace HB := Lib.hid (below_only HB.out hb)
  clear hb
  go_wp2_with fail
  refine (foundNew_any 4 4 0 64 _ PL).mono ?_
  rintro r w2 ⟨p, b, gg, rfl, hA, hlow, hb⟩
  have HA := Lib.hid hA
  have Hl : Hid (w.heap.size < p ∧ w.heap.size < b) := Lib.hid (by have := lt_of_heap HL.out; omega)
  replace HL := Lib.hid (row_below HL.out hb)
  replace HB := Lib.hid (below_only HB.out hb)
  clear hb hA hlow
  go_wp2_with fail
  refine (plan_any _).mono ?_
  rintro r w3 ⟨rfl, hb⟩
  replace HA := Lib.hid (HA.out.below hb)
  replace HL := Lib.hid (row_below HL.out hb)
  replace HB := Lib.hid (below_only HB.out hb)
  clear hb
  go_wp2_with fail
  refine (rallNew_any 4 4 0 64 _ PL).mono ?_
  rintro r w4 ⟨X, q, d, rfl, hX, hlow, hb⟩
  have h1 := lt_of_heap HA.out.box
  have h2 := lt_of_heap HA.out.row
  have HT : Hid (Two w4 w.heap.size p b X q d (newWs 4 0 64)) := Lib.hid ⟨HA.out.below hb, hX, by have := Hl.out; omega, by omega, by omega⟩
  have Hd : Hid (w.heap.size ≠ b ∧ w.heap.size ≠ d) := Lib.hid (by have := Hl.out; omega)
  replace HL := Lib.hid (row_below HL.out hb)
  replace HB := Lib.hid (below_only HB.out hb)
  clear hb hX hlow h1 h2 HA Hl
  go_wp2_with fail
  go_loopw [8] (fun t wr => ∃ (j : Int) (ws : List Int), t = .int .i64 j ∧ (j = 1 ∧ ws = newWs 4 0 64 ∨ j = 2 ∧ ws = lay1 (newWs 4 0 64) 8 ⟨s1, n1, p1, e1⟩ ∨ j = 3 ∧ ws = lay1 (lay1 (newWs 4 0 64) 8 ⟨s1, n1, p1, e1⟩) 16 ⟨s2, n2, p2, e2⟩ ∨ j = 4 ∧ ws = laidWs ⟨s1, n1, p1, e1⟩ ⟨s2, n2, p2, e2⟩ ⟨s3, n3, p3, e3⟩) ∧ Two wr w.heap.size p b X q d ws ∧ wr.heap[w.heap.size]? = some (.cells #[.int .i64 s1, .int .i64 n1, .int .i64 p1, .int .i64 e1, .int .i64 s2, .int .i64 n2, .int .i64 p2, .int .i64 e2, .int .i64 s3, .int .i64 n3, .int .i64 p3, .int .i64 e3] 24 (0, 0)) ∧ Below w.heap.size w wr) (fun t _ => (4 - intOf t).toNat)
  case atStart => exact ⟨1, _, rfl, .inl ⟨rfl, rfl⟩, HT.out, HL.out, HB.out⟩
  case round =>
    clear HT HL HB
    obtain ⟨j, ws, rfl, hj, hT, hL, hB⟩ := hrel
    have HT := Lib.hid hT
    have HL := Lib.hid hL
    have HB := Lib.hid hB
    clear hT hL hB
    rcases hj with ⟨rfl, rfl⟩ | ⟨rfl, rfl⟩ | ⟨rfl, rfl⟩ | ⟨rfl, rfl⟩
    · have z := lt_of_heap HL.out
      have q0 : wr.cell? ⟨w.heap.size, 0, none⟩ = some (.int .i64 s1) := by rw [row_cell HL.out]; rfl
      have q1 : wr.cell? ⟨w.heap.size, 1, none⟩ = some (.int .i64 n1) := by rw [row_cell HL.out]; rfl
      have q2 : wr.cell? ⟨w.heap.size, 2, none⟩ = some (.int .i64 p1) := by rw [row_cell HL.out]; rfl
      have q3 : wr.cell? ⟨w.heap.size, 3, none⟩ = some (.int .i64 e1) := by rw [row_cell HL.out]; rfl
      obtain ⟨f1, f2, f3, f4, HF⟩ : ∃ f1 f2 f3 f4, Hid (fit ⟨s1, n1, p1, e1⟩ = ⟨f1, f2, f3, f4⟩) := ⟨_, _, _, _, rfl⟩
      have hr := fit_right ⟨s1, n1, p1, e1⟩
      rw [HF.out] at hr
      have HP := Lib.hid (pack_right hr)
      have HY := Lib.hid (word_bd hr)
      have Hw : Hid (word (fit ⟨s1, n1, p1, e1⟩) = word ⟨f1, f2, f3, f4⟩) := Lib.hid (by rw [HF.out])
      obtain ⟨v, Hv⟩ : ∃ v, Hid (word ⟨f1, f2, f3, f4⟩ = v) := ⟨_, rfl⟩
      rw [Hv.out] at HP HY Hw
      clear hr
      go_wp2_with fail
      refine (fit_as HF _).mono ?_
      rintro r x1 ⟨rfl, hb⟩
      replace HT := Lib.hid (HT.out.below hb)
      replace HL := Lib.hid (row_below HL.out hb)
      replace HB := Lib.hid (below_only HB.out hb)
      clear hb z q0 q1 q2 q3
      go_wp2_with fail
      refine (rpack_as HP _).mono ?_
      rintro r x2 ⟨rfl, hb⟩
      replace HT := Lib.hid (HT.out.below hb)
      replace HL := Lib.hid (row_below HL.out hb)
      replace HB := Lib.hid (below_only HB.out hb)
      clear hb
      go_wp2_with fail
      refine (rplanAt_any 0 1 _ (by decide) (by decide)).mono ?_
      rintro r x2' ⟨rfl, e2⟩
      rw [e2, show (64 * 1 + 8 * 0 : Int) = ((8 * 8 : Nat) : Int) by decide]
      clear e2 x2'
      go_wp2_with fail
      refine (arnPut_any p b _ 8 0 v _ HT.out.a (new_8.1) HY.out).mono ?_
      rintro r x3 ⟨rfl, hA, hK⟩
      have HI := Lib.hid (HT.out.putA hA hK)
      replace HL := Lib.hid (hK.row HL.out (by simpa using Hd.out.1))
      replace HB := Lib.hid (Keep.under HB.out hK (by have := HB.out.size; omega) (by simp; exact HT.out.low.2.1))
      clear hA hK
      go_wp2_with fail
      refine (rallPut_any X q d 4 4 0 64 _ 8 0 v 0 1 _ HI.out.2 (new_8.1) (by decide) (by decide) (by decide) HY.out).mono ?_
      rintro r x4 ⟨rfl, hX, hK⟩
      have HT2 : Hid (Two x4 w.heap.size p b X q d (lay1 (newWs 4 0 64) 8 ⟨s1, n1, p1, e1⟩)) := Lib.hid ⟨by unfold lay1; rw [Hw.out]; exact HI.out.1.kept hK (by simpa using HT.out.nd) (by simpa using fun e => HT.out.ne.2.2 e.symm), by unfold lay1; rw [Hw.out]; exact hX, HT.out.low, HT.out.ne, HT.out.nd⟩
      replace HL := Lib.hid (hK.row HL.out (by simpa using Hd.out.2))
      replace HB := Lib.hid (Keep.under HB.out hK (by have := HB.out.size; omega) (by simp; exact HT.out.low.2.2.2.2))
      clear hX hK HT HI
      go_wp2_with fail
      go_roundw
      case rel => exact ⟨2, _, rfl, .inr (.inl ⟨rfl, rfl⟩), HT2.out, HL.out, HB.out⟩
      case measure => simp [intOf]
    · have z := lt_of_heap HL.out
      have q0 : wr.cell? ⟨w.heap.size, 4, none⟩ = some (.int .i64 s2) := by rw [row_cell HL.out]; rfl
      have q1 : wr.cell? ⟨w.heap.size, 5, none⟩ = some (.int .i64 n2) := by rw [row_cell HL.out]; rfl
      have q2 : wr.cell? ⟨w.heap.size, 6, none⟩ = some (.int .i64 p2) := by rw [row_cell HL.out]; rfl
      have q3 : wr.cell? ⟨w.heap.size, 7, none⟩ = some (.int .i64 e2) := by rw [row_cell HL.out]; rfl
      obtain ⟨f1, f2, f3, f4, HF⟩ : ∃ f1 f2 f3 f4, Hid (fit ⟨s2, n2, p2, e2⟩ = ⟨f1, f2, f3, f4⟩) := ⟨_, _, _, _, rfl⟩
      have hr := fit_right ⟨s2, n2, p2, e2⟩
      rw [HF.out] at hr
      have HP := Lib.hid (pack_right hr)
      have HY := Lib.hid (word_bd hr)
      have Hw : Hid (word (fit ⟨s2, n2, p2, e2⟩) = word ⟨f1, f2, f3, f4⟩) := Lib.hid (by rw [HF.out])
      obtain ⟨v, Hv⟩ : ∃ v, Hid (word ⟨f1, f2, f3, f4⟩ = v) := ⟨_, rfl⟩
      rw [Hv.out] at HP HY Hw
      clear hr
      go_wp2_with fail
      refine (fit_as HF _).mono ?_
      rintro r x1 ⟨rfl, hb⟩
      replace HT := Lib.hid (HT.out.below hb)
      replace HL := Lib.hid (row_below HL.out hb)
      replace HB := Lib.hid (below_only HB.out hb)
      clear hb z q0 q1 q2 q3
      go_wp2_with fail
      refine (rpack_as HP _).mono ?_
      rintro r x2 ⟨rfl, hb⟩
      replace HT := Lib.hid (HT.out.below hb)
      replace HL := Lib.hid (row_below HL.out hb)
      replace HB := Lib.hid (below_only HB.out hb)
      clear hb
      go_wp2_with fail
      refine (rplanAt_any 0 2 _ (by decide) (by decide)).mono ?_
      rintro r x2' ⟨rfl, e2⟩
      rw [e2, show (64 * 2 + 8 * 0 : Int) = ((16 * 8 : Nat) : Int) by decide]
      clear e2 x2'
      go_wp2_with fail
      refine (arnPut_any p b _ 16 0 v _ HT.out.a ((lay_get _ _ _ _ (by decide)).trans new_8.2.1) HY.out).mono ?_
      rintro r x3 ⟨rfl, hA, hK⟩
      have HI := Lib.hid (HT.out.putA hA hK)
      replace HL := Lib.hid (hK.row HL.out (by simpa using Hd.out.1))
      replace HB := Lib.hid (Keep.under HB.out hK (by have := HB.out.size; omega) (by simp; exact HT.out.low.2.1))
      clear hA hK
      go_wp2_with fail
      refine (rallPut_any X q d 4 4 0 64 _ 16 0 v 0 2 _ HI.out.2 ((lay_get _ _ _ _ (by decide)).trans new_8.2.1) (by decide) (by decide) (by decide) HY.out).mono ?_
      rintro r x4 ⟨rfl, hX, hK⟩
      have HT2 : Hid (Two x4 w.heap.size p b X q d (lay1 (lay1 (newWs 4 0 64) 8 ⟨s1, n1, p1, e1⟩) 16 ⟨s2, n2, p2, e2⟩)) := Lib.hid ⟨by unfold lay1; rw [Hw.out]; exact HI.out.1.kept hK (by simpa using HT.out.nd) (by simpa using fun e => HT.out.ne.2.2 e.symm), by unfold lay1; rw [Hw.out]; exact hX, HT.out.low, HT.out.ne, HT.out.nd⟩
      replace HL := Lib.hid (hK.row HL.out (by simpa using Hd.out.2))
      replace HB := Lib.hid (Keep.under HB.out hK (by have := HB.out.size; omega) (by simp; exact HT.out.low.2.2.2.2))
      clear hX hK HT HI
      go_wp2_with fail
      go_roundw
      case rel => exact ⟨3, _, rfl, .inr (.inr (.inl ⟨rfl, rfl⟩)), HT2.out, HL.out, HB.out⟩
      case measure => simp [intOf]
    · have z := lt_of_heap HL.out
      have q0 : wr.cell? ⟨w.heap.size, 8, none⟩ = some (.int .i64 s3) := by rw [row_cell HL.out]; rfl
      have q1 : wr.cell? ⟨w.heap.size, 9, none⟩ = some (.int .i64 n3) := by rw [row_cell HL.out]; rfl
      have q2 : wr.cell? ⟨w.heap.size, 10, none⟩ = some (.int .i64 p3) := by rw [row_cell HL.out]; rfl
      have q3 : wr.cell? ⟨w.heap.size, 11, none⟩ = some (.int .i64 e3) := by rw [row_cell HL.out]; rfl
      obtain ⟨f1, f2, f3, f4, HF⟩ : ∃ f1 f2 f3 f4, Hid (fit ⟨s3, n3, p3, e3⟩ = ⟨f1, f2, f3, f4⟩) := ⟨_, _, _, _, rfl⟩
      have hr := fit_right ⟨s3, n3, p3, e3⟩
      rw [HF.out] at hr
      have HP := Lib.hid (pack_right hr)
      have HY := Lib.hid (word_bd hr)
      have Hw : Hid (word (fit ⟨s3, n3, p3, e3⟩) = word ⟨f1, f2, f3, f4⟩) := Lib.hid (by rw [HF.out])
      obtain ⟨v, Hv⟩ : ∃ v, Hid (word ⟨f1, f2, f3, f4⟩ = v) := ⟨_, rfl⟩
      rw [Hv.out] at HP HY Hw
      clear hr
      go_wp2_with fail
      refine (fit_as HF _).mono ?_
      rintro r x1 ⟨rfl, hb⟩
      replace HT := Lib.hid (HT.out.below hb)
      replace HL := Lib.hid (row_below HL.out hb)
      replace HB := Lib.hid (below_only HB.out hb)
      clear hb z q0 q1 q2 q3
      go_wp2_with fail
      refine (rpack_as HP _).mono ?_
      rintro r x2 ⟨rfl, hb⟩
      replace HT := Lib.hid (HT.out.below hb)
      replace HL := Lib.hid (row_below HL.out hb)
      replace HB := Lib.hid (below_only HB.out hb)
      clear hb
      go_wp2_with fail
      refine (rplanAt_any 0 3 _ (by decide) (by decide)).mono ?_
      rintro r x2' ⟨rfl, e2⟩
      rw [e2, show (64 * 3 + 8 * 0 : Int) = ((24 * 8 : Nat) : Int) by decide]
      clear e2 x2'
      go_wp2_with fail
      refine (arnPut_any p b _ 24 0 v _ HT.out.a ((lay_get _ _ _ _ (by decide)).trans ((lay_get _ _ _ _ (by decide)).trans new_8.2.2)) HY.out).mono ?_
      rintro r x3 ⟨rfl, hA, hK⟩
      have HI := Lib.hid (HT.out.putA hA hK)
      replace HL := Lib.hid (hK.row HL.out (by simpa using Hd.out.1))
      replace HB := Lib.hid (Keep.under HB.out hK (by have := HB.out.size; omega) (by simp; exact HT.out.low.2.1))
      clear hA hK
      go_wp2_with fail
      refine (rallPut_any X q d 4 4 0 64 _ 24 0 v 0 3 _ HI.out.2 ((lay_get _ _ _ _ (by decide)).trans ((lay_get _ _ _ _ (by decide)).trans new_8.2.2)) (by decide) (by decide) (by decide) HY.out).mono ?_
      rintro r x4 ⟨rfl, hX, hK⟩
      have HT2 : Hid (Two x4 w.heap.size p b X q d (lay1 (lay1 (lay1 (newWs 4 0 64) 8 ⟨s1, n1, p1, e1⟩) 16 ⟨s2, n2, p2, e2⟩) 24 ⟨s3, n3, p3, e3⟩)) := Lib.hid ⟨by unfold lay1; rw [Hw.out]; exact HI.out.1.kept hK (by simpa using HT.out.nd) (by simpa using fun e => HT.out.ne.2.2 e.symm), by unfold lay1; rw [Hw.out]; exact hX, HT.out.low, HT.out.ne, HT.out.nd⟩
      replace HL := Lib.hid (hK.row HL.out (by simpa using Hd.out.2))
      replace HB := Lib.hid (Keep.under HB.out hK (by have := HB.out.size; omega) (by simp; exact HT.out.low.2.2.2.2))
      clear hX hK HT HI
      go_wp2_with fail
      go_roundw
      case rel => exact ⟨4, _, rfl, .inr (.inr (.inr ⟨rfl, rfl⟩)), HT2.out, HL.out, HB.out⟩
      case measure => simp [intOf]
    · go_wp2_with fail
      go_ret2
      exact ⟨p, b, X, q, d, rfl, HT.out, HB.out⟩

end Go.Proofs.Ytconieenkeajiaa
