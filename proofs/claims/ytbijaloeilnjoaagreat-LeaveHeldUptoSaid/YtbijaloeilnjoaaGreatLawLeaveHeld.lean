/- The law LeaveHeld: the row's frame round its walk. Where what it reads is of bulk at most 1048576, for every input: true; each argument reads as it did. -/
import Derived.Test.YtbijaloeilnjoaaGreatLeaveHeld
namespace Go.Proofs.YtbijaloeilnjoaaGreat.leaveHeld
open Go.ChangeShapes Go.WideShapes Go.ChangeAt Go.RowKit
set_option linter.unusedVariables false

theorem own : ownKnob Tryz.prog.godebug = none := by kernel_rfl
theorem laidOut : laidOutB Tryz.prog = true := by kernel_rfl

set_option maxRecDepth 100000 in
theorem lifted (os : Os) (started : os.Started) (H : Type) (enc : TypeId × Value → H) (F : Stop.Interp) :
    ReturnsInHanded {} Tryz.checked os 6 .any ((Rows.OpenSpec.upto Rows.leaveHeldSpec).pre6 enc Tryz.prog Tryz.f6 Rows.leaveHeldUptoRow.domain false) (((Rows.OpenSpec.upto Rows.leaveHeldSpec).at F).post enc Tryz.prog Tryz.f6 false true false false) := by
  refine returnsInHanded_of_cond (C := Tryz.checked) (s := Rows.OpenSpec.upto Rows.leaveHeldSpec) (k := Rows.uptoSmall) rfl own started (by kernel_rfl) Tryz.func6
    (OpenSpec.witness (enc := enc) (C := Tryz.checked) (s := Rows.OpenSpec.upto Rows.leaveHeldSpec) (k := Rows.uptoSmall) rfl false ⟨#[], #[.slice none 0 0, .slice none 0 0], []⟩ 8 (by kernel_rfl) (by kernel_rfl) (by kernel_rfl)
      (x := ([.nil, .nil], [], [])) (by kernel_rfl) rfl (by kernel_rfl)) ?_
  intro W base args ds gs before hval0 hW _ hk _
  have hval : ∀ (j : Nat) t v, Tryz.f6.params[j]? = some t → args[j]? = some v → Value.okWide Tryz.prog W .any base t v := hval0
  have hW' := hW
  obtain ⟨p, q, hA0, hV, rfl, hfz, hnd⟩ := hW
  have hA : DataW.TrodAll enc Tryz.prog W 0 (fun _ => true) true Tryz.f6.params.toList args.toList ds p := hA0
  rw [Tryz.params6] at hA hval
  obtain ⟨v0, vs0, d0, ds0, p0, q0, hargs, rfl, rfl, h0, r0⟩ := trodAll_cons hA
  obtain ⟨v1, vs1, d1, ds1, p1, q1, rfl, rfl, rfl, h1, r1⟩ := trodAll_cons r0
  obtain ⟨rfl, rfl, rfl⟩ := trodAll_nil r1
  obtain rfl : args = #[v0, v1] := by cases args; simp_all
  obtain ⟨rfl, rfl⟩ := trodVars_none hV
  have k0 := h0
  have lt0 : ∀ x ∈ p0, x.block < W.heap.size := by obtain ⟨m, hm⟩ := k0; exact DataW.trod_lt m _ _ _ hm
  obtain ⟨A0, n0, c0, rfl⟩ := okWide_slice Tryz.underlying22 (hval 0 _ v0 rfl rfl)
  have hz0 : n0 ≤ 1048576 := by
    have h9 := len_small Tryz.underlying22 h0
    have h8 : Rows.uptoBulkAll _ ≤ 1048576 := of_decide_eq_true hk
    simp only [List.append_nil, Rows.uptoBulkAll] at h8
    omega
  obtain ⟨l0, rfl, hl0, hc0, he0, hq0⟩ : ∃ l : List (FSl), l.length = n0 ∧ n0 ≤ c0 ∧ c0 ≤ maxLen ∧ Cells W A0 (l.flatMap fslCells) ∧ ∀ e ∈ l, (FslOk W) e := by
    obtain ⟨fuel, hf⟩ := h0
    exact rows_of (size := 1) fslCells (FslOk W) (by decide) (fun _ => rfl) Tryz.underlying22 (by kernel_rfl) (fsl_of_trod (enc := enc) (w := W)) (by simpa [Value.cells] using hf)
  have k1 := h1
  have lt1 : ∀ x ∈ p1, x.block < W.heap.size := by obtain ⟨m, hm⟩ := k1; exact DataW.trod_lt m _ _ _ hm
  obtain ⟨A1, n1, c1, rfl⟩ := okWide_slice Tryz.underlying23 (hval 1 _ v1 rfl rfl)
  have hz1 : n1 ≤ 1048576 := by
    have h9 := len_small Tryz.underlying23 h1
    have h8 : Rows.uptoBulkAll _ ≤ 1048576 := of_decide_eq_true hk
    simp only [List.append_nil, Rows.uptoBulkAll] at h8
    omega
  obtain ⟨l1, rfl, hl1, hc1, he1, hq1⟩ : ∃ l : List (Oj), l.length = n1 ∧ n1 ≤ c1 ∧ c1 ≤ maxLen ∧ Cells W A1 (l.flatMap jCells) ∧ ∀ e ∈ l, OjOk e := by
    obtain ⟨fuel, hf⟩ := h1
    exact rows_of (size := 4) jCells OjOk (by decide) (fun _ => rfl) Tryz.underlying23 (by kernel_rfl) (oj_of_trod (enc := enc) (w := W)) (by simpa [Value.cells] using hf)
  clear hA0 hval0
  refine (leaveHeld_walk A0 c0 l0 A1 c1 l1 W hl0 hc0 he0 hq0 hl1 hc1 he1 hq1 hz1).mono fun e W' ⟨he, bel⟩ => ?_
  subst he
  exact ⟨_, rfl, _, _, _, [], _, [], hW', trodAll_mk1 (shut_bool Tryz.underlying4 _), (trodAll_cons_mk (Below.trod laidOut (by kernel_rfl) (of_decide_eq_true (by kernel_rfl)) k0 bel lt0) (trodAll_cons_mk (Below.trod laidOut (by kernel_rfl) (of_decide_eq_true (by kernel_rfl)) k1 bel lt1) trodAll_mk0)), rfl, bel.frame _, fun h => by cases h⟩

theorem over : Rows.leaveHeldUptoRow.holds Tryz.pinned (Rows.OpenSpec.upto Rows.leaveHeldSpec) :=
  OpenClaim.holds_of_cond 6 Tryz.f6 rfl rfl rfl rfl rfl rfl rfl ⟨rfl, rfl, rfl, rfl, rfl⟩ rfl rfl rfl rfl rfl (by kernel_rfl) Tryz.func6 (by kernel_rfl)
    (of_decide_eq_true (by kernel_rfl)) (by unfold Func.isWrapper; first | (rw [if_pos (by decide +kernel)]; kernel_rfl) | (rw [if_neg (by decide +kernel)]; exact ⟨rfl, rfl⟩))
    (fun os started H enc _ F => lifted os started H enc F)

theorem proved : Rows.LeaveHeldUptoSaid := over
#print axioms proved
end Go.Proofs.YtbijaloeilnjoaaGreat.leaveHeld
