/- Layer 17: the law's plan, call, laid and shown. -/
import Derived.Test.YtconieenkeajiaaEnterB
namespace Go.Proofs.Ytconieenkeajiaa
open Go.RowKit
set_option linter.unusedVariables false
set_option linter.unusedSimpArgs false

theorem alloc_set' {P : World → Prop} (w : World) (c c' : Array Value) (t : TypeId) (h : ∀ W, W.heap[w.heap.size]? = some (.cells c' t (0, 0)) → Below w.heap.size w W → P W) : P ((w.alloc (.cells c t)).setRow w.heap.size c') :=
  h _ (setRow_heap _ _ _ _ _ _ (row_new _ _ _)) (below_setRow (by go_grown) (Nat.le_refl _) _)
theorem yieldsIf_load_row {P : Program} {ops : Array Oper} {S : World → Prop} {op : Oper} {a : Act} (hw : Region.wanted op (yielded ops a.tmps) = true) (ty : TypeId) (x : Operand) (ho : op.op = .load ty x)
    (g : Nat) (hx : a.eval x = .pointer (some ⟨g, 0, none⟩)) (cs : Array Value) {t : TypeId} {fr : Nat × Nat} {d : TypeDesc} (hS : ∀ w, S w → w.heap[g]? = some (.cells cs t fr))
    (hu : P.underlying ty = some d) (hd : (match d with | .struct _ | .array _ _ => true | _ => false) = true) (hi : (P.info? ty).map (·.size) = some cs.size) : YieldsIf P ops S op (.agg cs) a :=
  .inl ⟨hw, fun w hw' => by
    unfold execOp
    simp only [ho, hx, Instr.loadAt, Instr.sureAddr, Sem.run_bind, Sem.run_pure, Result.andThen_ok, run_loadVar_row w g t ty cs fr d (hS w hw') hu hd hi]⟩
theorem PL : PlanOk 4 4 0 64 := ⟨by decide, by decide, by decide, by decide, by decide, by decide, by decide, by decide, by decide, by decide⟩
/-- a call of an entry, fresh -/
def callRn (s a : Int) (ch : Sl) : Rn := ⟨⟨4, 0, 0, 0, s, 0, 0⟩, 13, a, 0, 0, ch, 0, 0, 0, 0, noS, 0, noS, 0, false, false, false, 0, 0, noS⟩

set_option maxRecDepth 100000 in
set_option maxHeartbeats 2000000 in
theorem plan_any (w : World) : Calls Try.prog 18 #[] w fun r w' => r = .returned (.agg #[.int .i64 4, .int .i64 4, .int .i64 0, .int .i64 64]) ∧ Below w.heap.size w w' := by
  go_enter Try.func18, Try.ntmps18
  go_upto_region 1 with fail
  refine one_row w _ _ ?_
  intro W hR hB
  obtain ⟨x0, x1, x2, x3, f0, f1, f2, f3⟩ := box4 hR
  have z := lt_of_heap hR
  have HR := Lib.hid hR
  clear hR
  go_wp2_with fail
  refine bodyPost_ret (results_cell_row (fn := Try.f18) rfl _ _ w.heap.size 54 #[.int .i64 4, .int .i64 4, .int .i64 0, .int .i64 64] (0, 0) _ rfl (row_four HR.out) Try.underlying54 rfl (by kernel_rfl)) rfl ?_
  exact ⟨rfl, by go_grown⟩

set_option maxRecDepth 100000 in
set_option maxHeartbeats 2000000 in
theorem call_any (x y s a : Int) (w : World) (hx : 0 ≤ x ∧ x ≤ 255) (hy : 0 ≤ y ∧ y ≤ 255) (hs : s = 1 + x % 3) (ha : a = y % 4) :
    Calls Try.prog 16 #[.int .u8 x, .int .u8 y] w fun r w' => ∃ kc cA, r = .returned (callRn s a ⟨cA, 1, kc⟩).v ∧ (Ents w' cA [(a, true)] ∧ ∀ z, cA = some z → w.heap.size ≤ z.block) ∧ Below w.heap.size w w' := by
  have Hc : Hid (∀ ch, rbeginRn 4 [(a, true)] ⟨4, 0, 0, 0, s, 0, 0⟩ (rregR 0 0 0 0 0) (rregR 0 0 0 0 0) ch = callRn s a ch) := Lib.hid fun ch => by
    have h1 : beginS 4 [(a, true)] ⟨4, 0, 0, 0, s, 0, 0⟩ 0 0 = (0, 13) := by
      have hb : inB s 1 3 = true := inB_t (by omega)
      simp [beginS, hb]
    have h2 : rregR 0 0 0 0 0 = 0 := rfl
    unfold rbeginRn callRn
    rw [h2, h1]
    rfl
  have Hcal : Hid (CalOk ⟨4, 0, 0, 0, s, 0, 0⟩) := Lib.hid ⟨by simp, by simp, by simp, by simp, ⟨by simp; omega, by simp; omega⟩, by simp, by simp⟩
  obtain ⟨x0, x1⟩ := hx
  obtain ⟨y0, y1⟩ := hy
  have e1 : y.tmod 4 = a := by rw [ha, Int.tmod_eq_emod_of_nonneg (by omega)]
  have e1' : y % 4 = a := ha.symm
  have e2 : 1 + x.tmod 3 = s := by rw [hs, Int.tmod_eq_emod_of_nonneg (by omega)]
  have e2' : 1 + x % 3 = s := hs.symm
  clear hs ha
  go_enter Try.func16, Try.ntmps16
  go_upto_region 2 with fail
  refine two_rows' w _ _ _ _ ?_
  intro W hZ hE hB
  have HE : Hid (Ents W (some ⟨w.heap.size + 1, 0, none⟩) [(a, true)]) := Lib.hid fun _ => ⟨_, 0, rfl, fun j v hv => by rw [Nat.zero_add, row_cell hE, List.getElem?_toArray]; exact hv⟩
  have HZ := Lib.hid hZ
  have HB := Lib.hid hB
  have hWz := lt_of_heap hE
  clear hZ hE hB
  go_wp2_with fail
  refine (plan_any _).mono ?_
  rintro r w1 ⟨rfl, hb⟩
  have hw1 := hb.size
  replace HE := Lib.hid (Ents.below HE.out hb)
  replace HZ := Lib.hid (row_below HZ.out hb)
  replace HB := Lib.hid (below_only HB.out hb)
  clear hb
  go_wp2_with fail
  have hr4 : (w1.alloc (.cells #[.int .u64 0, .int .u64 0, .int .u64 0, .int .u64 0] 33)).heap[w1.heap.size]? = _ := row_new _ _ _
  obtain ⟨m0, m1, m2, m3, _⟩ := box4 hr4
  have hba : Below w1.heap.size w1 (w1.alloc (.cells #[.int .u64 0, .int .u64 0, .int .u64 0, .int .u64 0] 33)) := by go_grown
  refine (rof_any ⟨4, 4, 0, 64⟩ (some ⟨w.heap.size + 1, 0, none⟩) 1 [(a, true)] ⟨4, 0, 0, 0, s, 0, 0⟩ 0 0 0 0 w1.heap.size 0 4 _ (by simp) (by simp) (Ents.below HE.out hba) (by simp) (by simp) Hcal.out (by simp) (by simp) (by simp) (by simp) (by simp) m0 m1 m2 m3).mono ?_
  rintro r w2 ⟨kc, cA, rfl, hcs, hnew, hb⟩
  rw [Hc.out]
  have hB1 := HB.out.size
  have hbz := hba.size
  replace HZ := Lib.hid (row_below (row_below HZ.out hba) hb)
  replace HB := Lib.hid (below_only (below_only HB.out hba) hb)
  have HE2 := Lib.hid hcs
  have Hnew : Hid (∀ z, cA = some z → w.heap.size + 1 ≤ z.block) := Lib.hid fun z hz => by have := hnew z (by simp) hz; omega
  clear hb hba hr4 m0 m1 m2 m3 hcs hnew HE
  go_wp2_with (refine wpList_store_row rfl 40 (.tmp 4) (.tmp 19) rfl w.heap.size (callRn s a ⟨cA, 1, kc⟩).arr rfl rfl 40 ZRun HZ.out infoRun rfl (Rn.one _) ?_)
  refine bodyPost_ret (results_cell_row (fn := Try.f16) rfl _ _ w.heap.size 40 (callRn s a ⟨cA, 1, kc⟩).arr (0, 0) _ rfl (setRow_heap w2 _ _ _ _ (0, 0) HZ.out) undRun rfl infoRun) rfl ?_
  exact ⟨kc, cA, rfl, ⟨ents_setRow HE2.out (fun z _ hz => by have := Hnew.out z hz; omega) _, fun z hz => by have := Hnew.out z hz; omega⟩, below_setRow HB.out (Nat.le_refl _) _⟩

end Go.Proofs.Ytconieenkeajiaa
