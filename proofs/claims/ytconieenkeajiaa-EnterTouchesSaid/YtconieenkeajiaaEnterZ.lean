/- A step of an entry that is done is refused: what it tells. -/
import Derived.Test.YtconieenkeajiaaEnterC
namespace Go.Proofs.Ytconieenkeajiaa
open Go.RowKit
set_option linter.unusedVariables false
set_option linter.unusedSimpArgs false

set_option maxRecDepth 100000 in
set_option maxHeartbeats 2000000 in
theorem stepDoneZ_any (p b k : Nat) (s t i h : Int) (ws : List Int) (c : Ctl) (r : Rn) (w : World) (H : PlanOk s t i h) (hA : Arn w p b ws) (hc : Right c) (hk : ws[k]? = some (word c)) (ha : (k : Int) = 8 * r.c.a) (hsc : 0 ≤ r.c.a ∧ r.c.a ≤ s - 1) (hs : r.said = noS) (hd : r.done = true) (hp : r.pc = 13 ∨ r.pc = 14) (hy : 0 ≤ r.next ∧ r.next < 18446744073709551616) :
    Calls Try.prog 17 #[.agg #[.int .i64 s, .int .i64 t, .int .i64 i, .int .i64 h], .pointer (some ⟨p, 0, none⟩), r.v] w fun e w' => e = .returned (.tuple #[.agg ZRun, .int .i64 1]) ∧ Below w.heap.size w w' := by
  have HP := fun w => Lib.hid (planAt_any s t i h 0 r.c.a w H (by decide) hsc)
  have He := Lib.hid (show 64 * r.c.a + 8 * 0 = ((k * 8 : Nat) : Int) by omega)
  have HA := Lib.hid hA
  have HK := Lib.hid hk
  have HSd := Lib.hid hs
  have HC := Lib.hid hc
  have HY := Lib.hid hy
  have Hpc := Lib.hid hp
  have Hd := Lib.hid hd
  obtain ⟨m, Hm⟩ : ∃ m, Hid (m = ((k * 8 : Nat) : Int)) := ⟨_, Lib.hid rfl⟩
  rw [← Hm.out] at He
  clear H hA hc hk ha hsc hs hy hp hd
  go_enter Try.func17, Try.ntmps17
  go_upto_region 1 with fail
  refine three_rows w _ _ _ _ _ _ ?_
  intro W hP hR hZ hB
  obtain ⟨x0, x1, x2, x3, _⟩ := box4 hP
  have q4 : W.cell? ⟨w.heap.size + 1, 4, none⟩ = some (.int .i64 r.c.a) := by rw [row_cell hR]; rfl
  have HR := Lib.hid hR
  have HZ := Lib.hid hZ
  have HB := Lib.hid hB
  clear hP hR hZ hB
  go_wp2_with fail
  refine (HP _).out.mono ?_
  rintro e' w1 ⟨rfl, hb⟩
  rw [He.out]
  replace HR := Lib.hid (row_below HR.out hb)
  replace HZ := Lib.hid (row_below HZ.out hb)
  have HB1 := Lib.hid (below_only HB.out hb)
  clear hb x0 x1 x2 x3 q4 HB
  go_upto_region 3 with (first | refine wpList_load_row rfl 40 (.tmp 5) rfl (w.heap.size + 1) rfl 40 r.arr (0, 0) _ HR.out undRun rfl infoRun ?_)
  refine one_row w1 _ _ ?_
  intro w2 hC hb
  obtain ⟨g, Hg⟩ : ∃ g, g = w1.heap.size := ⟨_, rfl⟩
  rw [← Hg] at hC ⊢
  have HCm : Hid (Com w2 g p m r) := Lib.hid (hC.trans (by rw [← com_lit]))
  replace HR := Lib.hid (row_below HR.out hb)
  replace HZ := Lib.hid (row_below HZ.out hb)
  have HB2 := Lib.hid (below_only HB1.out hb)
  have Hgw : Hid (w.heap.size ≤ g) := Lib.hid (by rw [Hg]; exact HB1.out.size)
  have Hgb : Hid (g ≠ p ∧ g ≠ b ∧ g ≠ w.heap.size + 2) := Lib.hid (by
    have h1 := lt_of_heap (HA.out.below HB1.out).box
    have h2 := lt_of_heap (HA.out.below HB1.out).row
    have h3 := HZ.out
    refine ⟨by omega, by omega, ?_⟩
    intro e
    have h4 := HCm.out
    unfold Com at h4
    rw [e] at h4
    rw [show w.heap.size + 1 + 1 = w.heap.size + 2 from rfl] at h3
    rw [h4] at h3
    simp at h3)
  clear hC hb Hg HB1
  go_upto_region 4 with (first
    | refine wpList_makeMap rfl 94 rfl ?_
    | (refine wpList_insert rfl 94 _ _ _ rfl 3 1 Try.underlying94 Try.underlying3 w2.heap.size 13 (lookF g) #[] 0 rfl rfl rfl (MapKept.heap_alloc w2 _).1 rfl ?_; intro w3 hM hG)
    | (refine wpList_insert rfl 94 _ _ _ rfl 3 1 Try.underlying94 Try.underlying3 w2.heap.size 14 (enterF g) _ 1 rfl rfl rfl hM rfl ?_; intro w4 hM2 hG2))
  have HB24 := Lib.hid (below_grown_on (below_grown_new hG) (Nat.le_refl _) hG2)
  have HM : Hid (w4.heap[w2.heap.size]? = some (.map (doesM g) 2)) := Lib.hid hM2
  clear hM hM2 hG hG2
  replace HCm : Hid (Com w4 g p m r) := Lib.hid (row_below HCm.out HB24.out)
  replace HR := Lib.hid (row_below HR.out HB24.out)
  replace HZ := Lib.hid (row_below HZ.out HB24.out)
  have HB4 := Lib.hid (below_only HB2.out HB24.out)
  obtain ⟨mb, Hmb⟩ : ∃ mb, mb = w2.heap.size := ⟨_, rfl⟩
  rw [← Hmb] at HM ⊢
  clear HB2 HB24 Hmb
  have q7 : w4.cell? ⟨w.heap.size + 1, 7, none⟩ = some (.int .i64 r.pc) := by rw [row_cell HR.out]; rfl
  have q21 : w4.cell? ⟨w.heap.size + 1, 21, none⟩ = some (.bool true) := by rw [row_cell HR.out, ← Hd.out]; rfl
  rcases Hpc.out with hp | hp
  · rw [hp] at q7
    have Hp := Lib.hid hp
    clear hp
    go_wp2_with (first | (refine wpList_lookup_now rfl 94 _ _ rfl 3 1 Try.underlying94 Try.underlying3 mb 13 (doesM g) 2 rfl rfl HM.out 0 (lookF g) rfl ?_) | refine wpList_build_to rfl 40 _ rfl ZRun (by simp only [List.map_toArray, List.map_nil]; exact builtZ) ?_ | refine wpList_store_row rfl 40 (.tmp 6) (.tmp 46) rfl (w.heap.size + 1 + 1) ZRun rfl rfl 40 ZRun HZ.out infoRun rfl (by kernel_rfl) ?_)
    refine bodyPost_ret (results_cell_row_tmp (fn := Try.f17) rfl _ _ (w.heap.size + 1 + 1) 40 ZRun (0, 0) _ rfl (setRow_heap w4 _ _ _ _ (0, 0) HZ.out) undRun rfl infoRun) rfl ?_
    exact ⟨rfl, below_setRow HB4.out (by omega) _⟩
  · rw [hp] at q7
    have Hp := Lib.hid hp
    clear hp
    go_wp2_with (first | (refine wpList_lookup_now rfl 94 _ _ rfl 3 1 Try.underlying94 Try.underlying3 mb 14 (doesM g) 2 rfl rfl HM.out 1 (enterF g) rfl ?_) | refine wpList_build_to rfl 40 _ rfl ZRun (by simp only [List.map_toArray, List.map_nil]; exact builtZ) ?_ | refine wpList_store_row rfl 40 (.tmp 6) (.tmp 46) rfl (w.heap.size + 1 + 1) ZRun rfl rfl 40 ZRun HZ.out infoRun rfl (by kernel_rfl) ?_)
    refine bodyPost_ret (results_cell_row_tmp (fn := Try.f17) rfl _ _ (w.heap.size + 1 + 1) 40 ZRun (0, 0) _ rfl (setRow_heap w4 _ _ _ _ (0, 0) HZ.out) undRun rfl infoRun) rfl ?_
    exact ⟨rfl, below_setRow HB4.out (by omega) _⟩

end Go.Proofs.Ytconieenkeajiaa
