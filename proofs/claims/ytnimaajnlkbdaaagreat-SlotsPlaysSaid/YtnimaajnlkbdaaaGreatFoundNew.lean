/- Scopes laid down: the walks of found.New and of the document's New. -/
import Derived.Test.YtnimaajnlkbdaaaGreatFound
import Derived.Test.YtnimaajnlkbdaaaGreatBRefC
namespace Go.Proofs.YtnimaajnlkbdaaaGreat
open Go.RowKit
set_option linter.unusedVariables false
set_option linter.unusedSimpArgs false

/-- the immortal scope's control word -/
def immC : Ctl := ⟨2, 1, -1, 0⟩
theorem immC_right : Right immC := by decide
/-- the words of a new arena -/
def newWs (s i h : Int) : List Int := (((List.replicate ((64 * s + i + h) / 8).toNat 0).set 0 (word immC)).set 1 (64 * s)).set 2 i
theorem newWs_len (s i h : Int) : (newWs s i h).length = ((64 * s + i + h) / 8).toNat := by simp [newWs]


@[go_sem] theorem fieldExt0 (a b : Int) (w : World) : (Instr.field 121 (.agg #[.int .i64 a, .int .i64 b]) 0).run Tryz.prog w = .ok (.int .i64 a) w := by kernel_rfl
theorem infoU64 : (Tryz.prog.info? 23).map (fun i => (i.zero, i.size, i.bytes)) = some (some (.int .u64 0), 1, 8) := by kernel_rfl
theorem made_u64 (m : Nat) : madeCells (Value.int .u64 0).cells (m * 1) = ((List.replicate m (0:Int)).map (Value.int .u64)).toArray := by
 apply Array.ext'
 apply List.ext_getElem?
 intro j
 simp only [madeCells, Value.cells]
 by_cases h : j < m
 ·simp [h, Nat.mod_one]
 ·simp [h]

set_option maxRecDepth 100000 in
set_option maxHeartbeats 2000000 in
theorem rarnNew_any (m : Nat) (n : Int) (w : World) (h0 : 1 ≤ m) (h1 : m ≤ 8192) (hn : n = 8 * (m : Int)) :
  Calls Tryz.prog 63 #[.int .i64 n] w fun r w' => ∃ q b, r = .returned (.pointer (some ⟨q, 0, none⟩)) ∧ RArn w' q b (List.replicate m 0) ∧ (w.heap.size ≤ q ∧ w.heap.size ≤ b) ∧ Below w.heap.size w w' := by
 obtain ⟨i0, hi0, hz0, hz1, hz2⟩ := info_parts infoU64
 have hmk := fun W => run_make_rowN (P := Tryz.prog) 53 23 i0 (.int .u64 0) Tryz.underlying53 hi0 hz0 .i64 .i64 m m (Nat.le_refl _) (by rw [hz2]; omega) (by omega) W
 rw [hz1, made_u64] at hmk
 obtain ⟨cs, Hcs⟩ : ∃ cs, Hid (((List.replicate m (0:Int)).map (Value.int .u64)).toArray = cs) := ⟨_, Lib.hid rfl⟩
 rw [Hcs.out] at hmk
 have e1 : n.tdiv 8 = m := by rw [Int.tdiv_eq_ediv_of_nonneg (by omega)]; omega
 have e2 : n / 8 = m := by omega
 have n0 : 0 ≤ n := by omega
 have n1 : n ≤ 65536 := by omega
 have Hm := Lib.hid (And.intro h0 h1)
 clear hn h0 h1
 go_enter Tryz.func63, Tryz.ntmps63
 go_wp2
 go_ret
 refine ⟨w.heap.size + 1, w.heap.size, rfl, ⟨?_, row_alloc (by rw [Hcs.out]; exact row_new _ _ _), ?_, by omega, ?_, ?_⟩, by omega, by go_grown⟩
 ·rw [List.length_replicate]; exact row_at (by simp)
 ·intro x hx
  obtain rfl := List.eq_of_mem_replicate hx
  omega
 ·rw [List.length_replicate]; exact Hm.out.2
 ·rw [List.length_replicate]; exact Hm.out.1

set_option maxRecDepth 100000 in
set_option maxHeartbeats 2000000 in
theorem rplanHeap_any (s t i h : Int) (w : World) (H : PlanOk s t i h) :
  Calls Tryz.prog 62 #[.agg #[.int .i64 s, .int .i64 t, .int .i64 i, .int .i64 h]] w fun r w' => r = .returned (.agg #[.int .i64 (64 * s + i), .int .i64 h]) ∧ Below w.heap.size w w' := by
 obtain ⟨s0, s1, t0, t1, i0, i1, h0, h1, i8, h8⟩ := H
 clear t0 t1 i8 h8
 go_enter Tryz.func62, Tryz.ntmps62
 go_upto_region 1 with fail
 refine two_rows' w _ _ _ _ ?_
 intro W hR hQ hB
 obtain ⟨x0, x1, x2, x3, _⟩ := box4 hR
 obtain ⟨y0, y1, y0f, y1f⟩ := box2 hQ
 have zq := lt_of_heap hQ
 have HQ := Lib.hid hQ
 clear hR hQ
 go_wp2_with fail
 refine bodyPost_ret (results_cell_row (fn := Tryz.f62) rfl _ _ (w.heap.size + 1) 121 #[.int .i64 (64 * s + i), .int .i64 h] (0, 0) _ rfl (row_two HQ.out) Tryz.underlying121 rfl infoExt2) rfl ?_
 exact ⟨rfl, by go_grown⟩

set_option maxRecDepth 100000 in
set_option maxHeartbeats 2000000 in
theorem rplanImmortal_any (s t i h : Int) (w : World) (H : PlanOk s t i h) :
  Calls Tryz.prog 67 #[.agg #[.int .i64 s, .int .i64 t, .int .i64 i, .int .i64 h]] w fun r w' => r = .returned (.agg #[.int .i64 (64 * s), .int .i64 i]) ∧ Below w.heap.size w w' := by
 obtain ⟨s0, s1, t0, t1, i0, i1, h0, h1, i8, h8⟩ := H
 clear t0 t1 i8 h8
 go_enter Tryz.func67, Tryz.ntmps67
 go_upto_region 1 with fail
 refine two_rows' w _ _ _ _ ?_
 intro W hR hQ hB
 obtain ⟨x0, x1, x2, x3, _⟩ := box4 hR
 obtain ⟨y0, y1, y0f, y1f⟩ := box2 hQ
 have zq := lt_of_heap hQ
 have HQ := Lib.hid hQ
 clear hR hQ
 go_wp2_with fail
 refine bodyPost_ret (results_cell_row (fn := Tryz.f67) rfl _ _ (w.heap.size + 1) 121 #[.int .i64 (64 * s), .int .i64 i] (0, 0) _ rfl (row_two HQ.out) Tryz.underlying121 rfl infoExt2) rfl ?_
 exact ⟨rfl, by go_grown⟩

set_option maxRecDepth 100000 in
set_option maxHeartbeats 2000000 in
theorem rplanSize_any (s t i h : Int) (w : World) (H : PlanOk s t i h) :
  Calls Tryz.prog 64 #[.agg #[.int .i64 s, .int .i64 t, .int .i64 i, .int .i64 h]] w fun r w' => r = .returned (.int .i64 (64 * s + i + h)) ∧ Below w.heap.size w w' := by
 obtain ⟨s0, s1, t0, t1, i0, i1, h0, h1, i8, h8⟩ := H
 clear t0 t1 i8 h8
 go_enter Tryz.func64, Tryz.ntmps64
 go_upto_region 1 with fail
 refine one_row w _ _ ?_
 intro W hR hB
 obtain ⟨x0, x1, x2, x3, _⟩ := box4 hR
 clear hR
 go_wp2_with fail
 go_ret
 exact ⟨rfl, by go_grown⟩


end Go.Proofs.YtnimaajnlkbdaaaGreat
