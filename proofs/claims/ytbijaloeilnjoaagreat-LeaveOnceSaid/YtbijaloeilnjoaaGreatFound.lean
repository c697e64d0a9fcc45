/- Scopes laid down, and told: the walks of arena.New and of found's New, Ctl, is and put. -/
import Derived.Test.YtbijaloeilnjoaaGreatME
import Derived.Test.YtbijaloeilnjoaaGreatAll
namespace Go.Proofs.YtbijaloeilnjoaaGreat
open Go.RowKit
set_option linter.unusedVariables false
set_option linter.unusedSimpArgs false

theorem infoU8 : (Tryz.prog.info? 5).map (fun i => (i.zero, i.size, i.bytes)) = some (some (.int .u8 0), 1, 1) := by kernel_rfl
theorem made_u8 (m : Nat) : madeCells (Value.int .u8 0).cells (m * 8 * 1) = (wsCells (List.replicate m 0)).toArray := by
 apply Array.ext'
 apply List.ext_getElem?
 intro j
 simp only [madeCells, Value.cells, Nat.mul_one, List.toList_toArray]
 by_cases h : j < m * 8
 ·have hg := ws_get (List.replicate m 0) (j / 8) (j % 8) 0 (by rw [List.getElem?_replicate, if_pos (by omega)]) (Nat.mod_lt _ (by omega))
  rw [show j / 8 * 8 + j % 8 = j by omega] at hg
  rw [hg]
  simp [h, Nat.mod_one, byteOf]
 ·rw [List.getElem?_eq_none (by simp; omega), List.getElem?_eq_none (by rw [ws_len, List.length_replicate]; omega)]

set_option maxRecDepth 100000 in
set_option maxHeartbeats 1000000 in
theorem arnNew_any (m : Nat) (n : Int) (w : World) (h0 : 1 ≤ m) (h1 : m ≤ 8192) (hn : n = ((m * 8 : Nat) : Int)) :
  Calls Tryz.prog 62 #[.int .i64 n] w fun r w' => ∃ p b, r = .returned (.tuple #[.pointer (some ⟨p, 0, none⟩), .int .i64 0]) ∧ Arn w' p b (List.replicate m 0) ∧ (w.heap.size ≤ p ∧ w.heap.size ≤ b) ∧ Below w.heap.size w w' := by
 obtain ⟨i0, hi0, hz0, hz1, hz2⟩ := info_parts infoU8
 have hmk := fun W => run_make_rowN (P := Tryz.prog) 114 5 i0 (.int .u8 0) Tryz.underlying114 hi0 hz0 .i64 .i64 (m * 8) (m * 8) (Nat.le_refl _) (by rw [hz2]; omega) (by omega) W
 rw [hz1, made_u8, ← hn] at hmk
 obtain ⟨cs, Hcs⟩ : ∃ cs, Hid ((wsCells (List.replicate m 0)).toArray = cs) := ⟨_, Lib.hid rfl⟩
 rw [Hcs.out] at hmk
 have b1 : inB n 0 65536 = true := inB_t (by omega)
 have b2 : (n % 8 != 0) = false := by
  have : n % 8 = 0 := by omega
  simp [this]
 have n0 : 0 ≤ n := by omega
 have Hn := Lib.hid hn
 have Hm := Lib.hid (And.intro h0 h1)
 clear hn h0 h1
 go_enter Tryz.func62, Tryz.ntmps62
 go_wp2_with (go_at_call 103; refine (within_any _ _ _ _).mono ?_; rintro r w1 ⟨rfl, rfl⟩; rw [b1])
 go_ret2
 refine ⟨w1.heap.size + 1, w1.heap.size, rfl, ⟨?_, row_alloc (by rw [Hcs.out]; exact row_new _ _ _), ?_, by omega, ?_, ?_⟩, by omega, by go_grown⟩
 ·rw [List.length_replicate]; exact row_at (by simp)
 ·intro x hx
  obtain rfl := List.eq_of_mem_replicate hx
  omega
 ·rw [List.length_replicate]; exact Hm.out.2
 ·rw [List.length_replicate]; exact Hm.out.1

/-- a scope's block, by value -/
abbrev blkV (p : Nat) (s t i h sc : Int) : Array Value := #[.pointer (some ⟨p, 0, none⟩), .int .i64 s, .int .i64 t, .int .i64 i, .int .i64 h, .int .i64 sc]
theorem box6 {w : World} {g : Nat} {a b c d e f : Value} {t : TypeId} (h : w.heap[g]? = some (.cells #[a, b, c, d, e, f] t (0, 0))) :
  w.cell? ⟨g, 0, none⟩ = some a ∧ w.cell? ⟨g, 1, none⟩ = some b ∧ w.cell? ⟨g, 2, none⟩ = some c ∧ w.cell? ⟨g, 3, none⟩ = some d ∧ w.cell? ⟨g, 4, none⟩ = some e ∧ w.cell? ⟨g, 5, none⟩ = some f :=
 ⟨by rw [row_cell h]; rfl, by rw [row_cell h]; rfl, by rw [row_cell h]; rfl, by rw [row_cell h]; rfl, by rw [row_cell h]; rfl, by rw [row_cell h]; rfl⟩

set_option maxRecDepth 100000 in
set_option maxHeartbeats 2000000 in
theorem blkPut_any (p b : Nat) (s t i h : Int) (ws : List Int) (k : Nat) (x y part sc : Int) (w : World) (H : PlanOk s t i h) (hA : Arn w p b ws) (hk : ws[k]? = some x) (ha : (k : Int) = 8 * sc + part) (hp : 0 ≤ part ∧ part ≤ 4) (hs : 0 ≤ sc ∧ sc ≤ s - 1) (hy : 0 ≤ y ∧ y < 18446744073709551616) :
  Calls Tryz.prog 67 #[.agg (blkV p s t i h sc), .int .i64 part, .int .u64 y] w fun r w' => r = .returned (.tuple #[]) ∧ Arn w' p b (ws.set k y) ∧ Keep [b] w w' := by
 have HP := fun w => Lib.hid (planAt_any s t i h part sc w H hp hs)
 have He := Lib.hid (show 64 * sc + 8 * part = ((k * 8 : Nat) : Int) by omega)
 have HA := Lib.hid hA
 have HK := Lib.hid hk
 have HY := Lib.hid hy
 clear H hA hk ha hp hs hy
 go_enter Tryz.func67, Tryz.ntmps67
 go_upto_region 1 with fail
 refine one_row w _ _ ?_
 intro W hR hB
 obtain ⟨x0, x1, x2, x3, x4, x5⟩ := box6 hR
 have HR := Lib.hid hR
 have HB := Lib.hid hB
 clear hR hB
 go_wp2_with fail
 refine (HP _).out.mono ?_
 rintro r w1 ⟨rfl, hb⟩
 rw [He.out]
 clear x0 x1 x2 x3 x4 x5
 obtain ⟨x0, x1, x2, x3, x4, x5⟩ := box6 (row_below HR.out hb)
 have HB1 := Lib.hid (below_only HB.out hb)
 clear hb HR HB
 go_wp2_with fail
 refine (arnPut_any p b ws k x y _ (HA.out.below HB1.out) HK.out HY.out).mono ?_
 rintro r w2 ⟨rfl, hA, hK⟩
 have HI := Lib.hid (And.intro hA ((keep_below HB1.out [b]).trans hK))
 clear hA hK x0 x1 x2 x3 x4 x5
 go_wp2_with fail
 go_end0
 exact ⟨rfl, HI.out.1, HI.out.2⟩

set_option maxRecDepth 100000 in
set_option maxHeartbeats 2000000 in
theorem blkIs_any (p b : Nat) (s t i h : Int) (ws : List Int) (k : Nat) (x sc : Int) (c : Ctl) (w : World) (H : PlanOk s t i h) (hA : Arn w p b ws) (hk : ws[k]? = some x) (ha : (k : Int) = 8 * sc) (hs : 0 ≤ sc ∧ sc ≤ s - 1) (hc : Right c) :
  Calls Tryz.prog 66 #[.agg (blkV p s t i h sc), c.val] w fun r w' => r = .returned (.tuple #[]) ∧ Arn w' p b (ws.set k (word c)) ∧ Keep [b] w w' := by
 have HP := Lib.hid (pack_right hc)
 have HY := Lib.hid (word_bd hc)
 have HA := Lib.hid hA
 have HK := Lib.hid hk
 have HS := Lib.hid hs
 have He := Lib.hid ha
 have HH := Lib.hid H
 obtain ⟨c1, c2, c3, c4⟩ := c
 obtain ⟨v, Hv⟩ : ∃ x, Hid (word ⟨c1, c2, c3, c4⟩ = x) := ⟨_, Lib.hid rfl⟩
 rw [Hv.out] at HP HY ⊢
 clear H hA hk ha hs hc
 go_enter Tryz.func66, Tryz.ntmps66
 go_upto_region 1 with fail
 refine two_rows' w _ _ _ _ ?_
 intro W hR hQ hB
 obtain ⟨y0, y1, y2, y3, _⟩ := box4 hQ
 have HR := Lib.hid hR
 have HB := Lib.hid hB
 clear hR hQ hB
 go_wp2_with fail
 refine (pack_as HP _).mono ?_
 rintro r w1 ⟨rfl, hb⟩
 obtain ⟨x0, x1, x2, x3, x4, x5⟩ := box6 (row_below HR.out hb)
 have HB1 := Lib.hid (below_only HB.out hb)
 clear hb HR HB y0 y1 y2 y3
 go_wp2_with fail
 refine (blkPut_any p b s t i h ws k x v 0 sc _ HH.out (HA.out.below HB1.out) HK.out (by have := He.out; omega) (by decide) HS.out HY.out).mono ?_
 rintro r w2 ⟨rfl, hA, hK⟩
 have HI := Lib.hid (And.intro hA ((keep_below HB1.out [b]).trans hK))
 clear hA hK x0 x1 x2 x3 x4 x5
 go_wp2_with fail
 go_end0
 exact ⟨rfl, HI.out.1, HI.out.2⟩

set_option maxRecDepth 100000 in
set_option maxHeartbeats 2000000 in
theorem foundCtl_any (p b : Nat) (s t i h : Int) (ws : List Int) (k : Nat) (sc : Int) (c : Ctl) (w : World) (H : PlanOk s t i h) (hA : Arn w p b ws) (hc : Right c) (hk : ws[k]? = some (word c)) (ha : (k : Int) = 8 * sc) (hs : 0 ≤ sc ∧ sc ≤ s - 1) :
  Calls Tryz.prog 22 #[.agg #[.int .i64 s, .int .i64 t, .int .i64 i, .int .i64 h], .pointer (some ⟨p, 0, none⟩), .int .i64 sc] w fun r w' => r = .returned (.tuple #[c.val, .int .i64 0]) ∧ Below w.heap.size w w' := by
 have HP := fun w => Lib.hid (planAt_any s t i h 0 sc w H (by decide) hs)
 have HU := Lib.hid (unpack_word hc)
 have HY := Lib.hid (word_bd hc)
 have HA := Lib.hid hA
 have HK := Lib.hid hk
 have He := Lib.hid (show 64 * sc + 8 * 0 = ((k * 8 : Nat) : Int) by omega)
 obtain ⟨c1, c2, c3, c4⟩ := c
 obtain ⟨v, Hv⟩ : ∃ x, Hid (word ⟨c1, c2, c3, c4⟩ = x) := ⟨_, Lib.hid rfl⟩
 rw [Hv.out] at HU HY HK
 clear H hA hk ha hs hc
 go_enter Tryz.func22, Tryz.ntmps22
 go_upto_region 1 with fail
 refine two_rows' w _ _ _ _ ?_
 intro W hR hQ hB
 obtain ⟨x0, x1, x2, x3, _⟩ := box4 hR
 have HQ := Lib.hid hQ
 have HB := Lib.hid hB
 clear hR hQ hB
 go_wp2_with fail
 refine (HP _).out.mono ?_
 rintro r w1 ⟨rfl, hb⟩
 rw [He.out]
 have HQ1 := Lib.hid (row_below HQ.out hb)
 have HB1 := Lib.hid (below_only HB.out hb)
 clear hb HQ HB x0 x1 x2 x3
 go_wp2_with fail
 refine (arnWord_any p b ws k v _ (HA.out.below HB1.out) HK.out).mono ?_
 rintro r w2 ⟨rfl, e2⟩
 rw [e2]
 clear e2 w2
 go_wp2_with fail
 refine (unpack_as HU HY.out.1 (by have := HY.out.2; omega) _).mono ?_
 rintro r w3 ⟨rfl, hb⟩
 have HQ2 := Lib.hid (row_below HQ1.out hb)
 have HB2 := Lib.hid (below_only HB1.out hb)
 clear hb HQ1 HB1
 go_upto_region 6 with fail
 refine one_row w3 _ _ ?_
 intro w4 hr4 hb4
 have B := below_only HB2.out hb4
 have HQ3 := Lib.hid (row_below HQ2.out hb4)
 obtain ⟨y0, y1, y2, y3, y0f, y1f, y2f, y3f⟩ := box4 HQ3.out
 obtain ⟨x0, x1, x2, x3, _⟩ := box4 hr4
 have zq := lt_of_heap HQ3.out
 clear hb4 hr4 HQ2 HB2
 go_wp2_with fail
 refine bodyPost_ret (results_cell_row_tmp (fn := Tryz.f22) rfl _ _ (w.heap.size + 1) 61 #[.int .i64 c1, .int .i64 c2, .int .i64 c3, .int .i64 c4] (0, 0) _ rfl (row_four HQ3.out) Tryz.underlying61 rfl infoCtl4) rfl ?_
 exact ⟨rfl, by go_grown⟩

end Go.Proofs.YtbijaloeilnjoaaGreat
