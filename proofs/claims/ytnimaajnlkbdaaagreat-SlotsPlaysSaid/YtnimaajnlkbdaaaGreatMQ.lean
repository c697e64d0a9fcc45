/- The program's head.Unpack and thing.At, of a head that may be. (Printed by gen_thg.py.) A word that is no head: the program's and the document's answer. (Printed by gen_bad.py.) reach, parent and above of both, and begin.Check. (Picked by gen_abv.py.) -/
import Derived.Test.YtnimaajnlkbdaaaGreatHd
import Derived.Test.YtnimaajnlkbdaaaGreatMB
import Derived.Test.YtnimaajnlkbdaaaGreatRefA
namespace Go.Proofs.YtnimaajnlkbdaaaGreat
open Go.RowKit
set_option linter.unusedVariables false
set_option linter.unusedSimpArgs false

set_option maxRecDepth 100000 in
set_option maxHeartbeats 4000000 in
theorem headPart0 (x : Int) (w : World) (h0 : 0 ≤ x) (h1 : x ≤ 18446744073709551615) : Calls Tryz.prog 124 #[.int .u64 x, .int .i64 0] w fun r w' => r = .returned (.int .i64 (x % 256)) ∧ w' = w := by
  have m1 : bits .and .u64 (x) 255 = x % 256 := umask8 _ (by omega) (by omega)
  obtain ⟨z, Hz⟩ : ∃ z, Hid (x % 256 = z) := ⟨_, Lib.hid rfl⟩
  rw [Hz.out] at m1 ⊢
  have z0 : 0 ≤ z := by rw [← Hz.out]; omega
  have z1 : z ≤ 255 := by rw [← Hz.out]; omega
  go_enter Tryz.func124, Tryz.ntmps124
  go_wp2_with fail
  go_ret
  exact ⟨rfl, rfl⟩
set_option maxRecDepth 100000 in
set_option maxHeartbeats 4000000 in
theorem headPart32 (x : Int) (w : World) (h0 : 0 ≤ x) (h1 : x ≤ 18446744073709551615) : Calls Tryz.prog 124 #[.int .u64 x, .int .i64 32] w fun r w' => r = .returned (.int .i64 (x / 4294967296 % 256)) ∧ w' = w := by
  have m1 : bits .and .u64 (x / 4294967296) 255 = x / 4294967296 % 256 := umask8 _ (by omega) (by omega)
  obtain ⟨z, Hz⟩ : ∃ z, Hid (x / 4294967296 % 256 = z) := ⟨_, Lib.hid rfl⟩
  rw [Hz.out] at m1 ⊢
  have z0 : 0 ≤ z := by rw [← Hz.out]; omega
  have z1 : z ≤ 255 := by rw [← Hz.out]; omega
  go_enter Tryz.func124, Tryz.ntmps124
  go_wp2_with fail
  go_ret
  exact ⟨rfl, rfl⟩
set_option maxRecDepth 100000 in
set_option maxHeartbeats 4000000 in
theorem headPart40 (x : Int) (w : World) (h0 : 0 ≤ x) (h1 : x ≤ 18446744073709551615) : Calls Tryz.prog 124 #[.int .u64 x, .int .i64 40] w fun r w' => r = .returned (.int .i64 (x / 1099511627776 % 256)) ∧ w' = w := by
  have m1 : bits .and .u64 (x / 1099511627776) 255 = x / 1099511627776 % 256 := umask8 _ (by omega) (by omega)
  obtain ⟨z, Hz⟩ : ∃ z, Hid (x / 1099511627776 % 256 = z) := ⟨_, Lib.hid rfl⟩
  rw [Hz.out] at m1 ⊢
  have z0 : 0 ≤ z := by rw [← Hz.out]; omega
  have z1 : z ≤ 255 := by rw [← Hz.out]; omega
  go_enter Tryz.func124, Tryz.ntmps124
  go_wp2_with fail
  go_ret
  exact ⟨rfl, rfl⟩
set_option maxRecDepth 100000 in
set_option maxHeartbeats 4000000 in
theorem headPart48 (x : Int) (w : World) (h0 : 0 ≤ x) (h1 : x ≤ 18446744073709551615) : Calls Tryz.prog 124 #[.int .u64 x, .int .i64 48] w fun r w' => r = .returned (.int .i64 (x / 281474976710656 % 256)) ∧ w' = w := by
  have m1 : bits .and .u64 (x / 281474976710656) 255 = x / 281474976710656 % 256 := umask8 _ (by omega) (by omega)
  obtain ⟨z, Hz⟩ : ∃ z, Hid (x / 281474976710656 % 256 = z) := ⟨_, Lib.hid rfl⟩
  rw [Hz.out] at m1 ⊢
  have z0 : 0 ≤ z := by rw [← Hz.out]; omega
  have z1 : z ≤ 255 := by rw [← Hz.out]; omega
  go_enter Tryz.func124, Tryz.ntmps124
  go_wp2_with fail
  go_ret
  exact ⟨rfl, rfl⟩
set_option maxRecDepth 100000 in
set_option maxHeartbeats 4000000 in
theorem headUnpack_any (sz sl tg sc ep : Int) (w : World) (H : HeadOk sz sl tg sc ep) :
    Calls Tryz.prog 120 #[.int .u64 (head1 sz sl tg), .int .u64 (head2 sc ep)] w fun r w' => r = .returned (.tuple #[headA sz sl tg sc ep, .int .i64 0]) ∧ Below w.heap.size w w' := by
  have HP := fun W => Lib.hid (headPack_any sz sl tg sc ep W H)
  obtain ⟨⟨s0, s1⟩, ⟨z0, z1⟩, ⟨t0, t1⟩, ⟨c0, c1⟩, ⟨p0, p1⟩⟩ := H
  obtain ⟨one, H1⟩ : ∃ x, Hid (head1 sz sl tg = x) := ⟨_, Lib.hid rfl⟩
  obtain ⟨two, H2⟩ : ∃ x, Hid (head2 sc ep = x) := ⟨_, Lib.hid rfl⟩
  have o0 : 0 ≤ one := by rw [← H1.out]; unfold head1; omega
  have o1 : one ≤ 18446744073709551615 := by rw [← H1.out]; unfold head1; omega
  have o2 : 0 ≤ two := by rw [← H2.out]; unfold head2; omega
  have o3 : two ≤ 18446744073709551615 := by rw [← H2.out]; unfold head2; omega
  have m1 : bits .and .u64 one 4294967295 = sz := by rw [u64_mask 32 one 4294967295 (by omega) rfl o0 (by omega), ← H1.out]; unfold head1; omega
  have m6 : two / 256 = ep := by rw [← H2.out]; unfold head2; omega
  have P2 : ∀ W, Hid (Calls Tryz.prog 124 #[.int .u64 one, .int .i64 32] W fun r w' => r = .returned (.int .i64 sl) ∧ w' = W) := fun W => Lib.hid (by have h := headPart32 one W o0 o1; rwa [show one / 4294967296 % 256 = sl by rw [← H1.out]; unfold head1; omega] at h)
  have P3 : ∀ W, Hid (Calls Tryz.prog 124 #[.int .u64 one, .int .i64 40] W fun r w' => r = .returned (.int .i64 tg) ∧ w' = W) := fun W => Lib.hid (by have h := headPart40 one W o0 o1; rwa [show one / 1099511627776 % 256 = tg by rw [← H1.out]; unfold head1; omega] at h)
  have P4 : ∀ W, Hid (Calls Tryz.prog 124 #[.int .u64 one, .int .i64 48] W fun r w' => r = .returned (.int .i64 0) ∧ w' = W) := fun W => Lib.hid (by have h := headPart48 one W o0 o1; rwa [show one / 281474976710656 % 256 = 0 by rw [← H1.out]; unfold head1; omega] at h)
  have P5 : ∀ W, Hid (Calls Tryz.prog 124 #[.int .u64 two, .int .i64 0] W fun r w' => r = .returned (.int .i64 sc) ∧ w' = W) := fun W => Lib.hid (by have h := headPart0 two W o2 o3; rwa [show two % 256 = sc by rw [← H2.out]; unfold head2; omega] at h)
  simp only [H1.out, H2.out] at HP ⊢
  clear H1 H2
  have R2 := Lib.hid (show ((w.alloc (.cells (hdCells 0 0 0 false 0 0) 148)).alloc (.cells (hdCells sz sl tg false sc ep) 148)).heap[w.heap.size]? = some (.cells (hdCells 0 0 0 false 0 0) 148 (0, 0)) from row_alloc (row_new w _ _))
  have R4 := Lib.hid (show ((w.alloc (.cells (hdCells 0 0 0 false 0 0) 148)).alloc (.cells (hdCells sz sl tg false sc ep) 148)).heap[w.heap.size + 1]? = some (.cells (hdCells sz sl tg false sc ep) 148 (0, 0)) from heap_at (by simp))
  have B0 := Lib.hid (show Below w.heap.size w ((w.alloc (.cells (hdCells 0 0 0 false 0 0) 148)).alloc (.cells (hdCells sz sl tg false sc ep) 148)) by go_grown)
  go_enter Tryz.func120, Tryz.ntmps120
  go_wp2_with fail
  refine (P2 _).out.mono ?_
  rintro r wa ⟨rfl, e2⟩
  rw [e2]
  clear e2 wa
  go_wp2_with fail
  refine (P3 _).out.mono ?_
  rintro r wa ⟨rfl, e2⟩
  rw [e2]
  clear e2 wa
  go_wp2_with fail
  refine (P4 _).out.mono ?_
  rintro r wa ⟨rfl, e2⟩
  rw [e2]
  clear e2 wa
  go_wp2_with fail
  refine (P5 _).out.mono ?_
  rintro r wa ⟨rfl, e2⟩
  rw [e2]
  clear e2 wa
  go_wp2_with fail
  refine (HP _).out.mono ?_
  rintro r w1 ⟨rfl, hb⟩
  have R2' := Lib.hid (row_below R2.out hb)
  have B1 := Lib.hid (below_only B0.out hb)
  obtain ⟨x0, x1, x2, x3, x4, x5⟩ := box6 (row_below R4.out hb)
  have zw := lt_of_heap (row_below R4.out hb)
  clear hb
  go_wp2_with (first | refine wpList_store_row rfl 148 (.tmp 4) (.tmp 50) rfl w.heap.size (hdCells sz sl tg false sc ep) rfl rfl 148 _ R2'.out infoHd rfl (hd_one _ _ _ _ _ _) ?_)
  refine bodyPost_ret (results_cell_row_tmp (fn := Tryz.f120) rfl _ _ w.heap.size 148 (hdCells sz sl tg false sc ep) (0, 0) _ rfl (setRow_heap w1 _ _ _ _ (0, 0) R2'.out) undHd rfl infoHd) rfl ?_
  exact ⟨rfl, below_setRow B1.out (Nat.le_refl _) _⟩
set_option maxRecDepth 100000 in
set_option maxHeartbeats 4000000 in
theorem thingAt_any (p b : Nat) (ws : List Int) (k : Nat) (a : Int) (sz sl tg sc ep : Int) (w : World) (hA : Arn w p b ws) (H : HeadOk sz sl tg sc ep) (h1 : ws[k]? = some (head1 sz sl tg)) (h2 : ws[k + 1]? = some (head2 sc ep)) (ha : a = 8 * (k : Int)) :
    Calls Tryz.prog 110 #[.pointer (some ⟨p, 0, none⟩), .int .i64 a] w fun r w' => r = .returned (.tuple #[headA sz sl tg sc ep, .int .i64 0]) ∧ Below w.heap.size w w' := by
  have hs := hA.small
  have l1 := (List.getElem?_eq_some_iff.1 h1).1
  have a0 : 0 ≤ a := by omega
  have a1 : a ≤ 65536 := by omega
  have e1 : ((k * 8 : Nat) : Int) = a := by omega
  have e2 : (((k + 1) * 8 : Nat) : Int) = a + 8 := by omega
  have HW1 := fun W (h : Arn W p b ws) => Lib.hid (arnWord_any p b ws k (head1 sz sl tg) W h h1)
  have HW2 := fun W (h : Arn W p b ws) => Lib.hid (arnWord_any p b ws (k + 1) (head2 sc ep) W h h2)
  have HU := fun W => Lib.hid (headUnpack_any sz sl tg sc ep W H)
  obtain ⟨one, H1⟩ : ∃ x, Hid (head1 sz sl tg = x) := ⟨_, Lib.hid rfl⟩
  obtain ⟨two, H2⟩ : ∃ x, Hid (head2 sc ep = x) := ⟨_, Lib.hid rfl⟩
  simp only [e1, e2, H1.out, H2.out] at HW1 HW2 HU
  have HA := Lib.hid hA
  clear H h1 h2 H1 H2 ha hs l1 hA e1 e2
  go_enter Tryz.func110, Tryz.ntmps110
  go_upto_region 1 with fail
  refine one_row w _ _ ?_
  intro W hR hB
  replace HA := Lib.hid (HA.out.below hB)
  have HR := Lib.hid hR
  have HB := Lib.hid hB
  clear hR hB
  go_wp2_with fail
  refine (HW1 _ HA.out).out.mono ?_
  rintro r wa ⟨rfl, e2⟩
  rw [e2]
  clear e2 wa
  go_wp2_with fail
  refine (HW2 _ HA.out).out.mono ?_
  rintro r wa ⟨rfl, e2⟩
  rw [e2]
  clear e2 wa
  go_wp2_with fail
  refine (HU _).out.mono ?_
  rintro r w1 ⟨rfl, hb⟩
  replace HR := Lib.hid (row_below HR.out hb)
  replace HB := Lib.hid (below_only HB.out hb)
  clear hb
  go_wp2_with (first | refine wpList_store_row rfl 148 (.tmp 4) (.tmp 31) rfl w.heap.size (hdCells sz sl tg false sc ep) rfl rfl 148 _ HR.out infoHd rfl (hd_one _ _ _ _ _ _) ?_)
  refine bodyPost_ret (results_cell_row_tmp (fn := Tryz.f110) rfl _ _ w.heap.size 148 (hdCells sz sl tg false sc ep) (0, 0) _ rfl (setRow_heap w1 _ _ _ _ (0, 0) HR.out) undHd rfl infoHd) rfl ?_
  exact ⟨rfl, below_setRow HB.out (Nat.le_refl _) _⟩
end Go.Proofs.YtnimaajnlkbdaaaGreat

namespace Go.Proofs.YtnimaajnlkbdaaaGreat
open Go.RowKit
set_option linter.unusedVariables false
set_option linter.unusedSimpArgs false

set_option maxRecDepth 100000 in
set_option maxHeartbeats 4000000 in
theorem rheadRight_bad (sc ep : Int) (w : World) : Calls Tryz.prog 108 #[headA 1281 0 0 sc ep] w fun r w' => r = .returned (.bool false) ∧ Below w.heap.size w w' := by
  go_enter Tryz.func108, Tryz.ntmps108
  go_wp2_with fail
  all_goals
    go_ret
    exact ⟨rfl, by go_grown⟩
set_option maxRecDepth 100000 in
set_option maxHeartbeats 4000000 in
theorem headRight_bad (sc ep : Int) (w : World) : Calls Tryz.prog 127 #[headA 1281 0 0 sc ep] w fun r w' => r = .returned (.bool false) ∧ Below w.heap.size w w' := by
  have e1 : inB 0 0 (7 - 1) = true := by decide
  have e2 : inB 1281 (2 + 0) 72 = false := by decide
  have e2' : inB 1281 2 72 = false := by decide
  go_enter Tryz.func127, Tryz.ntmps127
  go_wp2_with (first | (go_at_call 32; refine (within_any _ _ _ _).mono ?_; rintro r w1 ⟨rfl, rfl⟩; first | rw [e2] | rw [e2']) | (go_at_call 128; refine (headBelow_any _ _ _ (by decide) (by decide)).mono ?_; rintro r w1 ⟨rfl, rfl⟩; rw [e1]))
  all_goals
    go_ret
    exact ⟨rfl, by go_grown⟩
set_option maxRecDepth 100000 in
set_option maxHeartbeats 4000000 in
theorem rheadPack_bad (sc ep : Int) (w : World) : Calls Tryz.prog 78 #[headA 1281 0 0 sc ep] w fun r w' => r = .returned (.tuple #[.int .u64 0, .int .u64 0, .int .i64 1]) ∧ Below w.heap.size w w' := by
  have HR := Lib.hid (fun W => rheadRight_bad sc ep W)
  go_enter Tryz.func78, Tryz.ntmps78
  go_upto_region 1 with fail
  refine one_row w _ _ ?_
  intro W hR hB
  obtain ⟨x0, x1, x2, x3, x4, x5⟩ := box6 hR
  have zw := lt_of_heap hR
  have HB := Lib.hid hB
  clear hR hB
  go_wp2_with fail
  refine (HR.out _).mono ?_
  rintro r w1 ⟨rfl, hb⟩
  replace HB := Lib.hid (below_only HB.out hb)
  clear hb x0 x1 x2 x3 x4 x5 zw
  go_wp2_with fail
  go_ret3
  exact ⟨rfl, HB.out⟩
set_option maxRecDepth 100000 in
set_option maxHeartbeats 4000000 in
theorem headPack_bad (sc ep : Int) (w : World) : Calls Tryz.prog 125 #[headA 1281 0 0 sc ep] w fun r w' => r = .returned (.tuple #[.int .u64 0, .int .u64 0, .int .i64 1]) ∧ Below w.heap.size w w' := by
  have HR := Lib.hid (fun W => headRight_bad sc ep W)
  go_enter Tryz.func125, Tryz.ntmps125
  go_upto_region 1 with fail
  refine one_row w _ _ ?_
  intro W hR hB
  obtain ⟨x0, x1, x2, x3, x4, x5⟩ := box6 hR
  have zw := lt_of_heap hR
  have HB := Lib.hid hB
  clear hR hB
  go_wp2_with fail
  refine (HR.out _).mono ?_
  rintro r w1 ⟨rfl, hb⟩
  replace HB := Lib.hid (below_only HB.out hb)
  clear hb x0 x1 x2 x3 x4 x5 zw
  go_wp2_with fail
  go_ret3
  exact ⟨rfl, HB.out⟩
set_option maxRecDepth 100000 in
set_option maxHeartbeats 4000000 in
theorem rheadUnpack_bad (y : Int) (w : World) (y0 : 0 ≤ y) (y1 : y ≤ 18446744073709551615) :
    Calls Tryz.prog 123 #[.int .u64 1281, .int .u64 y] w fun r w' => r = .returned (.tuple #[(headA 0 0 0 0 0), .int .i64 18]) ∧ Below w.heap.size w w' := by
  obtain ⟨sc, Hsc⟩ : ∃ x, Hid (y % 256 = x) := ⟨_, Lib.hid rfl⟩
  obtain ⟨ep, Hep⟩ : ∃ x, Hid (y / 256 % 16777216 = x) := ⟨_, Lib.hid rfl⟩
  have m5 := Hsc.out
  have m6 := Hep.out
  have c0 : 0 ≤ sc := by omega
  have c1 : sc ≤ 255 := by omega
  have p0 : 0 ≤ ep := by omega
  have p1 : ep ≤ 72057594037927935 := by omega
  have HP := fun W => Lib.hid (rheadPack_bad sc ep W)
  have R2 := Lib.hid (show ((w.alloc (.cells (hdCells 0 0 0 false 0 0) 148)).alloc (.cells (hdCells 1281 0 0 false sc ep) 148)).heap[w.heap.size]? = some (.cells (hdCells 0 0 0 false 0 0) 148 (0, 0)) from row_alloc (row_new w _ _))
  have R4 := Lib.hid (show ((w.alloc (.cells (hdCells 0 0 0 false 0 0) 148)).alloc (.cells (hdCells 1281 0 0 false sc ep) 148)).heap[w.heap.size + 1]? = some (.cells (hdCells 1281 0 0 false sc ep) 148 (0, 0)) from heap_at (by simp))
  have B0 := Lib.hid (show Below w.heap.size w ((w.alloc (.cells (hdCells 0 0 0 false 0 0) 148)).alloc (.cells (hdCells 1281 0 0 false sc ep) 148)) by go_grown)
  go_enter Tryz.func123, Tryz.ntmps123
  go_wp2_with fail
  refine (HP _).out.mono ?_
  rintro r w1 ⟨rfl, hb⟩
  have R2' := Lib.hid (row_below R2.out hb)
  have B1 := Lib.hid (below_only B0.out hb)
  clear hb
  go_wp2_with (first | (refine wpList_build_to rfl 148 _ rfl (hdCells 0 0 0 false 0 0) (by kernel_rfl) ?_; (try simp only [Act.put, List.setIfInBounds_toArray, List.set_cons_succ, List.set_cons_zero])) | refine wpList_store_row rfl 148 (.tmp 4) (.tmp 51) rfl w.heap.size (hdCells 0 0 0 false 0 0) rfl rfl 148 _ R2'.out infoHd rfl (hd_one _ _ _ _ _ _) ?_)
  refine bodyPost_ret (results_cell_row_tmp (fn := Tryz.f123) rfl _ _ w.heap.size 148 (hdCells 0 0 0 false 0 0) (0, 0) _ rfl (setRow_heap w1 _ _ _ _ (0, 0) R2'.out) undHd rfl infoHd) rfl ?_
  exact ⟨rfl, below_setRow B1.out (Nat.le_refl _) _⟩
set_option maxRecDepth 100000 in
set_option maxHeartbeats 4000000 in
theorem headUnpack_bad (y : Int) (w : World) (y0 : 0 ≤ y) (y1 : y ≤ 18446744073709551615) :
    Calls Tryz.prog 120 #[.int .u64 1281, .int .u64 y] w fun r w' => r = .returned (.tuple #[(headA 0 0 0 0 0), .int .i64 18]) ∧ Below w.heap.size w w' := by
  obtain ⟨sc, Hsc⟩ : ∃ x, Hid (y % 256 = x) := ⟨_, Lib.hid rfl⟩
  obtain ⟨ep, Hep⟩ : ∃ x, Hid (y / 256 = x) := ⟨_, Lib.hid rfl⟩
  have m5 := Hsc.out
  have m6 := Hep.out
  have c0 : 0 ≤ sc := by omega
  have c1 : sc ≤ 255 := by omega
  have p0 : 0 ≤ ep := by omega
  have p1 : ep ≤ 72057594037927935 := by omega
  have HP := fun W => Lib.hid (headPack_bad sc ep W)
  have m1 : bits .and .u64 1281 4294967295 = 1281 := by rw [u64_mask 32 1281 4294967295 (by omega) rfl (by omega) (by omega)]; decide
  have P2 : ∀ W, Hid (Calls Tryz.prog 124 #[.int .u64 1281, .int .i64 32] W fun r w' => r = .returned (.int .i64 0) ∧ w' = W) := fun W => Lib.hid (by have h := headPart32 1281 W (by omega) (by omega); exact h)
  have P3 : ∀ W, Hid (Calls Tryz.prog 124 #[.int .u64 1281, .int .i64 40] W fun r w' => r = .returned (.int .i64 0) ∧ w' = W) := fun W => Lib.hid (by have h := headPart40 1281 W (by omega) (by omega); exact h)
  have P4 : ∀ W, Hid (Calls Tryz.prog 124 #[.int .u64 1281, .int .i64 48] W fun r w' => r = .returned (.int .i64 0) ∧ w' = W) := fun W => Lib.hid (by have h := headPart48 1281 W (by omega) (by omega); exact h)
  have P5 : ∀ W, Hid (Calls Tryz.prog 124 #[.int .u64 y, .int .i64 0] W fun r w' => r = .returned (.int .i64 sc) ∧ w' = W) := fun W => Lib.hid (by have h := headPart0 y W (by omega) (by omega); rwa [m5] at h)
  clear m5
  have R2 := Lib.hid (show ((w.alloc (.cells (hdCells 0 0 0 false 0 0) 148)).alloc (.cells (hdCells 1281 0 0 false sc ep) 148)).heap[w.heap.size]? = some (.cells (hdCells 0 0 0 false 0 0) 148 (0, 0)) from row_alloc (row_new w _ _))
  have R4 := Lib.hid (show ((w.alloc (.cells (hdCells 0 0 0 false 0 0) 148)).alloc (.cells (hdCells 1281 0 0 false sc ep) 148)).heap[w.heap.size + 1]? = some (.cells (hdCells 1281 0 0 false sc ep) 148 (0, 0)) from heap_at (by simp))
  have B0 := Lib.hid (show Below w.heap.size w ((w.alloc (.cells (hdCells 0 0 0 false 0 0) 148)).alloc (.cells (hdCells 1281 0 0 false sc ep) 148)) by go_grown)
  go_enter Tryz.func120, Tryz.ntmps120
  go_wp2_with fail
  refine (P2 _).out.mono ?_
  rintro r wa ⟨rfl, e2⟩
  rw [e2]
  clear e2 wa
  go_wp2_with fail
  refine (P3 _).out.mono ?_
  rintro r wa ⟨rfl, e2⟩
  rw [e2]
  clear e2 wa
  go_wp2_with fail
  refine (P4 _).out.mono ?_
  rintro r wa ⟨rfl, e2⟩
  rw [e2]
  clear e2 wa
  go_wp2_with fail
  refine (P5 _).out.mono ?_
  rintro r wa ⟨rfl, e2⟩
  rw [e2]
  clear e2 wa
  go_wp2_with fail
  refine (HP _).out.mono ?_
  rintro r w1 ⟨rfl, hb⟩
  have R2' := Lib.hid (row_below R2.out hb)
  have B1 := Lib.hid (below_only B0.out hb)
  clear hb
  go_wp2_with (first | (refine wpList_build_to rfl 148 _ rfl (hdCells 0 0 0 false 0 0) (by kernel_rfl) ?_; (try simp only [Act.put, List.setIfInBounds_toArray, List.set_cons_succ, List.set_cons_zero])) | refine wpList_store_row rfl 148 (.tmp 4) (.tmp 49) rfl w.heap.size (hdCells 0 0 0 false 0 0) rfl rfl 148 _ R2'.out infoHd rfl (hd_one _ _ _ _ _ _) ?_)
  refine bodyPost_ret (results_cell_row_tmp (fn := Tryz.f120) rfl _ _ w.heap.size 148 (hdCells 0 0 0 false 0 0) (0, 0) _ rfl (setRow_heap w1 _ _ _ _ (0, 0) R2'.out) undHd rfl infoHd) rfl ?_
  exact ⟨rfl, below_setRow B1.out (Nat.le_refl _) _⟩
set_option maxRecDepth 100000 in
set_option maxHeartbeats 4000000 in
theorem rthingAt_bad (q b : Nat) (ws : List Int) (k : Nat) (a y : Int) (w : World) (hA : RArn w q b ws) (h1 : ws[k]? = some 1281) (h2 : ws[k + 1]? = some y) (ha : a = 8 * (k : Int)) :
    Calls Tryz.prog 113 #[.pointer (some ⟨q, 0, none⟩), .int .i64 a] w fun r w' => r = .returned (.tuple #[(headA 0 0 0 0 0), .int .i64 18]) ∧ Below w.heap.size w w' := by
  have hs := hA.small
  have hy := hA.ok y (List.mem_of_getElem? h2)
  have l1 := (List.getElem?_eq_some_iff.1 h1).1
  have l2 := (List.getElem?_eq_some_iff.1 h2).1
  have a0 : 0 ≤ a := by omega
  have a1 : a ≤ 65536 := by omega
  have HI1 := Lib.hid (fun W (h : RArn W q b ws) => rarnIs_any q b ws k a W h l1 ha)
  have HI2 := Lib.hid (fun W (h : RArn W q b ws) => rarnIs_any q b ws (k + 1) (a + 8) W h l2 (by omega))
  have HW1 := Lib.hid (fun W (h : RArn W q b ws) => rarnWord_any q b ws k 1281 a W h h1 ha)
  have HW2 := Lib.hid (fun W (h : RArn W q b ws) => rarnWord_any q b ws (k + 1) y (a + 8) W h h2 (by omega))
  have HU := Lib.hid (fun W => rheadUnpack_bad y W hy.1 (by omega))
  have mn : min a 1000000 = a := Int.min_eq_left (by omega)
  have HA := Lib.hid hA
  clear h1 h2 ha hs l1 l2 hA
  go_enter Tryz.func113, Tryz.ntmps113
  go_upto_region 1 with fail
  refine one_row w _ _ ?_
  intro W hR hB
  replace HA := Lib.hid (HA.out.below hB)
  have HR := Lib.hid hR
  have HB := Lib.hid hB
  clear hR hB
  go_wp2_with fail
  refine (HI1.out _ HA.out).mono ?_
  rintro r wa ⟨rfl, e1⟩
  rw [e1]
  clear e1 wa
  go_wp2_with fail
  refine (HI2.out _ HA.out).mono ?_
  rintro r wa ⟨rfl, e1⟩
  rw [e1]
  clear e1 wa
  go_wp2_with fail
  refine (HW1.out _ HA.out).mono ?_
  rintro r wa ⟨rfl, e1⟩
  rw [e1]
  clear e1 wa
  go_wp2_with fail
  refine (HW2.out _ HA.out).mono ?_
  rintro r wa ⟨rfl, e1⟩
  rw [e1]
  clear e1 wa
  go_wp2_with fail
  refine (HU.out _).mono ?_
  rintro r w1 ⟨rfl, hb⟩
  replace HR := Lib.hid (row_below HR.out hb)
  replace HB := Lib.hid (below_only HB.out hb)
  clear hb
  go_wp2_with (first | refine wpList_store_row rfl 148 (.tmp 4) (.tmp 43) rfl w.heap.size (hdCells 0 0 0 false 0 0) rfl rfl 148 _ HR.out infoHd rfl (hd_one _ _ _ _ _ _) ?_)
  refine bodyPost_ret (results_cell_row_tmp (fn := Tryz.f113) rfl _ _ w.heap.size 148 (hdCells 0 0 0 false 0 0) (0, 0) _ rfl (setRow_heap w1 _ _ _ _ (0, 0) HR.out) undHd rfl infoHd) rfl ?_
  exact ⟨rfl, below_setRow HB.out (Nat.le_refl _) _⟩
set_option maxRecDepth 100000 in
set_option maxHeartbeats 4000000 in
theorem thingAt_bad (p b : Nat) (ws : List Int) (k : Nat) (a y : Int) (w : World) (hA : Arn w p b ws) (h1 : ws[k]? = some 1281) (h2 : ws[k + 1]? = some y) (ha : a = 8 * (k : Int)) :
    Calls Tryz.prog 110 #[.pointer (some ⟨p, 0, none⟩), .int .i64 a] w fun r w' => r = .returned (.tuple #[(headA 0 0 0 0 0), .int .i64 18]) ∧ Below w.heap.size w w' := by
  have hs := hA.small
  have hy := hA.ok y (List.mem_of_getElem? h2)
  have l1 := (List.getElem?_eq_some_iff.1 h1).1
  have a0 : 0 ≤ a := by omega
  have a1 : a ≤ 65536 := by omega
  have e1 : ((k * 8 : Nat) : Int) = a := by omega
  have e2 : (((k + 1) * 8 : Nat) : Int) = a + 8 := by omega
  have HW1 := fun W (h : Arn W p b ws) => Lib.hid (arnWord_any p b ws k 1281 W h h1)
  have HW2 := fun W (h : Arn W p b ws) => Lib.hid (arnWord_any p b ws (k + 1) y W h h2)
  have HU := fun W => Lib.hid (headUnpack_bad y W hy.1 (by omega))
  simp only [e1, e2] at HW1 HW2
  have HA := Lib.hid hA
  clear h1 h2 ha hs l1 hA e1 e2
  go_enter Tryz.func110, Tryz.ntmps110
  go_upto_region 1 with fail
  refine one_row w _ _ ?_
  intro W hR hB
  replace HA := Lib.hid (HA.out.below hB)
  have HR := Lib.hid hR
  have HB := Lib.hid hB
  clear hR hB
  go_wp2_with fail
  refine (HW1 _ HA.out).out.mono ?_
  rintro r wa ⟨rfl, e1⟩
  rw [e1]
  clear e1 wa
  go_wp2_with fail
  refine (HW2 _ HA.out).out.mono ?_
  rintro r wa ⟨rfl, e1⟩
  rw [e1]
  clear e1 wa
  go_wp2_with fail
  refine ((HU _).out).mono ?_
  rintro r w1 ⟨rfl, hb⟩
  replace HR := Lib.hid (row_below HR.out hb)
  replace HB := Lib.hid (below_only HB.out hb)
  clear hb
  go_wp2_with (first | refine wpList_store_row rfl 148 (.tmp 4) (.tmp 31) rfl w.heap.size (hdCells 0 0 0 false 0 0) rfl rfl 148 _ HR.out infoHd rfl (hd_one _ _ _ _ _ _) ?_)
  refine bodyPost_ret (results_cell_row_tmp (fn := Tryz.f110) rfl _ _ w.heap.size 148 (hdCells 0 0 0 false 0 0) (0, 0) _ rfl (setRow_heap w1 _ _ _ _ (0, 0) HR.out) undHd rfl infoHd) rfl ?_
  exact ⟨rfl, below_setRow HB.out (Nat.le_refl _) _⟩
set_option maxRecDepth 100000 in
set_option maxHeartbeats 4000000 in
theorem thingSlot_any (p b : Nat) (ws : List Int) (k : Nat) (a j : Int) (sz sl tg sc ep : Int) (w : World) (hA : Arn w p b ws) (H : HeadOk sz sl tg sc ep) (h1 : ws[k]? = some (head1 sz sl tg)) (h2 : ws[k + 1]? = some (head2 sc ep)) (ha : a = 8 * (k : Int)) (hj : 0 ≤ j ∧ j < sl) :
    Calls Tryz.prog 82 #[.pointer (some ⟨p, 0, none⟩), .int .i64 a, .int .i64 j] w fun r w' => r = .returned (.tuple #[.int .i64 (a + 16 + 8 * j), .int .i64 0]) ∧ Below w.heap.size w w' := by
  have HT := Lib.hid (thingAt_any p b ws k a sz sl tg sc ep w hA H h1 h2 ha)
  have hs := hA.small
  have l1 := (List.getElem?_eq_some_iff.1 h1).1
  have a0 : 0 ≤ a := by omega
  have a1 : a ≤ 65536 := by omega
  have hsl := H.hsl
  obtain ⟨j0, j1⟩ := hj
  have d1 : decide (j < 0) = false := decide_eq_false (by omega)
  have d2 : decide (sl ≤ j) = false := decide_eq_false (by omega)
  have q1 : IntKind.i64.wrap (a + 16) = a + 16 := IntWalk.i64_in _ (by omega)
  have q2 : IntKind.i64.wrap (8 * j) = 8 * j := IntWalk.i64_in _ (by omega)
  have q3 : IntKind.i64.wrap (a + 16 + 8 * j) = a + 16 + 8 * j := IntWalk.i64_in _ (by omega)
  obtain ⟨sl0, sl1⟩ := hsl
  clear H h1 h2 ha hs l1 hA
  go_enter Tryz.func82, Tryz.ntmps82
  go_wp2_with fail
  refine HT.out.mono ?_
  rintro r w1 ⟨rfl, hb⟩
  have HB := Lib.hid hb
  clear hb
  go_upto_region 2 with fail
  refine one_row w1 _ _ ?_
  intro W hR hB
  replace HB := Lib.hid (below_only HB.out hB)
  obtain ⟨x0, x1, x2, x3, x4, x5⟩ := box6 hR
  have zw := lt_of_heap hR
  clear hR hB
  go_wp2_with fail
  go_ret2
  exact ⟨rfl, HB.out⟩
end Go.Proofs.YtnimaajnlkbdaaaGreat

namespace Go.Proofs.YtnimaajnlkbdaaaGreat
open Go.RowKit
set_option linter.unusedVariables false
set_option linter.unusedSimpArgs false

set_option maxHeartbeats 400000 in
theorem area_any (A : Option Addr) (c : Nat) (l : List Ent) (w : World) (hl : l.length ≤ 9223372036854775807) (he : Ents w A l) :
    Calls Tryz.prog 122 #[.slice A l.length c] w fun e w' => e = .returned (.int .i64 (area l)) ∧ w' = w := by
  rcases List.eq_nil_or_concat l with rfl | ⟨l', ⟨s, x⟩, rfl⟩
  · go_enter Tryz.func122, Tryz.ntmps122
    go_wp2
    go_ret
    exact ⟨rfl, rfl⟩
  · rw [show (l'.concat (s, x)) = l' ++ [(s, x)] by simp] at *
    obtain ⟨b, off, rfl, _, hc⟩ := he.at_ (by simp)
    obtain ⟨h0, h1⟩ := hc l'.length s x (by simp)
    have Ha := Lib.hid (show area (l' ++ [(s, x)]) = s by simp [area])
    clear hc he
    rw [List.length_append, List.length_singleton] at *
    go_enter Tryz.func122, Tryz.ntmps122
    go_wp2
    go_ret
    exact ⟨by rw [Ha.out]; rfl, rfl⟩
set_option maxHeartbeats 400000 in
theorem index_any (A : Option Addr) (c : Nat) (l : List Ent) (s : Int) (x : Bool) (w : World) (hl : l.length ≤ 9223372036854775807) (he : Ents w A l) :
    Calls Tryz.prog 126 #[.slice A l.length c, .agg #[.int .i64 s, .bool x]] w fun e w' => e = .returned (.int .i64 (idx (s, x) l)) ∧ Below w.heap.size w w' := by
  go_enter Tryz.func126, Tryz.ntmps126
  go_wp2
  go_loopw [5, 8] (fun _ t wr => ∃ k nq : Nat, k ≤ l.length ∧ t = .int .i64 k ∧ (∀ j, j < k → l[j]? ≠ some (s, x)) ∧ wr = (w.alloc (.cells #[.int .i64 s, .bool x] 152)).drewN nq)
    (fun _ t _ => l.length - (intOf t).toNat)
  case atStart => exact ⟨0, 0, Nat.zero_le _, rfl, by simp, rfl⟩
  case round =>
    obtain ⟨k, nq, hk, rfl, hn, rfl⟩ := hrel
    by_cases hlt : k < l.length
    · obtain ⟨b, off, rfl, hb, hc⟩ := he.at_ (by omega)
      obtain ⟨s', x', hv⟩ : ∃ s' x', l[k]? = some (s', x') := ⟨_, _, List.getElem?_eq_getElem hlt⟩
      obtain ⟨h0, h1⟩ := hc k s' x' hv
      have Hn := Lib.hid hn
      have Hv := Lib.hid hv
      clear hn hv hc he
      by_cases heq : (s == s' && x == x') = true
      · go_wp2
        go_quiet (fail)
        go_wp2
        go_ret
        simp only [Bool.and_eq_true, beq_iff_eq] at heq
        obtain ⟨rfl, rfl⟩ := heq
        exact ⟨by rw [idx_some _ _ k Hv.out Hn.out]; rfl, below_drewN (below_drewN ((Below.refl _ _).alloc (Nat.le_refl _) _) _) _⟩
      · have hne : (s == s' && x == x') = false := by simpa using heq
        clear heq
        go_wp2
        go_quiet (fail)
        go_wp2
        go_roundw
        case rel =>
          refine ⟨k + 1, _, hlt, by go_num, fun j hj => ?_, rfl⟩
          rcases Nat.lt_or_ge j k with h | h
          · exact Hn.out j h
          · obtain rfl : j = k := by omega
            rw [Hv.out]
            intro e
            simp only [Option.some.injEq, Prod.mk.injEq] at e
            simp [e] at hne
        case measure => simp [intOf]; omega
    · have Hn := Lib.hid hn
      clear hn
      go_wp2
      go_ret
      exact ⟨by rw [idx_none _ _ (fun j hj => Hn.out j (by omega))]; rfl, below_drewN ((Below.refl _ _).alloc (Nat.le_refl _) _) _⟩
set_option maxHeartbeats 400000 in
theorem at_any (A : Option Addr) (c : Nat) (l : List Ent) (s : Int) (w : World) (hl : l.length ≤ 9223372036854775807) (he : Ents w A l) :
    Calls Tryz.prog 121 #[.slice A l.length c, .int .i64 s] w fun e w' => e = .returned (.int .i64 (idx (s, true) l)) ∧ Below w.heap.size w w' := by
  go_enter Tryz.func121, Tryz.ntmps121
  go_wp2_with (go_at_call 126; refine (index_any _ _ l s true _ hl he).mono ?_; rintro e w1 ⟨rfl, hb⟩)
  go_ret
  exact ⟨rfl, hb⟩
set_option maxHeartbeats 400000 in
theorem reach_any (A : Option Addr) (c : Nat) (l : List Ent) (s : Int) (w : World) (hl : l.length ≤ 9223372036854775807) (he : Ents w A l) :
    Calls Tryz.prog 111 #[.slice A l.length c, .int .i64 s] w fun e w' => e = .returned (.bool (reach l s)) ∧ Below w.heap.size w w' := by
  by_cases h0 : (s == 0) = true
  · have Hr := Lib.hid (show reach l s = true by simp [reach, h0])
    go_enter Tryz.func111, Tryz.ntmps111
    go_wp2
    go_ret
    exact ⟨by rw [Hr.out]; rfl, Below.refl _ _⟩
  · have h0' : (s == 0) = false := by simpa using h0
    clear h0
    have Hr := Lib.hid (show reach l s = decide (0 ≤ idx (s, true) l) by simp [reach, h0'])
    go_enter Tryz.func111, Tryz.ntmps111
    go_wp2_with (go_at_call 121; refine (at_any _ _ l s _ hl he).mono ?_; rintro e w1 ⟨rfl, hb⟩)
    go_ret
    exact ⟨by rw [Hr.out]; rfl, hb⟩
set_option maxHeartbeats 400000 in
theorem par_any (A : Option Addr) (c : Nat) (l : List Ent) (s : Int) (w : World) (hl : l.length ≤ 9223372036854775807) (hc : l.length ≤ c) (he : Ents w A l) :
    Calls Tryz.prog 112 #[.slice A l.length c, .int .i64 s] w fun e w' => e = .returned (.int .i64 (par l s)) ∧ Below w.heap.size w w' := by
  rcases idx_cases (s, true) l with ⟨hi, _⟩ | ⟨k, hk, hi, _, _⟩
  · have Hp := Lib.hid (show par l s = -1 by simp [par, hi])
    have Hi := Lib.hid hi
    clear hi
    go_enter Tryz.func112, Tryz.ntmps112
    go_wp2_with (go_at_call 121; refine (at_any _ _ l s _ hl he).mono ?_; rintro e w1 ⟨rfl, hb⟩; rw [Hi.out])
    go_ret
    exact ⟨by rw [Hp.out]; rfl, hb⟩
  · have Hp := Lib.hid (show par l s = area (l.take k) by rw [par, hi, if_neg (by omega), Int.toNat_natCast])
    have Hi := Lib.hid hi
    have Hlen := Lib.hid (show k = (l.take k).length by rw [List.length_take]; omega)
    clear hi
    go_enter Tryz.func112, Tryz.ntmps112
    go_wp2_with (first
      | (go_at_call 121; refine (at_any _ _ l s _ hl he).mono ?_; rintro e w1 ⟨rfl, hb⟩; rw [Hi.out])
      | (go_at_call 122
         have ha := area_any A k (l.take k) w1 (by rw [List.length_take]; omega) ((he.below hb).take k)
         rw [← Hlen.out] at ha
         refine ha.mono ?_
         clear ha
         rintro e w2 ⟨rfl, rfl⟩))
    go_ret
    exact ⟨by rw [Hp.out]; rfl, hb⟩
set_option maxHeartbeats 400000 in
theorem above_any (A : Option Addr) (c : Nat) (l : List Ent) (s b : Int) (w : World) (hl : l.length ≤ 9223372036854775807) (hc : l.length ≤ c) (he : Ents w A l) :
    Calls Tryz.prog 84 #[.slice A l.length c, .int .i64 s, .int .i64 b] w fun e w' => e = .returned (.bool (above l s b)) ∧ Below w.heap.size w w' := by
  by_cases h0 : (s == 0) = true
  · have Hr := Lib.hid (show above l s b = true by simp [above, h0])
    go_enter Tryz.func84, Tryz.ntmps84
    go_wp2
    go_ret
    exact ⟨by rw [Hr.out]; rfl, Below.refl _ _⟩
  · have h0' : (s == 0) = false := by simpa using h0
    clear h0
    have Hr := Lib.hid (show above l s b = up l s 9 b by simp [above, h0'])
    go_enter Tryz.func84, Tryz.ntmps84
    go_wp2
    go_loopw [2, 9] (fun t i wr => ∃ (k : Nat) (q : Int), k ≤ 9 ∧ i = .int .i64 k ∧ t = .int .i64 q ∧ up l s (9 - k) q = up l s 9 b ∧ Below w.heap.size w wr)
      (fun _ i _ => 9 - (intOf i).toNat)
    case atStart => exact ⟨0, b, by omega, rfl, rfl, rfl, Below.refl _ _⟩
    case round =>
      obtain ⟨k, q, hk, rfl, rfl, hu, hb⟩ := hrel
      by_cases hlt : k < 9
      · obtain ⟨m, hm⟩ : ∃ m, 9 - k = m + 1 := ⟨8 - k, by omega⟩
        have hm' : 9 - (k + 1) = m := by omega
        rw [hm, up_ref] at hu
        have Hu := Lib.hid hu
        have Hm := Lib.hid hm'
        clear hu hm hm'
        by_cases heq : (q == s) = true
        · go_wp2
          go_ret
          exact ⟨by rw [Hr.out, ← Hu.out, heq]; rfl, hb⟩
        · have hne : (q == s) = false := by simpa using heq
          clear heq
          go_wp2_with (go_at_call 112; refine (par_any _ _ l q _ hl hc (he.below hb)).mono ?_; rintro e w1 ⟨rfl, hb1⟩)
          go_roundw
          case rel => exact ⟨k + 1, par l q, by omega, by go_num, rfl, by rw [Hm.out, ← Hu.out, hne]; rfl, below_only hb hb1⟩
          case measure => simp [intOf]; omega
      · obtain rfl : k = 9 := by omega
        have Hu := Lib.hid hu
        clear hu
        go_wp2
        go_ret
        exact ⟨by rw [Hr.out, ← Hu.out]; rfl, hb⟩
set_option maxHeartbeats 400000 in
theorem rpar_any (A : Option Addr) (c : Nat) (l : List Ent) (s : Int) (w : World) (hl : l.length ≤ 9223372036854775807) (hcap : l.length ≤ c) (he : Ents w A l) :
    Calls Tryz.prog 115 #[.slice A l.length c, .int .i64 s] w fun e w' => e = .returned (.int .i64 (par l s)) ∧ w' = w := by
  go_enter Tryz.func115, Tryz.ntmps115
  go_wp2
  go_loop [5] (fun t => ∃ k : Nat, k ≤ l.length ∧ t = .int .i64 k ∧ (∀ j, j < k → l[j]? ≠ some (s, true)))
    (fun t => l.length - (intOf t).toNat)
  case atStart => exact ⟨0, Nat.zero_le _, rfl, by simp⟩
  case round =>
    obtain ⟨k, hk, rfl, hn⟩ := hrel
    by_cases hlt : k < l.length
    · have he' := he.take k
      obtain ⟨b, off, rfl, hb, hc⟩ := he.at_ (by omega)
      obtain ⟨s', x', hv⟩ : ∃ s' x', l[k]? = some (s', x') := ⟨_, _, List.getElem?_eq_getElem hlt⟩
      obtain ⟨h0, h1⟩ := hc k s' x' hv
      have Hlen := Lib.hid (show k = (l.take k).length by rw [List.length_take]; omega)
      have Hn := Lib.hid hn
      have Hv := Lib.hid hv
      clear hn hv hc he
      cases x' with
      | false =>
        go_wp2
        go_round
        case rel => exact ⟨k + 1, hlt, by go_num, not_hit Hv.out Hn.out (.inl rfl)⟩
        case measure => simp [intOf]; omega
      | true =>
        by_cases heq : (s' == s) = true
        · go_wp2_with (go_at_call 68
                       have ha := rarea_any (some ⟨b, off, none⟩) c (l.take k) w (by rw [List.length_take]; omega) he'
                       rw [← Hlen.out] at ha
                       refine ha.mono ?_
                       clear ha
                       rintro e w2 ⟨rfl, rfl⟩)
          go_ret
          simp only [beq_iff_eq] at heq
          subst heq
          exact ⟨by rw [par, idx_some _ _ k Hv.out Hn.out, if_neg (by omega), Int.toNat_natCast]; rfl, rfl⟩
        · have hne : (s' == s) = false := by simpa using heq
          clear heq
          go_wp2
          go_round
          case rel => exact ⟨k + 1, hlt, by go_num, not_hit Hv.out Hn.out (.inr hne)⟩
          case measure => simp [intOf]; omega
    · have Hr := Lib.hid (show par l s = -1 by rw [par, idx_none _ _ (fun j hj => hn j (by omega))]; rfl)
      clear hn
      go_wp2
      go_ret
      exact ⟨by rw [Hr.out]; rfl, rfl⟩
set_option maxHeartbeats 400000 in
theorem rabove_any (A : Option Addr) (c : Nat) (l : List Ent) (s b : Int) (w : World) (hl : l.length ≤ 9223372036854775807) (hcap : l.length ≤ c) (he : Ents w A l) :
    Calls Tryz.prog 88 #[.slice A l.length c, .int .i64 s, .int .i64 b] w fun e w' => e = .returned (.bool (above l s b)) ∧ w' = w := by
  by_cases h0 : (s == 0) = true
  · have Hr := Lib.hid (show above l s b = true by simp [above, h0])
    go_enter Tryz.func88, Tryz.ntmps88
    go_wp2
    go_ret
    exact ⟨by rw [Hr.out]; rfl, rfl⟩
  · have h0' : (s == 0) = false := by simpa using h0
    clear h0
    have hr : above l s b = up l s 9 b := by simp [above, h0']
    by_cases h1 : (s == b) = true
    · have Hr := Lib.hid (show above l s b = true by rw [hr]; simp only [beq_iff_eq] at h1; simp [up, h1])
      clear hr
      go_enter Tryz.func88, Tryz.ntmps88
      go_wp2
      go_ret
      exact ⟨by rw [Hr.out]; rfl, rfl⟩
    · have h1' : (s == b) = false := by simpa using h1
      have h1'' : (b == s) = false := by simp at h1 ⊢; exact fun e => h1 e.symm
      have Hr := Lib.hid (show above l s b = up l s 8 (par l b) by rw [hr, up_ref, h1'']; rfl)
      clear hr h1 h1''
      go_enter Tryz.func88, Tryz.ntmps88
      go_wp2
      go_loop [7, 8] (fun t i => ∃ (k : Nat) (q : Int), k ≤ 8 ∧ i = .int .i64 k ∧ t = .int .i64 q ∧ up l s (8 - k) (par l q) = up l s 8 (par l b))
        (fun _ i => 8 - (intOf i).toNat)
      case atStart => exact ⟨0, b, by omega, rfl, rfl, rfl⟩
      case round =>
        obtain ⟨k, q, hk, rfl, rfl, hu⟩ := hrel
        by_cases hlt : k < 8
        · obtain ⟨m, hm⟩ : ∃ m, 8 - k = m + 1 := ⟨7 - k, by omega⟩
          have hm' : 8 - (k + 1) = m := by omega
          rw [hm, up_ref] at hu
          have Hu := Lib.hid hu
          have Hm := Lib.hid hm'
          clear hu hm hm'
          by_cases heq : (par l q == s) = true
          · go_wp2_with (go_at_call 115; refine (rpar_any _ _ l q _ hl hcap he).mono ?_; rintro e w1 ⟨rfl, rfl⟩)
            go_ret
            exact ⟨by rw [Hr.out, ← Hu.out, heq]; rfl, rfl⟩
          · have hne : (par l q == s) = false := by simpa using heq
            clear heq
            go_wp2_with (go_at_call 115; refine (rpar_any _ _ l q _ hl hcap he).mono ?_; rintro e w1 ⟨rfl, rfl⟩)
            go_round
            case rel => exact ⟨k + 1, par l q, by omega, by go_num, rfl, by rw [Hm.out, ← Hu.out, hne]; rfl⟩
            case measure => simp [intOf]; omega
        · obtain rfl : k = 8 := by omega
          have Hu := Lib.hid hu
          clear hu
          go_wp2
          go_ret
          exact ⟨by rw [Hr.out, ← Hu.out]; rfl, rfl⟩
set_option maxRecDepth 100000 in
set_option maxHeartbeats 2000000 in
theorem check_any (P : Pln) (A : Option Addr) (c : Nat) (l : List Ent) (h : Int) (w : World) (hl : l.length ≤ 1048576) (he : Ents w A l) (h0 : 0 ≤ h) (h1 : h ≤ 18446744073709551615) :
    Calls Tryz.prog 83 #[P.val, .slice A l.length c, .int .u64 h] w fun r w' => r = .returned (.tuple #[.agg #[.int .i64 (checkR P.s l h).1.1, .int .i64 (checkR P.s l h).1.2.1, .int .i64 (checkR P.s l h).1.2.2], .int .i64 (checkR P.s l h).2]) ∧ Below w.heap.size w w' := by
  obtain ⟨ps, pt, pi, ph⟩ := P
  have He := Lib.hid he
  clear he
  have HU := Lib.hid (fun W => unpackR_any h W h0 h1)
  obtain ⟨us, ue, ua, uc, HR⟩ : ∃ us ue ua uc, Hid (unpackR h = ((us, ue, ua), uc)) := ⟨(unpackR h).1.1, _, _, _, Lib.hid rfl⟩
  have ub : 0 ≤ us ∧ us ≤ 255 := by
    have := HR.out
    unfold unpackR at this
    split at this
    · rename_i hr
      injection this with t1 t2
      injection t1 with t1 t3
      rw [← t1]
      constructor <;> omega
    · injection this with t1 t2
      injection t1 with t1 t3
      omega
  obtain ⟨u0, u1⟩ := ub
  have R1 := Lib.hid (show ((w.alloc (.cells #[.int .i64 ps, .int .i64 pt, .int .i64 pi, .int .i64 ph] 28)).alloc (.cells #[.int .i64 0, .int .i64 0, .int .i64 0] 70)).heap[w.heap.size]? = some (.cells #[.int .i64 ps, .int .i64 pt, .int .i64 pi, .int .i64 ph] 28 (0, 0)) from row_alloc (row_new w _ _))
  have R2 := Lib.hid (show ((w.alloc (.cells #[.int .i64 ps, .int .i64 pt, .int .i64 pi, .int .i64 ph] 28)).alloc (.cells #[.int .i64 0, .int .i64 0, .int .i64 0] 70)).heap[w.heap.size + 1]? = some (.cells #[.int .i64 0, .int .i64 0, .int .i64 0] 70 (0, 0)) from heap_at (by simp))
  have B0 := Lib.hid (show Below w.heap.size w ((w.alloc (.cells #[.int .i64 ps, .int .i64 pt, .int .i64 pi, .int .i64 ph] 28)).alloc (.cells #[.int .i64 0, .int .i64 0, .int .i64 0] 70)) by go_grown)
  by_cases hc : uc = 0
  · subst hc
    by_cases hs : ps ≤ us
    · skip
      have d1 : decide (us ≥ ps) = true := decide_eq_true hs
      have d2 : decide (ps ≤ us) = true := decide_eq_true hs
      have HC := Lib.hid (show checkR ps l h = ((0, 0, 0), 18) by unfold checkR; rw [HR.out]; simp only [not_true, if_false]; rw [if_pos hs])
      clear hs
      dsimp only
      rw [HC.out]
      go_enter Tryz.func83, Tryz.ntmps83
      go_wp2_with fail
      refine (HU.out _).mono ?_
      rintro r w1 ⟨rfl, hb⟩
      rw [HR.out]
      obtain ⟨a0, a1, a2, a3, _, _, _, _⟩ := box4 (row_below R1.out hb)
      have R2' := Lib.hid (row_below R2.out hb)
      obtain ⟨b0, b1, b2, f0, f1, f2⟩ := box3 R2'.out
      have B1 := below_only B0.out hb
      have z1 := lt_of_heap R2'.out
      have z0 : w.heap.size < w1.heap.size := by omega
      clear hb
      go_wp2_with fail
      obtain ⟨d0, d1', d2', _, _, _⟩ := box3 (row_alloc (o' := .cells #[.int .i64 us, .int .i64 ue, .int .i64 ua] 70) (row_three R2'.out (.int .i64 0) (.int .i64 0) (.int .i64 0)))
      refine bodyPost_ret (by simp [results, Tryz.results83, go_sem, d0, d1', d2']; rfl) rfl ?_
      exact ⟨rfl, by go_grown⟩

    · skip
      have d1 : decide (us ≥ ps) = false := decide_eq_false hs
      have d2 : decide (ps ≤ us) = false := decide_eq_false hs
      cases hr : reach l us with
      | false =>
        have HC := Lib.hid (show checkR ps l h = ((0, 0, 0), 20) by unfold checkR; rw [HR.out]; simp only [not_true, if_false]; rw [if_neg hs, if_pos hr])
        clear hs
        dsimp only
        rw [HC.out]
        go_enter Tryz.func83, Tryz.ntmps83
        go_wp2_with fail
        refine (HU.out _).mono ?_
        rintro r w1 ⟨rfl, hb⟩
        rw [HR.out]
        obtain ⟨a0, a1, a2, a3, _, _, _, _⟩ := box4 (row_below R1.out hb)
        have R2' := Lib.hid (row_below R2.out hb)
        obtain ⟨b0, b1, b2, f0, f1, f2⟩ := box3 R2'.out
        have B1 := below_only B0.out hb
        have z1 := lt_of_heap R2'.out
        have z0 : w.heap.size < w1.heap.size := by omega
        clear hb
        go_wp2_with fail
        refine (reach_any A c l _ _ (by omega) (Cells.alloc (Cells.below He.out B1) _)).mono ?_
        rintro r w3 ⟨rfl, hb3⟩
        rw [hr]
        have hX := row_below (row_new w1 #[.int .i64 us, .int .i64 ue, .int .i64 ua] 70) hb3
        obtain ⟨g0, g1, g2, _, _, _⟩ := box3 hX
        obtain ⟨b0', b1', b2', f0', f1', f2'⟩ := box3 (row_below (row_alloc (o' := .cells #[.int .i64 us, .int .i64 ue, .int .i64 ua] 70) R2'.out) hb3)
        have B3 := below_only (show Below w.heap.size w (w1.alloc (.cells #[.int .i64 us, .int .i64 ue, .int .i64 ua] 70)) by go_grown) hb3
        clear b0 b1 b2 f0 f1 f2 hX
        go_wp2_with fail
        obtain ⟨d0, d1', d2', _, _, _⟩ := box3 (row_three (row_below (row_alloc (o' := .cells #[.int .i64 us, .int .i64 ue, .int .i64 ua] 70) R2'.out) hb3) (.int .i64 0) (.int .i64 0) (.int .i64 0))
        refine bodyPost_ret (by simp [results, Tryz.results83, go_sem, d0, d1', d2']; rfl) rfl ?_
        exact ⟨rfl, by go_grown⟩

      | true =>
        have HC := Lib.hid (show checkR ps l h = ((us, ue, ua), 0) by unfold checkR; rw [HR.out]; simp only [not_true, if_false]; rw [if_neg hs, if_neg (by rw [hr]; simp)])
        clear hs
        dsimp only
        rw [HC.out]
        go_enter Tryz.func83, Tryz.ntmps83
        go_wp2_with fail
        refine (HU.out _).mono ?_
        rintro r w1 ⟨rfl, hb⟩
        rw [HR.out]
        obtain ⟨a0, a1, a2, a3, _, _, _, _⟩ := box4 (row_below R1.out hb)
        have R2' := Lib.hid (row_below R2.out hb)
        obtain ⟨b0, b1, b2, f0, f1, f2⟩ := box3 R2'.out
        have B1 := below_only B0.out hb
        have z1 := lt_of_heap R2'.out
        have z0 : w.heap.size < w1.heap.size := by omega
        clear hb
        go_wp2_with fail
        refine (reach_any A c l _ _ (by omega) (Cells.alloc (Cells.below He.out B1) _)).mono ?_
        rintro r w3 ⟨rfl, hb3⟩
        rw [hr]
        have hX := row_below (row_new w1 #[.int .i64 us, .int .i64 ue, .int .i64 ua] 70) hb3
        obtain ⟨g0, g1, g2, _, _, _⟩ := box3 hX
        obtain ⟨b0', b1', b2', f0', f1', f2'⟩ := box3 (row_below (row_alloc (o' := .cells #[.int .i64 us, .int .i64 ue, .int .i64 ua] 70) R2'.out) hb3)
        have B3 := below_only (show Below w.heap.size w (w1.alloc (.cells #[.int .i64 us, .int .i64 ue, .int .i64 ua] 70)) by go_grown) hb3
        clear b0 b1 b2 f0 f1 f2 hX
        go_wp2_with fail
        obtain ⟨d0, d1', d2', _, _, _⟩ := box3 (row_three (row_below (row_alloc (o' := .cells #[.int .i64 us, .int .i64 ue, .int .i64 ua] 70) R2'.out) hb3) (.int .i64 us) (.int .i64 ue) (.int .i64 ua))
        refine bodyPost_ret (by simp [results, Tryz.results83, go_sem, d0, d1', d2']; rfl) rfl ?_
        exact ⟨rfl, by go_grown⟩

  · skip
    have hc' : (uc != 0) = true := by simpa using hc
    have HC := Lib.hid (show checkR ps l h = ((0, 0, 0), 18) by unfold checkR; rw [HR.out]; simp only; rw [if_pos hc])
    clear hc
    dsimp only
    rw [HC.out]
    go_enter Tryz.func83, Tryz.ntmps83
    go_wp2_with fail
    refine (HU.out _).mono ?_
    rintro r w1 ⟨rfl, hb⟩
    rw [HR.out]
    obtain ⟨a0, a1, a2, a3, _, _, _, _⟩ := box4 (row_below R1.out hb)
    have R2' := Lib.hid (row_below R2.out hb)
    obtain ⟨b0, b1, b2, f0, f1, f2⟩ := box3 R2'.out
    have B1 := below_only B0.out hb
    have z1 := lt_of_heap R2'.out
    have z0 : w.heap.size < w1.heap.size := by omega
    clear hb
    go_wp2_with fail
    obtain ⟨d0, d1', d2', _, _, _⟩ := box3 (row_alloc (o' := .cells #[.int .i64 us, .int .i64 ue, .int .i64 ua] 70) (row_three R2'.out (.int .i64 0) (.int .i64 0) (.int .i64 0)))
    refine bodyPost_ret (by simp [results, Tryz.results83, go_sem, d0, d1', d2']; rfl) rfl ?_
    exact ⟨rfl, by go_grown⟩
end Go.Proofs.YtnimaajnlkbdaaaGreat
