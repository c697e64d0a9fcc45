/- The document's head.Unpack and thing.At, of a head that may be. The program's head.Unpack and thing.At, of a head that may be. (Printed by gen_thg.py.) -/
import Derived.Test.YtbijaloeilnjoaaGreatRTake
namespace Go.Proofs.YtbijaloeilnjoaaGreat
open Go.RowKit
set_option linter.unusedVariables false
set_option linter.unusedSimpArgs false

abbrev hdCells (sz sl tg : Int) (dn : Bool) (sc ep : Int) : Array Value := #[.int .i64 sz, .int .i64 sl, .int .i64 tg, .bool dn, .int .i64 sc, .int .i64 ep]
theorem infoHd : (Tryz.prog.info? 148).map (·.size) = some 6 := by kernel_rfl
theorem undHd : Tryz.prog.underlying 148 = some (.struct (Tryz.prog.fieldsOf 148)) := by kernel_rfl
theorem hd_one (sz sl tg : Int) (dn : Bool) (sc ep : Int) : (hdCells sz sl tg dn sc ep).all (·.oneCell') = true := by simp [Value.oneCell']
set_option maxRecDepth 100000 in
set_option maxHeartbeats 4000000 in
theorem rheadUnpack_any (sz sl tg sc ep : Int) (w : World) (H : HeadOk sz sl tg sc ep) :
    Calls Tryz.prog 140 #[.int .u64 (head1 sz sl tg), .int .u64 (head2 sc ep)] w fun r w' => r = .returned (.tuple #[headA sz sl tg sc ep, .int .i64 0]) ∧ Below w.heap.size w w' := by
  have HP := fun W => Lib.hid (rheadPack_any sz sl tg sc ep W H)
  obtain ⟨⟨s0, s1⟩, ⟨z0, z1⟩, ⟨t0, t1⟩, ⟨c0, c1⟩, ⟨p0, p1⟩⟩ := H
  obtain ⟨one, H1⟩ : ∃ x, Hid (head1 sz sl tg = x) := ⟨_, Lib.hid rfl⟩
  obtain ⟨two, H2⟩ : ∃ x, Hid (head2 sc ep = x) := ⟨_, Lib.hid rfl⟩
  have m1 : one % 4294967296 = sz := by rw [← H1.out]; unfold head1; omega
  have m2 : one / 4294967296 % 256 = sl := by rw [← H1.out]; unfold head1; omega
  have m3 : one / 1099511627776 % 256 = tg := by rw [← H1.out]; unfold head1; omega
  have m4 : one / 281474976710656 % 256 = 0 := by rw [← H1.out]; unfold head1; omega
  have m5 : two % 256 = sc := by rw [← H2.out]; unfold head2; omega
  have m6 : two / 256 % 16777216 = ep := by rw [← H2.out]; unfold head2; omega
  have o0 : 0 ≤ one := by rw [← H1.out]; unfold head1; omega
  have o1 : one ≤ 18446744073709551615 := by rw [← H1.out]; unfold head1; omega
  have o2 : 0 ≤ two := by rw [← H2.out]; unfold head2; omega
  have o3 : two ≤ 18446744073709551615 := by rw [← H2.out]; unfold head2; omega
  simp only [H1.out, H2.out] at HP ⊢
  clear H1 H2
  have R2 := Lib.hid (show ((w.alloc (.cells (hdCells 0 0 0 false 0 0) 148)).alloc (.cells (hdCells sz sl tg false sc ep) 148)).heap[w.heap.size]? = some (.cells (hdCells 0 0 0 false 0 0) 148 (0, 0)) from row_alloc (row_new w _ _))
  have R4 := Lib.hid (show ((w.alloc (.cells (hdCells 0 0 0 false 0 0) 148)).alloc (.cells (hdCells sz sl tg false sc ep) 148)).heap[w.heap.size + 1]? = some (.cells (hdCells sz sl tg false sc ep) 148 (0, 0)) from heap_at (by simp))
  have B0 := Lib.hid (show Below w.heap.size w ((w.alloc (.cells (hdCells 0 0 0 false 0 0) 148)).alloc (.cells (hdCells sz sl tg false sc ep) 148)) by go_grown)
  go_enter Tryz.func140, Tryz.ntmps140
  go_wp2_with fail
  refine (HP _).out.mono ?_
  rintro r w1 ⟨rfl, hb⟩
  have R2' := Lib.hid (row_below R2.out hb)
  have B1 := Lib.hid (below_only B0.out hb)
  obtain ⟨x0, x1, x2, x3, x4, x5⟩ := box6 (row_below R4.out hb)
  have zw := lt_of_heap (row_below R4.out hb)
  clear hb
  go_wp2_with (first | refine wpList_store_row rfl 148 (.tmp 4) (.tmp 52) rfl w.heap.size (hdCells sz sl tg false sc ep) rfl rfl 148 _ R2'.out infoHd rfl (hd_one _ _ _ _ _ _) ?_)
  refine bodyPost_ret (results_cell_row_tmp (fn := Tryz.f140) rfl _ _ w.heap.size 148 (hdCells sz sl tg false sc ep) (0, 0) _ rfl (setRow_heap w1 _ _ _ _ (0, 0) R2'.out) undHd rfl infoHd) rfl ?_
  exact ⟨rfl, below_setRow B1.out (Nat.le_refl _) _⟩
set_option maxRecDepth 100000 in
set_option maxHeartbeats 4000000 in
theorem rthingAt_any (q b : Nat) (ws : List Int) (k : Nat) (a : Int) (sz sl tg sc ep : Int) (w : World) (hA : RArn w q b ws) (H : HeadOk sz sl tg sc ep) (h1 : ws[k]? = some (head1 sz sl tg)) (h2 : ws[k + 1]? = some (head2 sc ep)) (ha : a = 8 * (k : Int)) :
    Calls Tryz.prog 100 #[.pointer (some ⟨q, 0, none⟩), .int .i64 a] w fun r w' => r = .returned (.tuple #[headA sz sl tg sc ep, .int .i64 0]) ∧ Below w.heap.size w w' := by
  have hs := hA.small
  have l1 := (List.getElem?_eq_some_iff.1 h1).1
  have l2 := (List.getElem?_eq_some_iff.1 h2).1
  have a0 : 0 ≤ a := by omega
  have a1 : a ≤ 65536 := by omega
  have HI1 := Lib.hid (fun W (h : RArn W q b ws) => rarnIs_any q b ws k a W h l1 ha)
  have HI2 := Lib.hid (fun W (h : RArn W q b ws) => rarnIs_any q b ws (k + 1) (a + 8) W h l2 (by omega))
  have HW1 := Lib.hid (fun W (h : RArn W q b ws) => rarnWord_any q b ws k (head1 sz sl tg) a W h h1 ha)
  have HW2 := Lib.hid (fun W (h : RArn W q b ws) => rarnWord_any q b ws (k + 1) (head2 sc ep) (a + 8) W h h2 (by omega))
  have HU := Lib.hid (fun W => rheadUnpack_any sz sl tg sc ep W H)
  have mn : min a 1000000 = a := Int.min_eq_left (by omega)
  obtain ⟨one, H1⟩ : ∃ x, Hid (head1 sz sl tg = x) := ⟨_, Lib.hid rfl⟩
  obtain ⟨two, H2⟩ : ∃ x, Hid (head2 sc ep = x) := ⟨_, Lib.hid rfl⟩
  simp only [H1.out, H2.out] at HW1 HW2 HU
  have HA := Lib.hid hA
  clear H h1 h2 H1 H2 ha hs l1 l2 hA
  go_enter Tryz.func100, Tryz.ntmps100
  go_upto_region 1 with fail
  refine one_row w _ _ ?_
  intro W hR hB
  replace HA := Lib.hid (HA.out.below hB)
  have HR := Lib.hid hR
  have HB := Lib.hid hB
  clear hR hB
  go_wp2_with fail
  refine (HI1.out _ HA.out).mono ?_
  rintro r w1 ⟨rfl, e1⟩
  rw [e1]
  clear e1 w1
  go_wp2_with fail
  refine (HI2.out _ HA.out).mono ?_
  rintro r w1 ⟨rfl, e1⟩
  rw [e1]
  clear e1 w1
  go_wp2_with fail
  refine (HW1.out _ HA.out).mono ?_
  rintro r w1 ⟨rfl, e1⟩
  rw [e1]
  clear e1 w1
  go_wp2_with fail
  refine (HW2.out _ HA.out).mono ?_
  rintro r w1 ⟨rfl, e1⟩
  rw [e1]
  clear e1 w1
  go_wp2_with fail
  refine (HU.out _).mono ?_
  rintro r w1 ⟨rfl, hb⟩
  replace HR := Lib.hid (row_below HR.out hb)
  replace HB := Lib.hid (below_only HB.out hb)
  clear hb
  go_wp2_with (first | refine wpList_store_row rfl 148 (.tmp 4) (.tmp 43) rfl w.heap.size (hdCells sz sl tg false sc ep) rfl rfl 148 _ HR.out infoHd rfl (hd_one _ _ _ _ _ _) ?_)
  refine bodyPost_ret (results_cell_row_tmp (fn := Tryz.f100) rfl _ _ w.heap.size 148 (hdCells sz sl tg false sc ep) (0, 0) _ rfl (setRow_heap w1 _ _ _ _ (0, 0) HR.out) undHd rfl infoHd) rfl ?_
  exact ⟨rfl, below_setRow HB.out (Nat.le_refl _) _⟩
end Go.Proofs.YtbijaloeilnjoaaGreat

namespace Go.Proofs.YtbijaloeilnjoaaGreat
open Go.RowKit
set_option linter.unusedVariables false
set_option linter.unusedSimpArgs false

set_option maxRecDepth 100000 in
set_option maxHeartbeats 4000000 in
theorem headPart0 (x : Int) (w : World) (h0 : 0 ≤ x) (h1 : x ≤ 18446744073709551615) : Calls Tryz.prog 152 #[.int .u64 x, .int .i64 0] w fun r w' => r = .returned (.int .i64 (x % 256)) ∧ w' = w := by
  have m1 : bits .and .u64 (x) 255 = x % 256 := umask8 _ (by omega) (by omega)
  obtain ⟨z, Hz⟩ : ∃ z, Hid (x % 256 = z) := ⟨_, Lib.hid rfl⟩
  rw [Hz.out] at m1 ⊢
  have z0 : 0 ≤ z := by rw [← Hz.out]; omega
  have z1 : z ≤ 255 := by rw [← Hz.out]; omega
  go_enter Tryz.func152, Tryz.ntmps152
  go_wp2_with fail
  go_ret
  exact ⟨rfl, rfl⟩
set_option maxRecDepth 100000 in
set_option maxHeartbeats 4000000 in
theorem headPart32 (x : Int) (w : World) (h0 : 0 ≤ x) (h1 : x ≤ 18446744073709551615) : Calls Tryz.prog 152 #[.int .u64 x, .int .i64 32] w fun r w' => r = .returned (.int .i64 (x / 4294967296 % 256)) ∧ w' = w := by
  have m1 : bits .and .u64 (x / 4294967296) 255 = x / 4294967296 % 256 := umask8 _ (by omega) (by omega)
  obtain ⟨z, Hz⟩ : ∃ z, Hid (x / 4294967296 % 256 = z) := ⟨_, Lib.hid rfl⟩
  rw [Hz.out] at m1 ⊢
  have z0 : 0 ≤ z := by rw [← Hz.out]; omega
  have z1 : z ≤ 255 := by rw [← Hz.out]; omega
  go_enter Tryz.func152, Tryz.ntmps152
  go_wp2_with fail
  go_ret
  exact ⟨rfl, rfl⟩
set_option maxRecDepth 100000 in
set_option maxHeartbeats 4000000 in
theorem headPart40 (x : Int) (w : World) (h0 : 0 ≤ x) (h1 : x ≤ 18446744073709551615) : Calls Tryz.prog 152 #[.int .u64 x, .int .i64 40] w fun r w' => r = .returned (.int .i64 (x / 1099511627776 % 256)) ∧ w' = w := by
  have m1 : bits .and .u64 (x / 1099511627776) 255 = x / 1099511627776 % 256 := umask8 _ (by omega) (by omega)
  obtain ⟨z, Hz⟩ : ∃ z, Hid (x / 1099511627776 % 256 = z) := ⟨_, Lib.hid rfl⟩
  rw [Hz.out] at m1 ⊢
  have z0 : 0 ≤ z := by rw [← Hz.out]; omega
  have z1 : z ≤ 255 := by rw [← Hz.out]; omega
  go_enter Tryz.func152, Tryz.ntmps152
  go_wp2_with fail
  go_ret
  exact ⟨rfl, rfl⟩
set_option maxRecDepth 100000 in
set_option maxHeartbeats 4000000 in
theorem headPart48 (x : Int) (w : World) (h0 : 0 ≤ x) (h1 : x ≤ 18446744073709551615) : Calls Tryz.prog 152 #[.int .u64 x, .int .i64 48] w fun r w' => r = .returned (.int .i64 (x / 281474976710656 % 256)) ∧ w' = w := by
  have m1 : bits .and .u64 (x / 281474976710656) 255 = x / 281474976710656 % 256 := umask8 _ (by omega) (by omega)
  obtain ⟨z, Hz⟩ : ∃ z, Hid (x / 281474976710656 % 256 = z) := ⟨_, Lib.hid rfl⟩
  rw [Hz.out] at m1 ⊢
  have z0 : 0 ≤ z := by rw [← Hz.out]; omega
  have z1 : z ≤ 255 := by rw [← Hz.out]; omega
  go_enter Tryz.func152, Tryz.ntmps152
  go_wp2_with fail
  go_ret
  exact ⟨rfl, rfl⟩
end Go.Proofs.YtbijaloeilnjoaaGreat
