/- Layer 18: heads of objects that were finalized or not: head.Pack, head.Unpack, thing.At, thing.Slot, thing.Mark. -/
import Derived.Test.YtbijaloeilnjoaaGreatTH
import Derived.Test.YtbijaloeilnjoaaGreatLP
import Derived.Test.YtbijaloeilnjoaaGreatFR
namespace Go.Proofs.YtbijaloeilnjoaaGreat
open Go.RowKit
set_option linter.unusedVariables false
set_option linter.unusedSimpArgs false

theorem nat_setbit (Y : Nat) (h : Y / 281474976710656 % 2 = 0) : Y ||| 281474976710656 = Y + 281474976710656 := by
 have e1 : Y / 562949953421312 * 562949953421312 ||| Y % 281474976710656 = Y := by
  rw [nat_join 49 (Y / 562949953421312 * 562949953421312) (Y % 281474976710656) (by omega) (by omega)]; omega
 have e2 : Y % 281474976710656 ||| 281474976710656 = 281474976710656 + Y % 281474976710656 := by
  rw [Nat.or_comm, nat_join 48 281474976710656 (Y % 281474976710656) (by omega) (by omega)]
 calc Y ||| 281474976710656 = (Y / 562949953421312 * 562949953421312 ||| Y % 281474976710656) ||| 281474976710656 := by rw [e1]
  _ = Y / 562949953421312 * 562949953421312 ||| (281474976710656 + Y % 281474976710656) := by rw [Nat.or_assoc, e2]
  _ = Y / 562949953421312 * 562949953421312 + (281474976710656 + Y % 281474976710656) := nat_join 49 _ _ (by omega) (by omega)
  _ = Y + 281474976710656 := by omega
theorem u64_setbit (y : Int) (h2 : 0 ≤ y) (h3 : y < 18446744073709551616) (h : y / 281474976710656 % 2 = 0) : bits .or .u64 y 281474976710656 = y + 281474976710656 := by
 obtain ⟨Y, rfl⟩ := Int.eq_ofNat_of_zero_le h2
 have := u64_or_nat Y 281474976710656 (by omega) (by omega)
 rw [show ((281474976710656 : Nat) : Int) = 281474976710656 from rfl] at this
 rw [this, nat_setbit Y (by omega)]
 omega
abbrev headD (sz sl tg : Int) (dn : Bool) (sc ep : Int) : Value := .agg (hdCells sz sl tg dn sc ep)
theorem head1d_bit {sz sl tg : Int} {dn : Bool} {sc ep : Int} (H : HeadOk sz sl tg sc ep) : 0 ≤ head1d sz sl tg dn ∧ head1d sz sl tg dn ≤ 18446744073709551615 ∧ head1d sz sl tg dn % 4294967296 = sz ∧ head1d sz sl tg dn / 4294967296 % 256 = sl ∧ head1d sz sl tg dn / 1099511627776 % 256 = tg ∧ head1d sz sl tg dn / 281474976710656 % 256 = (if dn then 1 else 0) := by
 obtain ⟨⟨s0, s1⟩, ⟨z0, z1⟩, ⟨t0, t1⟩, ⟨c0, c1⟩, ⟨p0, p1⟩⟩ := H
 unfold head1d doneB head1
 cases dn
 ·simp only [Bool.false_eq_true, if_false]; omega
 ·simp only [if_true]; omega
set_option maxRecDepth 100000 in
set_option maxHeartbeats 2000000 in
theorem headRightD_any (sz sl tg : Int) (dn : Bool) (sc ep : Int) (w : World) (H : HeadOk sz sl tg sc ep) : Calls Tryz.prog 159 #[headD sz sl tg dn sc ep] w fun r w' => r = .returned (.bool true) ∧ Below w.heap.size w w' := by
 have e1 : inB sl 0 (7 - 1) = true := inB_t (by have := H.hsl; omega)
 have e2 : inB sz (2 + sl) 72 = true := inB_t (by have := H.hsz; omega)
 have e3 : inB tg 0 (8 - 1) = true := inB_t (by have := H.htg; omega)
 have e4 : inB sc 0 (8 - 1) = true := inB_t (by have := H.hsc; omega)
 have e5 : inB ep 0 (16777216 - 1) = true := inB_t (by have := H.hep; omega)
 obtain ⟨s0, s1⟩ := H.hsl
 clear H
 go_enter Tryz.func159, Tryz.ntmps159
 go_wp2_with (first | (go_at_call 103; refine (within_any _ _ _ _).mono ?_; rintro r w1 ⟨rfl, rfl⟩; rw [e2]) | (go_at_call 162; refine (headBelow_any _ _ _ (by decide) (by decide)).mono ?_; rintro r w1 ⟨rfl, rfl⟩; first | rw [e1] | rw [e3] | rw [e4] | rw [e5]))
 go_ret
 exact ⟨rfl, by go_grown⟩
set_option maxRecDepth 100000 in
set_option maxHeartbeats 2000000 in
theorem headPackD_any (sz sl tg : Int) (dn : Bool) (sc ep : Int) (w : World) (H : HeadOk sz sl tg sc ep) : Calls Tryz.prog 151 #[headD sz sl tg dn sc ep] w fun r w' => r = .returned (.tuple #[.int .u64 (head1d sz sl tg dn), .int .u64 (head2 sc ep), .int .i64 0]) ∧ Below w.heap.size w w' := by
 have HR := Lib.hid (fun W => headRightD_any sz sl tg dn sc ep W H)
 obtain ⟨⟨s0, s1⟩, ⟨z0, z1⟩, ⟨t0, t1⟩, ⟨c0, c1⟩, ⟨p0, p1⟩⟩ := H
 have E1 : Hid (bits .or .u64 (bits .or .u64 (bits .or .u64 11889503016258109440 (tg * 1099511627776)) (sl * 4294967296)) sz = head1 sz sl tg) := Lib.hid (by
  rw [u64_join' 56 (tg * 1099511627776) 11889503016258109440 (by omega) (by omega) (by omega) (by omega) (by decide) (by omega), u64_join' 40 (sl * 4294967296) _ (by omega) (by omega) (by omega) (by omega) (by omega) (by omega), u64_join' 32 sz _ (by omega) (by omega) (by omega) (by omega) (by omega) (by omega)]
  unfold head1
  omega)
 have E2 : Hid (bits .or .u64 (ep * 256) sc = head2 sc ep) := Lib.hid (by
  rw [u64_join' 8 sc (ep * 256) (by omega) (by omega) (by omega) (by omega) (by omega) (by omega)]
  rfl)
 have E3 : Hid (bits .or .u64 (head1 sz sl tg) 281474976710656 = head1 sz sl tg + 281474976710656) := Lib.hid (u64_setbit _ (by unfold head1; omega) (by unfold head1; omega) (by unfold head1; omega))
 go_enter Tryz.func151, Tryz.ntmps151
 go_upto_region 1 with fail
 refine one_row w _ _ ?_
 intro W hR hB
 obtain ⟨x0, x1, x2, x3, x4, x5⟩ := box6 hR
 have zw := lt_of_heap hR
 have HRw := Lib.hid hR
 have HB := Lib.hid hB
 clear hR hB
 go_wp2_with fail
 refine (HR.out _).mono ?_
 rintro r w1 ⟨rfl, hb⟩
 replace HRw := Lib.hid (row_below HRw.out hb)
 replace HB := Lib.hid (below_only HB.out hb)
 clear hb x0 x1 x2 x3 x4 x5 zw
 obtain ⟨x0, x1, x2, x3, x4, x5⟩ := box6 HRw.out
 have zw := lt_of_heap HRw.out
 cases dn with
 | false =>
  go_wp2_with fail
  go_region
  all_goals go_wp2
  go_ret3
  exact ⟨by rw [← E2.out, show head1d sz sl tg false = head1 sz sl tg from Int.add_zero _, ← E1.out]; rfl, by first | exact HB.out | exact below_drewN HB.out _⟩
 | true =>
  go_wp2_with fail
  go_region
  all_goals go_wp2
  go_ret3
  exact ⟨by rw [← E2.out, show head1d sz sl tg true = head1 sz sl tg + 281474976710656 from rfl, ← E3.out, ← E1.out]; rfl, by first | exact HB.out | exact below_drewN HB.out _⟩
set_option maxRecDepth 100000 in
set_option maxHeartbeats 4000000 in
theorem headUnpackD_any (sz sl tg : Int) (dn : Bool) (sc ep : Int) (w : World) (H : HeadOk sz sl tg sc ep) :
  Calls Tryz.prog 148 #[.int .u64 (head1d sz sl tg dn), .int .u64 (head2 sc ep)] w fun r w' => r = .returned (.tuple #[headD sz sl tg dn sc ep, .int .i64 0]) ∧ Below w.heap.size w w' := by
 have HP := fun W => Lib.hid (headPackD_any sz sl tg dn sc ep W H)
 obtain ⟨hb0, hb1, hb2, hb3, hb4, hb5⟩ := head1d_bit (dn := dn) H
 have db : ((if dn then 1 else 0 : Int) == 1) = dn := by cases dn <;> rfl
 have db2 : decide ((if dn then 1 else 0 : Int) = 1) = dn := by cases dn <;> rfl
 obtain ⟨⟨s0, s1⟩, ⟨z0, z1⟩, ⟨t0, t1⟩, ⟨c0, c1⟩, ⟨p0, p1⟩⟩ := H
 obtain ⟨dI, HdI⟩ : ∃ x : Int, Hid ((if dn then 1 else 0 : Int) = x) := ⟨_, Lib.hid rfl⟩
 rw [HdI.out] at hb5 db db2
 have dI0 : 0 ≤ dI ∧ dI ≤ 1 := by rw [← HdI.out]; split <;> omega
 obtain ⟨one, H1⟩ : ∃ x, Hid (head1d sz sl tg dn = x) := ⟨_, Lib.hid rfl⟩
 obtain ⟨two, H2⟩ : ∃ x, Hid (head2 sc ep = x) := ⟨_, Lib.hid rfl⟩
 have o0 : 0 ≤ one := by rw [← H1.out]; exact hb0
 have o1 : one ≤ 18446744073709551615 := by rw [← H1.out]; exact hb1
 have o2 : 0 ≤ two := by rw [← H2.out]; unfold head2; omega
 have o3 : two ≤ 18446744073709551615 := by rw [← H2.out]; unfold head2; omega
 have m1 : bits .and .u64 one 4294967295 = sz := by rw [u64_mask 32 one 4294967295 (by omega) rfl o0 (by omega), ← H1.out]; exact hb2
 have m6 : two / 256 = ep := by rw [← H2.out]; unfold head2; omega
 have P2 : ∀ W, Hid (Calls Tryz.prog 152 #[.int .u64 one, .int .i64 32] W fun r w' => r = .returned (.int .i64 sl) ∧ w' = W) := fun W => Lib.hid (by have h := headPart32 one W o0 o1; rwa [show one / 4294967296 % 256 = sl by rw [← H1.out]; exact hb3] at h)
 have P3 : ∀ W, Hid (Calls Tryz.prog 152 #[.int .u64 one, .int .i64 40] W fun r w' => r = .returned (.int .i64 tg) ∧ w' = W) := fun W => Lib.hid (by have h := headPart40 one W o0 o1; rwa [show one / 1099511627776 % 256 = tg by rw [← H1.out]; exact hb4] at h)
 have P4 : ∀ W, Hid (Calls Tryz.prog 152 #[.int .u64 one, .int .i64 48] W fun r w' => r = .returned (.int .i64 dI) ∧ w' = W) := fun W => Lib.hid (by have h := headPart48 one W o0 o1; rwa [show one / 281474976710656 % 256 = dI by rw [← H1.out]; exact hb5] at h)
 have P5 : ∀ W, Hid (Calls Tryz.prog 152 #[.int .u64 two, .int .i64 0] W fun r w' => r = .returned (.int .i64 sc) ∧ w' = W) := fun W => Lib.hid (by have h := headPart0 two W o2 o3; rwa [show two % 256 = sc by rw [← H2.out]; unfold head2; omega] at h)
 simp only [H1.out, H2.out] at HP ⊢
 clear H1 H2 hb0 hb1 hb2 hb3 hb4 hb5
 have R2 := Lib.hid (show ((w.alloc (.cells (hdCells 0 0 0 false 0 0) 148)).alloc (.cells (hdCells sz sl tg dn sc ep) 148)).heap[w.heap.size]? = some (.cells (hdCells 0 0 0 false 0 0) 148 (0, 0)) from row_alloc (row_new w _ _))
 have R4 := Lib.hid (show ((w.alloc (.cells (hdCells 0 0 0 false 0 0) 148)).alloc (.cells (hdCells sz sl tg dn sc ep) 148)).heap[w.heap.size + 1]? = some (.cells (hdCells sz sl tg dn sc ep) 148 (0, 0)) from heap_at (by simp))
 have B0 := Lib.hid (show Below w.heap.size w ((w.alloc (.cells (hdCells 0 0 0 false 0 0) 148)).alloc (.cells (hdCells sz sl tg dn sc ep) 148)) by go_grown)
 go_enter Tryz.func148, Tryz.ntmps148
 go_wp2_with fail
 refine (P2 _).out.mono ?_
 rintro r wa ⟨rfl, e2⟩
 rw [e2]
 clear e2 wa
 go_wp2_with fail
 refine (P3 _).out.mono ?_
 rintro r wa ⟨rfl, e2⟩
 rw [e2]
 clear e2 wa
 go_wp2_with fail
 refine (P4 _).out.mono ?_
 rintro r wa ⟨rfl, e2⟩
 rw [e2]
 clear e2 wa
 go_wp2_with fail
 refine (P5 _).out.mono ?_
 rintro r wa ⟨rfl, e2⟩
 rw [e2]
 clear e2 wa
 go_wp2_with fail
 refine (HP _).out.mono ?_
 rintro r w1 ⟨rfl, hb⟩
 have R2' := Lib.hid (row_below R2.out hb)
 have B1 := Lib.hid (below_only B0.out hb)
 obtain ⟨x0, x1, x2, x3, x4, x5⟩ := box6 (row_below R4.out hb)
 have zw := lt_of_heap (row_below R4.out hb)
 clear hb
 go_wp2_with (first | refine wpList_store_row rfl 148 (.tmp 4) (.tmp 50) rfl w.heap.size (hdCells sz sl tg dn sc ep) rfl rfl 148 _ R2'.out infoHd rfl (hd_one _ _ _ _ _ _) ?_)
 refine bodyPost_ret (results_cell_row_tmp (fn := Tryz.f148) rfl _ _ w.heap.size 148 (hdCells sz sl tg dn sc ep) (0, 0) _ rfl (setRow_heap w1 _ _ _ _ (0, 0) R2'.out) undHd rfl infoHd) rfl ?_
 exact ⟨rfl, below_setRow B1.out (Nat.le_refl _) _⟩
set_option maxRecDepth 100000 in
set_option maxHeartbeats 4000000 in
theorem thingAtD_any (p b : Nat) (ws : List Int) (k : Nat) (a : Int) (sz sl tg : Int) (dn : Bool) (sc ep : Int) (w : World) (hA : Arn w p b ws) (H : HeadOk sz sl tg sc ep) (h1 : ws[k]? = some (head1d sz sl tg dn)) (h2 : ws[k + 1]? = some (head2 sc ep)) (ha : a = 8 * (k : Int)) :
  Calls Tryz.prog 128 #[.pointer (some ⟨p, 0, none⟩), .int .i64 a] w fun r w' => r = .returned (.tuple #[headD sz sl tg dn sc ep, .int .i64 0]) ∧ Below w.heap.size w w' := by
 have hs := hA.small
 have l1 := (List.getElem?_eq_some_iff.1 h1).1
 have a0 : 0 ≤ a := by omega
 have a1 : a ≤ 65536 := by omega
 have e1 : ((k * 8 : Nat) : Int) = a := by omega
 have e2 : (((k + 1) * 8 : Nat) : Int) = a + 8 := by omega
 have HW1 := fun W (h : Arn W p b ws) => Lib.hid (arnWord_any p b ws k (head1d sz sl tg dn) W h h1)
 have HW2 := fun W (h : Arn W p b ws) => Lib.hid (arnWord_any p b ws (k + 1) (head2 sc ep) W h h2)
 have HU := fun W => Lib.hid (headUnpackD_any sz sl tg dn sc ep W H)
 obtain ⟨one, H1⟩ : ∃ x, Hid (head1d sz sl tg dn = x) := ⟨_, Lib.hid rfl⟩
 obtain ⟨two, H2⟩ : ∃ x, Hid (head2 sc ep = x) := ⟨_, Lib.hid rfl⟩
 simp only [e1, e2, H1.out, H2.out] at HW1 HW2 HU
 have HA := Lib.hid hA
 clear H h1 h2 H1 H2 ha hs l1 hA e1 e2
 go_enter Tryz.func128, Tryz.ntmps128
 go_upto_region 1 with fail
 refine one_row w _ _ ?_
 intro W hR hB
 replace HA := Lib.hid (HA.out.below hB)
 have HR := Lib.hid hR
 have HB := Lib.hid hB
 clear hR hB
 go_wp2_with fail
 refine (HW1 _ HA.out).out.mono ?_
 rintro r wa ⟨rfl, e2⟩
 rw [e2]
 clear e2 wa
 go_wp2_with fail
 refine (HW2 _ HA.out).out.mono ?_
 rintro r wa ⟨rfl, e2⟩
 rw [e2]
 clear e2 wa
 go_wp2_with fail
 refine (HU _).out.mono ?_
 rintro r w1 ⟨rfl, hb⟩
 replace HR := Lib.hid (row_below HR.out hb)
 replace HB := Lib.hid (below_only HB.out hb)
 clear hb
 go_wp2_with (first | refine wpList_store_row rfl 148 (.tmp 4) (.tmp 31) rfl w.heap.size (hdCells sz sl tg dn sc ep) rfl rfl 148 _ HR.out infoHd rfl (hd_one _ _ _ _ _ _) ?_)
 refine bodyPost_ret (results_cell_row_tmp (fn := Tryz.f128) rfl _ _ w.heap.size 148 (hdCells sz sl tg dn sc ep) (0, 0) _ rfl (setRow_heap w1 _ _ _ _ (0, 0) HR.out) undHd rfl infoHd) rfl ?_
 exact ⟨rfl, below_setRow HB.out (Nat.le_refl _) _⟩
section
variable (p b : Nat) (ws : List Int) (k : Nat) (a : Int) (sz sl tg : Int) (dn : Bool) (sc ep : Int) (w : World)
set_option maxRecDepth 100000 in
set_option maxHeartbeats 2000000 in
theorem thingSlot_any (hA : Arn w p b ws) (H : HeadOk sz sl tg sc ep) (h1 : ws[k]? = some (head1d sz sl tg dn)) (h2 : ws[k + 1]? = some (head2 sc ep)) (ha : a = 8 * (k : Int)) (i : Nat) (hi : (i : Int) < sl) :
  Calls Tryz.prog 130 #[.pointer (some ⟨p, 0, none⟩), .int .i64 a, .int .i64 i] w fun r w' => r = .returned (.tuple #[.int .i64 (a + 16 + 8 * (i : Int)), .int .i64 0]) ∧ Below w.heap.size w w' := by
 have HT := Lib.hid (thingAtD_any p b ws k a sz sl tg dn sc ep w hA H h1 h2 ha)
 have hs := hA.small
 have l1 := (List.getElem?_eq_some_iff.1 h1).1
 have a0 : 0 ≤ a := by omega
 have a1 : a ≤ 65536 := by omega
 have i0 : (0 : Int) ≤ (i : Int) := by omega
 have i6 : (i : Int) ≤ 6 := by have := H.hsl; omega
 have s6 : sl ≤ 6 := H.hsl.2
 clear hA H h1 h2 ha hs l1
 go_enter Tryz.func130, Tryz.ntmps130
 go_wp2_with fail
 refine HT.out.mono ?_
 rintro r w1 ⟨rfl, hb⟩
 have HB := Lib.hid hb
 clear hb HT
 go_upto_region 2 with (first | refine wpList_store_row rfl 148 (.tmp 8) (.tmp 14) rfl w1.heap.size (hdCells sz sl tg dn sc ep) rfl rfl 148 _ (row_new _ _ _) infoHd rfl (hd_one _ _ _ _ _ _) ?_)
 refine alloc_set' w1 _ _ _ ?_
 intro w2 hr hb
 replace HB := Lib.hid (below_only HB.out hb)
 obtain ⟨x0, x1, x2, x3, x4, x5⟩ := box6 hr
 have zw := lt_of_heap hr
 clear hr hb
 have hlt : decide (sl ≤ (i : Int)) = false := decide_eq_false (by omega)
 go_wp2_with fail
 go_ret2
 exact ⟨by first | rfl | (congr 3; omega), HB.out⟩
set_option maxRecDepth 100000 in
set_option maxHeartbeats 2000000 in
theorem thingMark_any (hA : Arn w p b ws) (H : HeadOk sz sl tg sc ep) (h1 : ws[k]? = some (head1d sz sl tg dn)) (h2 : ws[k + 1]? = some (head2 sc ep)) (ha : a = 8 * (k : Int)) :
  Calls Tryz.prog 134 #[.pointer (some ⟨p, 0, none⟩), .int .i64 a] w fun r w' => r = .returned (.int .i64 0) ∧ Arn w' p b (ws.set k (head1d sz sl tg true)) ∧ Keep [b] w w' := by
 have HT := Lib.hid (thingAtD_any p b ws k a sz sl tg dn sc ep w hA H h1 h2 ha)
 have HP := fun W => Lib.hid (headPackD_any sz sl tg true sc ep W H)
 have hbit := head1d_bit (dn := true) H
 have HW := fun W (h : Arn W p b ws) => Lib.hid (arnPut_any p b ws k (head1d sz sl tg dn) (head1d sz sl tg true) W h h1 ⟨hbit.1, by omega⟩)
 have hs := hA.small
 have l1 := (List.getElem?_eq_some_iff.1 h1).1
 have e1 : ((k * 8 : Nat) : Int) = a := by omega
 obtain ⟨one, H1⟩ : ∃ x, Hid (head1d sz sl tg true = x) := ⟨_, Lib.hid rfl⟩
 obtain ⟨two, H2⟩ : ∃ x, Hid (head2 sc ep = x) := ⟨_, Lib.hid rfl⟩
 simp only [e1, H1.out, H2.out] at HP HW
 rw [H1.out]
 have HA := Lib.hid hA
 clear hA H h1 h2 ha hs l1 hbit H1 H2 e1
 go_enter Tryz.func134, Tryz.ntmps134
 go_wp2_with fail
 refine HT.out.mono ?_
 rintro r w1 ⟨rfl, hb⟩
 have HB := Lib.hid hb
 replace HA := Lib.hid (HA.out.below hb)
 have HB1 := Lib.hid HB.out.size
 have HPB : Hid (p ≠ w1.heap.size ∧ b ≠ w1.heap.size) := Lib.hid (by have := lt_of_heap HA.out.box; have := lt_of_heap HA.out.row; omega)
 clear hb HT
 go_upto_region 2 with (first | refine wpList_store_row rfl 148 (.tmp 5) (.tmp 14) rfl w1.heap.size (hdCells sz sl tg dn sc ep) rfl rfl 148 _ (row_new _ _ _) infoHd rfl (hd_one _ _ _ _ _ _) ?_)
 refine alloc_set' w1 _ _ _ ?_
 intro w2 hr hb
 replace HB := Lib.hid (below_only HB.out hb)
 replace HA := Lib.hid (HA.out.below hb)
 have HR := Lib.hid hr
 have f3 := row_frozen hr 3
 obtain ⟨x0, x1, x2, x3, x4, x5⟩ := box6 hr
 have zw := lt_of_heap hr
 have Hge := Lib.hid HB.out.size
 have Hz : Hid (w.heap.size ≤ w1.heap.size) := Lib.hid (HB1.out)
 have Hpg : Hid (p ≠ w1.heap.size ∧ b ≠ w1.heap.size) := Lib.hid HPB.out
 obtain ⟨g, Hg⟩ : ∃ x, x = w1.heap.size := ⟨_, rfl⟩
 rw [← Hg] at HR x0 x1 x2 x3 x4 x5 f3 zw Hz Hpg ⊢
 clear hr hb Hg
 go_upto_region 5 with fail
 clear x0 x1 x2 x3 x4 x5 f3 zw
 refine set_oneR w2 g 3 (.bool true) _ _ HR.out ?_
 intro w3 hr hk
 replace HR := Lib.hid hr
 replace HB := Lib.hid (show Below w.heap.size w w3 from Keep.under HB.out hk (by have := HB.out.size; omega) (fun j hj => by simp at hj; have := Hz.out; omega))
 replace HA := Lib.hid (HA.out.kept hk (by simpa using Hpg.out.1) (by simpa using Hpg.out.2))
 clear hr hk
 go_wp2_with (first | refine wpList_load_row rfl 148 (.tmp 5) rfl g rfl 148 (hdCells sz sl tg true sc ep) (0, 0) _ HR.out undHd rfl infoHd ?_)
 refine (HP _).out.mono ?_
 rintro r w4 ⟨rfl, hb⟩
 replace HB := Lib.hid (below_only HB.out hb)
 replace HA := Lib.hid (HA.out.below hb)
 clear hb HP
 go_wp2_with fail
 refine (HW _ HA.out).out.mono ?_
 rintro r w5 ⟨rfl, hA5, hk⟩
 go_wp2_with fail
 go_ret
 exact ⟨rfl, hA5, (keep_below HB.out [b]).trans hk⟩
end
end Go.Proofs.YtbijaloeilnjoaaGreat
