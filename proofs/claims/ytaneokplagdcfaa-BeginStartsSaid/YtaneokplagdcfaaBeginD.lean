/- The walks of begin's refuse and pc, op by op. -/
import Derived.Test.YtaneokplagdcfaaBeginC
import Derived.Deep.RegionHeld3
namespace Go.Proofs.Ytaneokplagdcfaa
open Go.RowKit

theorem cells_lit {X : World} {t : TypeId} {g : Nat} (cs : List Value) (hg : g = X.heap.size) : Cells (X.alloc (.cells cs.toArray t)) (some ⟨g, 0, none⟩) cs :=
  Cells.of_row (heap_at hg) (fun j v hv => by rw [Nat.zero_add, List.getElem?_toArray]; exact hv)

/-- what is known of a call ahead of its being laid in memory -/
structure AskIn (w : World) (P : Pln) (A : Option Addr) (k : Nat) (l : List Ent) (c : Cal) (h v : Int) : Prop where
  ents : Ents w A l
  len : l.length ≤ 1048576
  cap : l.length ≤ k
  s0 : 1 ≤ P.s
  s1 : P.s ≤ 8
  cal : CalOk c
  h0 : 0 ≤ h
  h1 : h ≤ 18446744073709551615
  v0 : 0 ≤ v
  v1 : v ≤ 18446744073709551615
theorem AskIn.box {w : World} {P : Pln} {A : Option Addr} {k : Nat} {l : List Ent} {c : Cal} {h v : Int} (a : AskIn w P A k l c h v) :
    Ask (w.alloc (.cells #[.int .i64 P.s, .int .i64 P.t, .int .i64 P.i, .int .i64 P.h, .slice A l.length k, .int .u8 c.op, .int .u8 c.r, .int .u8 c.h, .int .u8 c.v, .int .i64 c.a, .int .i64 c.b, .int .i64 c.c, .int .u64 h, .int .u64 v] 71)) w.heap.size P A k l c h v :=
  { row := row_new w _ _, ents := Cells.alloc a.ents _, len := a.len, cap := a.cap, s0 := a.s0, s1 := a.s1, cal := a.cal, h0 := a.h0, h1 := a.h1, v0 := a.v0, v1 := a.v1 }
abbrev askVal (P : Pln) (A : Option Addr) (k : Nat) (l : List Ent) (c : Cal) (h v : Int) : Value :=
  .agg #[.int .i64 P.s, .int .i64 P.t, .int .i64 P.i, .int .i64 P.h, .slice A l.length k, .int .u8 c.op, .int .u8 c.r, .int .u8 c.h, .int .u8 c.v, .int .i64 c.a, .int .i64 c.b, .int .i64 c.c, .int .u64 h, .int .u64 v]

section
variable (P : Pln) (A : Option Addr) (k : Nat) (l : List Ent)

set_option maxRecDepth 100000 in
set_option maxHeartbeats 1000000 in
theorem refuse0 (cr ch cv ca cb cc h v : Int) (w : World) (a : AskIn w P A k l ⟨0, cr, ch, cv, ca, cb, cc⟩ h v) :
    Calls Try.prog 26 #[askVal P A k l ⟨0, cr, ch, cv, ca, cb, cc⟩ h v] w fun r w' => r = .returned (.int .i64 (beginS P.s l ⟨0, cr, ch, cv, ca, cb, cc⟩ h v).1) ∧ Below w.heap.size w w' := by
  have HA := Lib.hid a.box
  have B : Below w.heap.size w (w.alloc (.cells #[.int .i64 P.s, .int .i64 P.t, .int .i64 P.i, .int .i64 P.h, .slice A l.length k, .int .u8 0, .int .u8 cr, .int .u8 ch, .int .u8 cv, .int .i64 ca, .int .i64 cb, .int .i64 cc, .int .u64 h, .int .u64 v] 71)) := by go_grown
  have HS := Lib.hid (fun W lo (b : Ask W w.heap.size P A k l ⟨0, cr, ch, cv, ca, cb, cc⟩ h v) => askScope_any w.heap.size P A k l ⟨0, cr, ch, cv, ca, cb, cc⟩ h v W lo b)
  have HRe := Lib.hid (fun W (b : Ask W w.heap.size P A k l ⟨0, cr, ch, cv, ca, cb, cc⟩ h v) => askReach_any w.heap.size P A k l ⟨0, cr, ch, cv, ca, cb, cc⟩ h v W b)
  have HD := Lib.hid (fun W (b : Ask W w.heap.size P A k l ⟨0, cr, ch, cv, ca, cb, cc⟩ h v) => askDeep_any w.heap.size P A k l ⟨0, cr, ch, cv, ca, cb, cc⟩ h v W b)
  have HCk := Lib.hid (fun W x x0 x1 (b : Ask W w.heap.size P A k l ⟨0, cr, ch, cv, ca, cb, cc⟩ h v) => askCheck_any w.heap.size P A k l ⟨0, cr, ch, cv, ca, cb, cc⟩ h v W x x0 x1 b)
  have h0 := a.h0
  have h1 := a.h1
  have v0 := a.v0
  have v1 := a.v1
  obtain ⟨⟨k0, k1, k2, k3, k4⟩, ⟨k5, k6, k7, k8, k9, k10, k11⟩, k12, k13⟩ := HA.out.cells
  have z0 := lt_of_heap HA.out.row
  clear a
  go_enter Try.func26, Try.ntmps26
  go_wp2_with fail
  go_ret
  exact ⟨by simp [beginS], by first | exact B | go_grown⟩

set_option maxRecDepth 100000 in
set_option maxHeartbeats 1000000 in
theorem refuse1 (cr ch cv ca cb cc h v : Int) (w : World) (a : AskIn w P A k l ⟨1, cr, ch, cv, ca, cb, cc⟩ h v) :
    Calls Try.prog 26 #[askVal P A k l ⟨1, cr, ch, cv, ca, cb, cc⟩ h v] w fun r w' => r = .returned (.int .i64 (beginS P.s l ⟨1, cr, ch, cv, ca, cb, cc⟩ h v).1) ∧ Below w.heap.size w w' := by
  have HA := Lib.hid a.box
  have B : Below w.heap.size w (w.alloc (.cells #[.int .i64 P.s, .int .i64 P.t, .int .i64 P.i, .int .i64 P.h, .slice A l.length k, .int .u8 1, .int .u8 cr, .int .u8 ch, .int .u8 cv, .int .i64 ca, .int .i64 cb, .int .i64 cc, .int .u64 h, .int .u64 v] 71)) := by go_grown
  have HS := Lib.hid (fun W lo (b : Ask W w.heap.size P A k l ⟨1, cr, ch, cv, ca, cb, cc⟩ h v) => askScope_any w.heap.size P A k l ⟨1, cr, ch, cv, ca, cb, cc⟩ h v W lo b)
  have HRe := Lib.hid (fun W (b : Ask W w.heap.size P A k l ⟨1, cr, ch, cv, ca, cb, cc⟩ h v) => askReach_any w.heap.size P A k l ⟨1, cr, ch, cv, ca, cb, cc⟩ h v W b)
  have HD := Lib.hid (fun W (b : Ask W w.heap.size P A k l ⟨1, cr, ch, cv, ca, cb, cc⟩ h v) => askDeep_any w.heap.size P A k l ⟨1, cr, ch, cv, ca, cb, cc⟩ h v W b)
  have HCk := Lib.hid (fun W x x0 x1 (b : Ask W w.heap.size P A k l ⟨1, cr, ch, cv, ca, cb, cc⟩ h v) => askCheck_any w.heap.size P A k l ⟨1, cr, ch, cv, ca, cb, cc⟩ h v W x x0 x1 b)
  have h0 := a.h0
  have h1 := a.h1
  have v0 := a.v0
  have v1 := a.v1
  obtain ⟨⟨k0, k1, k2, k3, k4⟩, ⟨k5, k6, k7, k8, k9, k10, k11⟩, k12, k13⟩ := HA.out.cells
  have z0 := lt_of_heap HA.out.row
  clear a
  go_enter Try.func26, Try.ntmps26
  go_wp2_with (first | (go_at_call 53; refine (named_any _ _ [cr] _ (by simp) (cells_lit [.int .u8 cr] (by simp))).mono ?_; rintro r w1 ⟨rfl, hb⟩; (try clear z0); have HA' := Lib.hid (Ask.below (show Ask _ w.heap.size P A k l ⟨1, cr, ch, cv, ca, cb, cc⟩ h v by first | exact HA.out | exact HA.out.below (by go_grown)) hb); replace B := below_only (show Below w.heap.size w _ by first | exact B | go_grown) hb; clear HA hb k0 k1 k2 k3 k4 k5 k6 k7 k8 k9 k10 k11 k12 k13; obtain ⟨⟨k0, k1, k2, k3, k4⟩, ⟨k5, k6, k7, k8, k9, k10, k11⟩, k12, k13⟩ := HA'.out.cells; have HA := HA'; clear HA'; have z0 := lt_of_heap HA.out.row) | (go_at_call 51; refine (askMay_any _ _).mono ?_; rintro r w1 ⟨rfl, rfl⟩))
  go_ret
  exact ⟨by simp [beginS, mayE]; cases rgOk cr <;> rfl, by first | exact B | go_grown⟩

set_option maxRecDepth 100000 in
set_option maxHeartbeats 1000000 in
theorem refuse2 (cr ch cv ca cb cc h v : Int) (w : World) (a : AskIn w P A k l ⟨2, cr, ch, cv, ca, cb, cc⟩ h v) :
    Calls Try.prog 26 #[askVal P A k l ⟨2, cr, ch, cv, ca, cb, cc⟩ h v] w fun r w' => r = .returned (.int .i64 (beginS P.s l ⟨2, cr, ch, cv, ca, cb, cc⟩ h v).1) ∧ Below w.heap.size w w' := by
  have HA := Lib.hid a.box
  have B : Below w.heap.size w (w.alloc (.cells #[.int .i64 P.s, .int .i64 P.t, .int .i64 P.i, .int .i64 P.h, .slice A l.length k, .int .u8 2, .int .u8 cr, .int .u8 ch, .int .u8 cv, .int .i64 ca, .int .i64 cb, .int .i64 cc, .int .u64 h, .int .u64 v] 71)) := by go_grown
  have HS := Lib.hid (fun W lo (b : Ask W w.heap.size P A k l ⟨2, cr, ch, cv, ca, cb, cc⟩ h v) => askScope_any w.heap.size P A k l ⟨2, cr, ch, cv, ca, cb, cc⟩ h v W lo b)
  have HRe := Lib.hid (fun W (b : Ask W w.heap.size P A k l ⟨2, cr, ch, cv, ca, cb, cc⟩ h v) => askReach_any w.heap.size P A k l ⟨2, cr, ch, cv, ca, cb, cc⟩ h v W b)
  have HD := Lib.hid (fun W (b : Ask W w.heap.size P A k l ⟨2, cr, ch, cv, ca, cb, cc⟩ h v) => askDeep_any w.heap.size P A k l ⟨2, cr, ch, cv, ca, cb, cc⟩ h v W b)
  have HCk := Lib.hid (fun W x x0 x1 (b : Ask W w.heap.size P A k l ⟨2, cr, ch, cv, ca, cb, cc⟩ h v) => askCheck_any w.heap.size P A k l ⟨2, cr, ch, cv, ca, cb, cc⟩ h v W x x0 x1 b)
  have h0 := a.h0
  have h1 := a.h1
  have v0 := a.v0
  have v1 := a.v1
  obtain ⟨⟨k0, k1, k2, k3, k4⟩, ⟨k5, k6, k7, k8, k9, k10, k11⟩, k12, k13⟩ := HA.out.cells
  have z0 := lt_of_heap HA.out.row
  clear a
  go_enter Try.func26, Try.ntmps26
  go_wp2_with (first | (go_at_call 47; refine (within_any _ _ _ _).mono ?_; rintro r w1 ⟨rfl, rfl⟩) | (go_at_call 51; refine (askMay_any _ _).mono ?_; rintro r w1 ⟨rfl, rfl⟩))
  go_ret
  exact ⟨by simp [beginS, mayE]; cases inB ca 1 8192 <;> rfl, by first | exact B | go_grown⟩

set_option maxRecDepth 100000 in
set_option maxHeartbeats 1000000 in
theorem refuse3 (cr ch cv ca cb cc h v : Int) (w : World) (a : AskIn w P A k l ⟨3, cr, ch, cv, ca, cb, cc⟩ h v) :
    Calls Try.prog 26 #[askVal P A k l ⟨3, cr, ch, cv, ca, cb, cc⟩ h v] w fun r w' => r = .returned (.int .i64 (beginS P.s l ⟨3, cr, ch, cv, ca, cb, cc⟩ h v).1) ∧ Below w.heap.size w w' := by
  have HA := Lib.hid a.box
  have B : Below w.heap.size w (w.alloc (.cells #[.int .i64 P.s, .int .i64 P.t, .int .i64 P.i, .int .i64 P.h, .slice A l.length k, .int .u8 3, .int .u8 cr, .int .u8 ch, .int .u8 cv, .int .i64 ca, .int .i64 cb, .int .i64 cc, .int .u64 h, .int .u64 v] 71)) := by go_grown
  have HS := Lib.hid (fun W lo (b : Ask W w.heap.size P A k l ⟨3, cr, ch, cv, ca, cb, cc⟩ h v) => askScope_any w.heap.size P A k l ⟨3, cr, ch, cv, ca, cb, cc⟩ h v W lo b)
  have HRe := Lib.hid (fun W (b : Ask W w.heap.size P A k l ⟨3, cr, ch, cv, ca, cb, cc⟩ h v) => askReach_any w.heap.size P A k l ⟨3, cr, ch, cv, ca, cb, cc⟩ h v W b)
  have HD := Lib.hid (fun W (b : Ask W w.heap.size P A k l ⟨3, cr, ch, cv, ca, cb, cc⟩ h v) => askDeep_any w.heap.size P A k l ⟨3, cr, ch, cv, ca, cb, cc⟩ h v W b)
  have HCk := Lib.hid (fun W x x0 x1 (b : Ask W w.heap.size P A k l ⟨3, cr, ch, cv, ca, cb, cc⟩ h v) => askCheck_any w.heap.size P A k l ⟨3, cr, ch, cv, ca, cb, cc⟩ h v W x x0 x1 b)
  have h0 := a.h0
  have h1 := a.h1
  have v0 := a.v0
  have v1 := a.v1
  obtain ⟨⟨k0, k1, k2, k3, k4⟩, ⟨k5, k6, k7, k8, k9, k10, k11⟩, k12, k13⟩ := HA.out.cells
  have z0 := lt_of_heap HA.out.row
  clear a
  go_enter Try.func26, Try.ntmps26
  go_wp2_with (first | (go_at_call 46; refine (HS.out _ _ (by first | exact HA.out | exact HA.out.below (by go_grown))).mono ?_; rintro r w1 ⟨rfl, rfl⟩))
  go_ret
  exact ⟨by simp [beginS, scopeE]; cases inB ca 1 (P.s - 1) <;> rfl, by first | exact B | go_grown⟩

set_option maxRecDepth 100000 in
set_option maxHeartbeats 1000000 in
theorem refuse4 (cr ch cv ca cb cc h v : Int) (w : World) (a : AskIn w P A k l ⟨4, cr, ch, cv, ca, cb, cc⟩ h v) :
    Calls Try.prog 26 #[askVal P A k l ⟨4, cr, ch, cv, ca, cb, cc⟩ h v] w fun r w' => r = .returned (.int .i64 (beginS P.s l ⟨4, cr, ch, cv, ca, cb, cc⟩ h v).1) ∧ Below w.heap.size w w' := by
  have HA := Lib.hid a.box
  have B : Below w.heap.size w (w.alloc (.cells #[.int .i64 P.s, .int .i64 P.t, .int .i64 P.i, .int .i64 P.h, .slice A l.length k, .int .u8 4, .int .u8 cr, .int .u8 ch, .int .u8 cv, .int .i64 ca, .int .i64 cb, .int .i64 cc, .int .u64 h, .int .u64 v] 71)) := by go_grown
  have HS := Lib.hid (fun W lo (b : Ask W w.heap.size P A k l ⟨4, cr, ch, cv, ca, cb, cc⟩ h v) => askScope_any w.heap.size P A k l ⟨4, cr, ch, cv, ca, cb, cc⟩ h v W lo b)
  have HRe := Lib.hid (fun W (b : Ask W w.heap.size P A k l ⟨4, cr, ch, cv, ca, cb, cc⟩ h v) => askReach_any w.heap.size P A k l ⟨4, cr, ch, cv, ca, cb, cc⟩ h v W b)
  have HD := Lib.hid (fun W (b : Ask W w.heap.size P A k l ⟨4, cr, ch, cv, ca, cb, cc⟩ h v) => askDeep_any w.heap.size P A k l ⟨4, cr, ch, cv, ca, cb, cc⟩ h v W b)
  have HCk := Lib.hid (fun W x x0 x1 (b : Ask W w.heap.size P A k l ⟨4, cr, ch, cv, ca, cb, cc⟩ h v) => askCheck_any w.heap.size P A k l ⟨4, cr, ch, cv, ca, cb, cc⟩ h v W x x0 x1 b)
  have h0 := a.h0
  have h1 := a.h1
  have v0 := a.v0
  have v1 := a.v1
  obtain ⟨⟨k0, k1, k2, k3, k4⟩, ⟨k5, k6, k7, k8, k9, k10, k11⟩, k12, k13⟩ := HA.out.cells
  have z0 := lt_of_heap HA.out.row
  clear a
  go_enter Try.func26, Try.ntmps26
  go_wp2_with (first | (go_at_call 46; refine (HS.out _ _ (by first | exact HA.out | exact HA.out.below (by go_grown))).mono ?_; rintro r w1 ⟨rfl, rfl⟩) | (go_at_call 49; refine (HD.out _ (by first | exact HA.out | exact HA.out.below (by go_grown))).mono ?_; rintro r w1 ⟨rfl, hb⟩; (try clear z0); have HA' := Lib.hid (Ask.below (show Ask _ w.heap.size P A k l ⟨4, cr, ch, cv, ca, cb, cc⟩ h v by first | exact HA.out | exact HA.out.below (by go_grown)) hb); replace B := below_only (show Below w.heap.size w _ by first | exact B | go_grown) hb; clear HA hb k0 k1 k2 k3 k4 k5 k6 k7 k8 k9 k10 k11 k12 k13; obtain ⟨⟨k0, k1, k2, k3, k4⟩, ⟨k5, k6, k7, k8, k9, k10, k11⟩, k12, k13⟩ := HA'.out.cells; have HA := HA'; clear HA'; have z0 := lt_of_heap HA.out.row) | (go_at_call 54; refine (first_any _ _ [scopeE P.s ca 1, deepE l] _ (by simp) (cells_lit [.int .i64 (scopeE P.s ca 1), .int .i64 (deepE l)] (by simp))).mono ?_; rintro r w1 ⟨rfl, rfl⟩))
  go_ret
  exact ⟨by by_cases h6 : 6 ≤ l.length <;> cases hi : inB ca 1 (P.s - 1) <;> simp [beginS, scopeE, deepE, firstC, h6, hi], by first | exact B | go_grown⟩

set_option maxRecDepth 100000 in
set_option maxHeartbeats 1000000 in
theorem refuse6 (cr ch cv ca cb cc h v : Int) (w : World) (a : AskIn w P A k l ⟨6, cr, ch, cv, ca, cb, cc⟩ h v) :
    Calls Try.prog 26 #[askVal P A k l ⟨6, cr, ch, cv, ca, cb, cc⟩ h v] w fun r w' => r = .returned (.int .i64 (beginS P.s l ⟨6, cr, ch, cv, ca, cb, cc⟩ h v).1) ∧ Below w.heap.size w w' := by
  have HA := Lib.hid a.box
  have B : Below w.heap.size w (w.alloc (.cells #[.int .i64 P.s, .int .i64 P.t, .int .i64 P.i, .int .i64 P.h, .slice A l.length k, .int .u8 6, .int .u8 cr, .int .u8 ch, .int .u8 cv, .int .i64 ca, .int .i64 cb, .int .i64 cc, .int .u64 h, .int .u64 v] 71)) := by go_grown
  have HS := Lib.hid (fun W lo (b : Ask W w.heap.size P A k l ⟨6, cr, ch, cv, ca, cb, cc⟩ h v) => askScope_any w.heap.size P A k l ⟨6, cr, ch, cv, ca, cb, cc⟩ h v W lo b)
  have HRe := Lib.hid (fun W (b : Ask W w.heap.size P A k l ⟨6, cr, ch, cv, ca, cb, cc⟩ h v) => askReach_any w.heap.size P A k l ⟨6, cr, ch, cv, ca, cb, cc⟩ h v W b)
  have HD := Lib.hid (fun W (b : Ask W w.heap.size P A k l ⟨6, cr, ch, cv, ca, cb, cc⟩ h v) => askDeep_any w.heap.size P A k l ⟨6, cr, ch, cv, ca, cb, cc⟩ h v W b)
  have HCk := Lib.hid (fun W x x0 x1 (b : Ask W w.heap.size P A k l ⟨6, cr, ch, cv, ca, cb, cc⟩ h v) => askCheck_any w.heap.size P A k l ⟨6, cr, ch, cv, ca, cb, cc⟩ h v W x x0 x1 b)
  have h0 := a.h0
  have h1 := a.h1
  have v0 := a.v0
  have v1 := a.v1
  obtain ⟨⟨k0, k1, k2, k3, k4⟩, ⟨k5, k6, k7, k8, k9, k10, k11⟩, k12, k13⟩ := HA.out.cells
  have z0 := lt_of_heap HA.out.row
  clear a
  go_enter Try.func26, Try.ntmps26
  go_wp2_with (first | (go_at_call 46; refine (HS.out _ _ (by first | exact HA.out | exact HA.out.below (by go_grown))).mono ?_; rintro r w1 ⟨rfl, rfl⟩) | (go_at_call 48; refine (HRe.out _ (by first | exact HA.out | exact HA.out.below (by go_grown))).mono ?_; rintro r w1 ⟨rfl, hb⟩; (try clear z0); have HA' := Lib.hid (Ask.below (show Ask _ w.heap.size P A k l ⟨6, cr, ch, cv, ca, cb, cc⟩ h v by first | exact HA.out | exact HA.out.below (by go_grown)) hb); replace B := below_only (show Below w.heap.size w _ by first | exact B | go_grown) hb; clear HA hb k0 k1 k2 k3 k4 k5 k6 k7 k8 k9 k10 k11 k12 k13; obtain ⟨⟨k0, k1, k2, k3, k4⟩, ⟨k5, k6, k7, k8, k9, k10, k11⟩, k12, k13⟩ := HA'.out.cells; have HA := HA'; clear HA'; have z0 := lt_of_heap HA.out.row) | (go_at_call 49; refine (HD.out _ (by first | exact HA.out | exact HA.out.below (by go_grown))).mono ?_; rintro r w1 ⟨rfl, hb⟩; (try clear z0); have HA' := Lib.hid (Ask.below (show Ask _ w.heap.size P A k l ⟨6, cr, ch, cv, ca, cb, cc⟩ h v by first | exact HA.out | exact HA.out.below (by go_grown)) hb); replace B := below_only (show Below w.heap.size w _ by first | exact B | go_grown) hb; clear HA hb k0 k1 k2 k3 k4 k5 k6 k7 k8 k9 k10 k11 k12 k13; obtain ⟨⟨k0, k1, k2, k3, k4⟩, ⟨k5, k6, k7, k8, k9, k10, k11⟩, k12, k13⟩ := HA'.out.cells; have HA := HA'; clear HA'; have z0 := lt_of_heap HA.out.row) | (go_at_call 54; refine (first_any _ _ [scopeE P.s ca 0, reachE l ca, deepE l] _ (by simp) (cells_lit [.int .i64 (scopeE P.s ca 0), .int .i64 (reachE l ca), .int .i64 (deepE l)] (by simp))).mono ?_; rintro r w1 ⟨rfl, rfl⟩))
  go_ret
  exact ⟨by by_cases h6 : 6 ≤ l.length <;> cases hi : inB ca 0 (P.s - 1) <;> cases hr : reach l ca <;> simp [beginS, scopeE, deepE, reachE, firstC, h6, hi, hr], by first | exact B | go_grown⟩

set_option maxRecDepth 100000 in
set_option maxHeartbeats 1000000 in
theorem refuse10 (cr ch cv ca cb cc h v : Int) (w : World) (a : AskIn w P A k l ⟨10, cr, ch, cv, ca, cb, cc⟩ h v) :
    Calls Try.prog 26 #[askVal P A k l ⟨10, cr, ch, cv, ca, cb, cc⟩ h v] w fun r w' => r = .returned (.int .i64 (beginS P.s l ⟨10, cr, ch, cv, ca, cb, cc⟩ h v).1) ∧ Below w.heap.size w w' := by
  have HA := Lib.hid a.box
  have B : Below w.heap.size w (w.alloc (.cells #[.int .i64 P.s, .int .i64 P.t, .int .i64 P.i, .int .i64 P.h, .slice A l.length k, .int .u8 10, .int .u8 cr, .int .u8 ch, .int .u8 cv, .int .i64 ca, .int .i64 cb, .int .i64 cc, .int .u64 h, .int .u64 v] 71)) := by go_grown
  have HS := Lib.hid (fun W lo (b : Ask W w.heap.size P A k l ⟨10, cr, ch, cv, ca, cb, cc⟩ h v) => askScope_any w.heap.size P A k l ⟨10, cr, ch, cv, ca, cb, cc⟩ h v W lo b)
  have HRe := Lib.hid (fun W (b : Ask W w.heap.size P A k l ⟨10, cr, ch, cv, ca, cb, cc⟩ h v) => askReach_any w.heap.size P A k l ⟨10, cr, ch, cv, ca, cb, cc⟩ h v W b)
  have HD := Lib.hid (fun W (b : Ask W w.heap.size P A k l ⟨10, cr, ch, cv, ca, cb, cc⟩ h v) => askDeep_any w.heap.size P A k l ⟨10, cr, ch, cv, ca, cb, cc⟩ h v W b)
  have HCk := Lib.hid (fun W x x0 x1 (b : Ask W w.heap.size P A k l ⟨10, cr, ch, cv, ca, cb, cc⟩ h v) => askCheck_any w.heap.size P A k l ⟨10, cr, ch, cv, ca, cb, cc⟩ h v W x x0 x1 b)
  have h0 := a.h0
  have h1 := a.h1
  have v0 := a.v0
  have v1 := a.v1
  obtain ⟨⟨k0, k1, k2, k3, k4⟩, ⟨k5, k6, k7, k8, k9, k10, k11⟩, k12, k13⟩ := HA.out.cells
  have z0 := lt_of_heap HA.out.row
  clear a
  go_enter Try.func26, Try.ntmps26
  go_wp2_with (first | (go_at_call 53; refine (named_any _ _ [cr] _ (by simp) (cells_lit [.int .u8 cr] (by simp))).mono ?_; rintro r w1 ⟨rfl, hb⟩; (try clear z0); have HA' := Lib.hid (Ask.below (show Ask _ w.heap.size P A k l ⟨10, cr, ch, cv, ca, cb, cc⟩ h v by first | exact HA.out | exact HA.out.below (by go_grown)) hb); replace B := below_only (show Below w.heap.size w _ by first | exact B | go_grown) hb; clear HA hb k0 k1 k2 k3 k4 k5 k6 k7 k8 k9 k10 k11 k12 k13; obtain ⟨⟨k0, k1, k2, k3, k4⟩, ⟨k5, k6, k7, k8, k9, k10, k11⟩, k12, k13⟩ := HA'.out.cells; have HA := HA'; clear HA'; have z0 := lt_of_heap HA.out.row) | (go_at_call 51; refine (askMay_any _ _).mono ?_; rintro r w1 ⟨rfl, rfl⟩) | (go_at_call 46; refine (HS.out _ _ (by first | exact HA.out | exact HA.out.below (by go_grown))).mono ?_; rintro r w1 ⟨rfl, rfl⟩) | (go_at_call 48; refine (HRe.out _ (by first | exact HA.out | exact HA.out.below (by go_grown))).mono ?_; rintro r w1 ⟨rfl, hb⟩; (try clear z0); have HA' := Lib.hid (Ask.below (show Ask _ w.heap.size P A k l ⟨10, cr, ch, cv, ca, cb, cc⟩ h v by first | exact HA.out | exact HA.out.below (by go_grown)) hb); replace B := below_only (show Below w.heap.size w _ by first | exact B | go_grown) hb; clear HA hb k0 k1 k2 k3 k4 k5 k6 k7 k8 k9 k10 k11 k12 k13; obtain ⟨⟨k0, k1, k2, k3, k4⟩, ⟨k5, k6, k7, k8, k9, k10, k11⟩, k12, k13⟩ := HA'.out.cells; have HA := HA'; clear HA'; have z0 := lt_of_heap HA.out.row) | (go_at_call 54; refine (first_any _ _ [mayE (rgOk cr), scopeE P.s ca 1, reachE l ca] _ (by simp) (cells_lit [.int .i64 (mayE (rgOk cr)), .int .i64 (scopeE P.s ca 1), .int .i64 (reachE l ca)] (by simp))).mono ?_; rintro r w1 ⟨rfl, rfl⟩))
  go_ret
  exact ⟨by cases hn : rgOk cr <;> cases hi : inB ca 1 (P.s - 1) <;> cases hr : reach l ca <;> simp [beginS, scopeE, mayE, reachE, firstC, hn, hi, hr], by first | exact B | go_grown⟩

end

end Go.Proofs.Ytaneokplagdcfaa
